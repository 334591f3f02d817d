/-
  Several texts in one: NumLaws, NumA, NumB, NumC.
-/
import Derived.KernelRfl
import Derived.Laws.Externs
import Derived.Deep.RegionWith
import Derived.Shelf.Spec.BitsCarry
import Derived.ChangeKeysEq
import Derived.Test.YtlgghcffmnofdaaGreatDoorCoinAll
import Derived.Test.YtlgghcffmnofdaaGreatDoorMildAll

/-
  Numbers in four words: what addition and subtraction with a carry give, word by word.
-/
namespace Go.Proofs.YtlgghcffmnofdaaGreatDoor.Nu

/-- A number's word. -/
def lim (n i : Nat) : Nat := n / 2 ^ (64 * i) % 2 ^ 64
/-- What goes over behind i words. -/
def car (a b i : Nat) : Nat := (a % 2 ^ (64 * i) + b % 2 ^ (64 * i)) / 2 ^ (64 * i)
def bor (a b i : Nat) : Nat := if a % 2 ^ (64 * i) < b % 2 ^ (64 * i) then 1 else 0

theorem lim_lt (n i : Nat) : lim n i < 18446744073709551616 := Nat.mod_lt _ (by decide)
theorem car_le (a b i : Nat) : car a b i ≤ 1 := by
  unfold car
  have hp : 0 < 2 ^ (64 * i) := Nat.two_pow_pos _
  have h1 := Nat.mod_lt a hp
  have h2 := Nat.mod_lt b hp
  have : (a % 2 ^ (64 * i) + b % 2 ^ (64 * i)) / 2 ^ (64 * i) < 2 := Nat.div_lt_of_lt_mul (by omega)
  omega
theorem bor_le (a b i : Nat) : bor a b i ≤ 1 := by unfold bor; split <;> omega
theorem car_zero (a b : Nat) : car a b 0 = 0 := by simp [car, Nat.mod_one]
theorem bor_zero (a b : Nat) : bor a b 0 = 0 := by simp [bor, Nat.mod_one]

theorem pow_succ64 (i : Nat) : 2 ^ (64 * (i + 1)) = 2 ^ (64 * i) * 2 ^ 64 := by rw [Nat.mul_add, Nat.pow_add]

theorem plus_lim (a b i : Nat) : (lim a i + lim b i + car a b i) % 18446744073709551616 = lim (a + b) i := by
  unfold lim car
  have hp : 0 < 2 ^ (64 * i) := Nat.two_pow_pos _
  generalize 2 ^ (64 * i) = B at *
  have ha := Nat.div_add_mod a B
  have hb := Nat.div_add_mod b B
  have e : (a + b) / B = a / B + b / B + (a % B + b % B) / B := by
    have : a + b = (a % B + b % B) + B * (a / B + b / B) := by rw [Nat.mul_add]; omega
    rw [this, Nat.add_mul_div_left _ _ hp]
    omega
  rw [e]
  omega
theorem plus_car (a b i : Nat) : (lim a i + lim b i + car a b i) / 18446744073709551616 = car a b (i + 1) := by
  unfold lim car
  rw [pow_succ64]
  have hp : 0 < 2 ^ (64 * i) := Nat.two_pow_pos _
  generalize 2 ^ (64 * i) = B at *
  rw [Nat.mod_mul, Nat.mod_mul, show a % B + B * (a / B % 2 ^ 64) + (b % B + B * (b / B % 2 ^ 64)) = (a % B + b % B) + B * (a / B % 2 ^ 64 + b / B % 2 ^ 64) by rw [Nat.mul_add]; omega,
    ← Nat.div_div_eq_div_mul, Nat.add_mul_div_left _ _ hp]
  omega

theorem minus_bor (a b i : Nat) : (if lim a i < lim b i + bor a b i then 1 else 0) = bor a b (i + 1) := by
  unfold lim bor
  rw [pow_succ64]
  have hp : 0 < 2 ^ (64 * i) := Nat.two_pow_pos _
  generalize 2 ^ (64 * i) = B at *
  rw [Nat.mod_mul, Nat.mod_mul]
  have h1 := Nat.mod_lt a hp
  have h2 := Nat.mod_lt b hp
  generalize a / B % 2 ^ 64 = x
  generalize b / B % 2 ^ 64 = y
  generalize a % B = r at *
  generalize b % B = s at *
  have key : (x < y + if r < s then 1 else 0) ↔ (r + B * x < s + B * y) := by
    rcases Nat.lt_trichotomy x y with h | h | h
    · have : B * (x + 1) ≤ B * y := Nat.mul_le_mul_left _ h
      rw [Nat.mul_add] at this
      constructor <;> intro _ <;> omega
    · subst h
      split <;> constructor <;> intro _ <;> omega
    · have : B * (y + 1) ≤ B * x := Nat.mul_le_mul_left _ h
      rw [Nat.mul_add] at this
      split <;> constructor <;> intro _ <;> omega
  by_cases hk : x < y + if r < s then 1 else 0
  · rw [if_pos hk, if_pos (key.1 hk)]
  · rw [if_neg hk, if_neg (fun h => hk (key.2 h))]

theorem lim_pow (i : Nat) (hi : i < 4) (a b : Nat) (ha : a < 2 ^ 256) (hb : b < 2 ^ 256) :
    (lim a i + 18446744073709551616 - lim b i - bor a b i) % 18446744073709551616 = lim (2 ^ 256 + a - b) i := by
  have e : (2 ^ 256 + a - b) + b = a + 2 ^ 256 := by omega
  have h1 := plus_lim (2 ^ 256 + a - b) b i
  rw [e] at h1
  have h2 : lim (a + 2 ^ 256) i = lim a i := by
    unfold lim
    rw [show (2 : Nat) ^ 256 = 2 ^ (64 * i) * (2 ^ 64 * 2 ^ (64 * (3 - i))) by rw [← Nat.pow_add, ← Nat.pow_add]; congr 1; omega, Nat.add_mul_div_left _ _ (Nat.two_pow_pos _), Nat.add_mul_mod_self_left]
  rw [h2] at h1
  have h3 : car (2 ^ 256 + a - b) b i = bor a b i := by
    unfold car bor
    have hp : 0 < 2 ^ (64 * i) := Nat.two_pow_pos _
    have hd : ∃ c, (2 : Nat) ^ 256 = 2 ^ (64 * i) * c := ⟨2 ^ (256 - 64 * i), by rw [← Nat.pow_add]; congr 1; omega⟩
    obtain ⟨c, hc⟩ := hd
    generalize 2 ^ (64 * i) = B at *
    have hm : (2 ^ 256 + a - b) % B = if a % B < b % B then B + a % B - b % B else a % B - b % B := by
      have h4 : ((2 ^ 256 + a - b) + b) % B = a % B := by rw [e, hc, Nat.add_mul_mod_self_left]
      have h5 := Nat.mod_lt (2 ^ 256 + a - b) hp
      have h6 := Nat.mod_lt a hp
      have h7 := Nat.mod_lt b hp
      rw [Nat.add_mod] at h4
      generalize (2 ^ 256 + a - b) % B = x at *
      generalize a % B = y at *
      generalize b % B = z at *
      by_cases h8 : x + z < B
      · rw [Nat.mod_eq_of_lt h8] at h4
        split <;> omega
      · rw [Nat.mod_eq_sub_mod (by omega), Nat.mod_eq_of_lt (by omega)] at h4
        split <;> omega
    rw [hm]
    have h6 := Nat.mod_lt a hp
    have h7 := Nat.mod_lt b hp
    generalize a % B = y at *
    generalize b % B = z at *
    split
    · rw [show B + y - z + z = B * 1 + y by omega, Nat.mul_add_div hp, Nat.div_eq_of_lt h6]
    · rw [show y - z + z = y by omega, Nat.div_eq_of_lt h6]
  rw [h3] at h1
  have := lim_lt a i
  have := lim_lt b i
  have := lim_lt (2 ^ 256 + a - b) i
  have := bor_le a b i
  omega

/-- What goes over behind i words of a product with a word. -/
def mca (a w i : Nat) : Nat := (a % 2 ^ (64 * i)) * w / 2 ^ (64 * i)
theorem mca_zero (a w : Nat) : mca a w 0 = 0 := by simp [mca, Nat.mod_one]
theorem mca_lt (a w i : Nat) (hw : w < 2 ^ 64) : mca a w i < 18446744073709551616 := by
  unfold mca
  have hp : 0 < 2 ^ (64 * i) := Nat.two_pow_pos _
  have h1 := Nat.mod_lt a hp
  generalize 2 ^ (64 * i) = B at *
  have h2 : (a % B) * w / B ≤ w := by
    apply Nat.div_le_of_le_mul
    exact Nat.mul_le_mul_right _ (Nat.le_of_lt h1)
  omega
theorem times_div (a w B : Nat) (hp : 0 < B) : a * w / B = (a % B) * w / B + (a / B) * w := by
  have : a * w = (a % B) * w + B * ((a / B) * w) := by
    rw [← Nat.mul_assoc, ← Nat.add_mul, Nat.mod_add_div]
  rw [this, Nat.add_mul_div_left _ _ hp]
theorem times_lim (a w i : Nat) : (lim a i * w % 18446744073709551616 + mca a w i) % 18446744073709551616 = lim (a * w) i := by
  unfold lim mca
  have hp : 0 < 2 ^ (64 * i) := Nat.two_pow_pos _
  generalize 2 ^ (64 * i) = B at *
  rw [times_div a w B hp, Nat.mod_add_mod, show (2 : Nat) ^ 64 = 18446744073709551616 from rfl, Nat.add_comm ((a % B) * w / B)]
  have h1 : (a / B % 18446744073709551616) * w % 18446744073709551616 = (a / B) * w % 18446744073709551616 := Nat.mod_mul_mod _ _ _
  omega
theorem times_mca (a w i : Nat) : lim a i * w / 18446744073709551616 + (lim a i * w % 18446744073709551616 + mca a w i) / 18446744073709551616 = mca a w (i + 1) := by
  unfold lim mca
  rw [pow_succ64]
  have hp : 0 < 2 ^ (64 * i) := Nat.two_pow_pos _
  generalize 2 ^ (64 * i) = B at *
  rw [Nat.mod_mul, Nat.add_mul, Nat.mul_assoc, ← Nat.div_div_eq_div_mul, Nat.add_mul_div_left _ _ hp]
  generalize a / B % 2 ^ 64 * w = x
  generalize a % B * w / B = y
  omega
theorem mca_four (a w : Nat) (ha : a < 2 ^ 256) : mca a w 4 = a * w / 2 ^ 256 := by
  unfold mca
  rw [show 64 * 4 = 256 from rfl, Nat.mod_eq_of_lt ha]
theorem car_four (a b : Nat) (ha : a < 2 ^ 256) (hb : b < 2 ^ 256) : car a b 4 = (a + b) / 2 ^ 256 := by
  unfold car
  rw [show 64 * 4 = 256 from rfl, Nat.mod_eq_of_lt ha, Nat.mod_eq_of_lt hb]
theorem bor_four (a b : Nat) (ha : a < 2 ^ 256) (hb : b < 2 ^ 256) : bor a b 4 = if a < b then 1 else 0 := by
  unfold bor
  rw [show 64 * 4 = 256 from rfl, Nat.mod_eq_of_lt ha, Nat.mod_eq_of_lt hb]

/-! ### A product's words -/

/-- What is out behind i words of b. -/
def prd (a b i : Nat) : Nat := a * (b % 2 ^ (64 * i))
theorem prd_succ (a b i : Nat) : prd a b (i + 1) = prd a b i + 2 ^ (64 * i) * (a * lim b i) := by
  unfold prd lim
  rw [pow_succ64, Nat.mod_mul, Nat.mul_add, Nat.mul_left_comm]
theorem prd_high (a b i : Nat) (ha : a < 2 ^ 256) : prd a b i / 2 ^ (64 * i) < 2 ^ 256 := by
  unfold prd
  have hp : 0 < 2 ^ (64 * i) := Nat.two_pow_pos _
  have h1 := Nat.mod_lt b hp
  generalize 2 ^ (64 * i) = B at *
  have : a * (b % B) / B ≤ a := by
    apply Nat.div_le_of_le_mul
    rw [Nat.mul_comm]
    exact Nat.mul_le_mul_right _ (Nat.le_of_lt h1)
  omega
theorem prd_div (a b i : Nat) : prd a b (i + 1) / 2 ^ (64 * i) = prd a b i / 2 ^ (64 * i) + a * lim b i := by
  rw [prd_succ, Nat.add_mul_div_left _ _ (Nat.two_pow_pos _)]
theorem lim_div (n i k : Nat) : lim (n / 2 ^ (64 * i)) k = lim n (i + k) := by
  unfold lim
  rw [Nat.div_div_eq_div_mul, ← Nat.pow_add, ← Nat.mul_add]
/-- The words behind which the row is added stay. -/
theorem prd_low (a b i j : Nat) (hj : j < i) : lim (prd a b (i + 1)) j = lim (prd a b i) j := by
  rw [prd_succ]
  unfold lim
  rw [show 2 ^ (64 * i) * (a * (b / 2 ^ (64 * i) % 2 ^ 64)) = 2 ^ (64 * j) * (2 ^ 64 * (2 ^ (64 * (i - j - 1)) * (a * (b / 2 ^ (64 * i) % 2 ^ 64)))) by
    rw [← Nat.mul_assoc (2 ^ 64), ← Nat.mul_assoc (2 ^ (64 * j)), ← Nat.pow_add, ← Nat.pow_add]; congr 2; omega, Nat.add_mul_div_left _ _ (Nat.two_pow_pos _), Nat.add_mul_mod_self_left]
/-- Those that the row is added to. -/
theorem prd_mid (a b i k : Nat) : lim (prd a b i / 2 ^ (64 * i) + a * lim b i) k = lim (prd a b (i + 1)) (i + k) := by
  rw [← prd_div, lim_div]
/-- The one behind. -/
theorem prd_top (a b i : Nat) (ha : a < 2 ^ 256) : mca a (lim b i) 4 + car (prd a b i / 2 ^ (64 * i)) (a * lim b i) 4 = lim (prd a b (i + 1)) (i + 4) ∧ mca a (lim b i) 4 + car (prd a b i / 2 ^ (64 * i)) (a * lim b i) 4 < 18446744073709551616 := by
  have hO := prd_high a b i ha
  have hw := lim_lt b i
  rw [mca_four _ _ ha, ← prd_mid]
  generalize prd a b i / 2 ^ (64 * i) = O at *
  generalize lim b i = w at *
  have hT : a * w ≤ (2 ^ 256 - 1) * (2 ^ 64 - 1) := Nat.mul_le_mul (by omega) (by omega)
  generalize a * w = T at *
  unfold car lim
  rw [show 64 * 4 = 256 from rfl]
  omega
theorem prd_zero (a b i j : Nat) (ha : a < 2 ^ 256) (hj : i + 4 ≤ j) : lim (prd a b i) j = 0 := by
  have h := prd_high a b i ha
  unfold lim
  have : prd a b i < 2 ^ (64 * j) := by
    have h1 : prd a b i < 2 ^ 256 * 2 ^ (64 * i) := (Nat.div_lt_iff_lt_mul (Nat.two_pow_pos _)).1 h
    refine Nat.lt_of_lt_of_le h1 ?_
    rw [← Nat.pow_add]
    exact Nat.pow_le_pow_right (by decide) (by omega)
  rw [Nat.div_eq_of_lt this]
theorem prd_first (a b : Nat) : prd a b 0 = 0 := by simp [prd, Nat.mod_one]
theorem prd_four (a b : Nat) (hb : b < 2 ^ 256) : prd a b 4 = a * b := by
  unfold prd
  rw [show 64 * 4 = 256 from rfl, Nat.mod_eq_of_lt hb]
theorem lim_lim (n i : Nat) : lim n i % 18446744073709551616 = lim n i := Nat.mod_eq_of_lt (lim_lt n i)
theorem lim_mod (n i : Nat) (hi : i < 4) : lim (n % 2 ^ 256) i = lim n i := by
  unfold lim
  have : (2 : Nat) ^ 256 = 2 ^ (64 * i) * 2 ^ (256 - 64 * i) := by rw [← Nat.pow_add]; congr 1; omega
  rw [this, Nat.mod_mul_right_div_self, show (2 : Nat) ^ (256 - 64 * i) = 2 ^ 64 * 2 ^ (192 - 64 * i) by rw [← Nat.pow_add]; congr 1; omega, Nat.mod_mul_right_mod]
end Go.Proofs.YtlgghcffmnofdaaGreatDoor.Nu

/-
  The walks of residue.Num: plus, minus.
-/
namespace Go.Proofs.YtlgghcffmnofdaaGreatDoor.Nu
open Go Go.RowKit Go.Proofs.YtlgghcffmnofdaaGreatDoor.Cn
set_option maxRecDepth 100000

abbrev w64 (n : Nat) : Value := .int .u64 (n : Int)
/-- A number as a value. -/
abbrev numV (n : Nat) : Value := .agg #[w64 (lim n 0), w64 (lim n 1), w64 (lim n 2), w64 (lim n 3)]

theorem add64 (x y c : Nat) (hc : c ≤ 1) (w : World) :
    (callFunc 253 #[.int .u64 x, .int .u64 y, .int .u64 c]).run Tryz.prog w =
      .ok (.value (.tuple #[.int .u64 (((x + y + c) % 18446744073709551616 : Nat) : Int), .int .u64 (((x + y + c) / 18446744073709551616 : Nat) : Int)])) w := by
  rw [run_callFunc_extern Tryz.func253 (by kernel_rfl) (by kernel_rfl) (by kernel_rfl) (e := add64Entry) (by kernel_rfl), run_add64 x y c (by omega) (by omega) (by omega) (by omega)]
  simp only [Result.andThen]
  congr 5 <;> omega
theorem sub64 (x y b : Nat) (hb : b ≤ 1) (w : World) :
    (callFunc 199 #[.int .u64 x, .int .u64 y, .int .u64 b]).run Tryz.prog w =
      .ok (.value (.tuple #[.int .u64 (((x + 18446744073709551616 - y - b) % 18446744073709551616 : Nat) : Int), .int .u64 ((if x < y + b then 1 else 0 : Nat) : Int)])) w := by
  rw [run_callFunc_extern Tryz.func199 (by kernel_rfl) (by kernel_rfl) (by kernel_rfl) (e := sub64Entry) (by kernel_rfl), run_sub64 x y b hb]
  rfl

/-- Words lie in a block. -/
structure Wd (w : World) (b n : Nat) (f : Nat → Nat) : Prop where
  at_ : ∀ i, i < n → w.cell? ⟨b, i, none⟩ = some (w64 (f i))
  lt : b < w.heap.size
  thaw : ∀ i, w.frozen? ⟨b, i, none⟩ = false
theorem Wd.below {w w' : World} {b n : Nat} {f : Nat → Nat} (h : Wd w b n f) (hb : Below w.heap.size w w') : Wd w' b n f :=
  ⟨fun i hi => by rw [hb.cell h.lt]; exact h.at_ i hi, Nat.lt_of_lt_of_le h.lt hb.size, fun i => by rw [hb.frozen h.lt]; exact h.thaw i⟩
theorem Wd.row {w : World} {b n : Nat} {f : Nat → Nat} {cs : Array Value} {t : TypeId} (h : w.heap[b]? = some (.cells cs t)) (hc : ∀ i, i < n → cs[i]? = some (w64 (f i))) : Wd w b n f :=
  ⟨fun i hi => by rw [cell_of_row w b i cs t _ h]; exact hc i hi, Vo.heap_lt h, fun i => frozen_of_row w b i _ _ h⟩
theorem four {a : Nat} (f : Nat → Nat) (h0 : f 0 = lim a 0) (h1 : f 1 = lim a 1) (h2 : f 2 = lim a 2) (h3 : f 3 = lim a 3) : ∀ i, i < 4 → #[w64 (lim a 0), w64 (lim a 1), w64 (lim a 2), w64 (lim a 3)][i]? = some (w64 (f i)) := by
  intro i hi
  obtain rfl | rfl | rfl | rfl : i = 0 ∨ i = 1 ∨ i = 2 ∨ i = 3 := by omega
  · rw [h0]; rfl
  · rw [h1]; rfl
  · rw [h2]; rfl
  · rw [h3]; rfl
theorem Wd.set {w : World} {b n : Nat} {f g : Nat → Nat} {j : Nat} (h : Wd w b n f) (hj : j < n) (v : Nat) (hg : ∀ i, i < n → g i = if i = j then v else f i) : Wd (w.setCell ⟨b, j, none⟩ (w64 v)) b n g := by
  refine ⟨fun i hi => ?_, by simp [h.lt], fun i => by rw [World.frozen?_setCell]; exact h.thaw i⟩
  rw [hg i hi]
  split
  · rename_i e
    subst e
    exact World.cell?_setCell_same _ _ _ (h.at_ i hi)
  · rename_i e
    rw [World.cell?_setCell_other _ _ _ _ (fun x => e (by injection x with _ h2 _; exact h2.symm))]
    exact h.at_ i hi
theorem Wd.far {w : World} {b n c : Nat} {f : Nat → Nat} {j : Nat} (h : Wd w b n f) (v : Value) (hbc : b ≠ c) : Wd (w.setCell ⟨c, j, none⟩ v) b n f :=
  ⟨fun i hi => by rw [World.cell?_setCell_other _ _ _ _ (fun x => hbc (by injection x with h1 _ _; exact h1.symm))]; exact h.at_ i hi, by simp [h.lt], fun i => by rw [World.frozen?_setCell]; exact h.thaw i⟩

def subw (x y b : Nat) : Nat := (x + 18446744073709551616 - y - b) % 18446744073709551616
def lessN (a b : Nat) : Nat := if a < b then 1 else 0
def borw (x y b : Nat) : Nat := if x < y + b then 1 else 0
theorem sub64w (x y b : Nat) (hb : b ≤ 1) (w : World) :
    (callFunc 199 #[.int .u64 x, .int .u64 y, .int .u64 b]).run Tryz.prog w = .ok (.value (.tuple #[w64 (subw x y b), w64 (borw x y b)])) w := sub64 x y b hb w

def mix (j n m i : Nat) : Nat := if i < j then lim n i else lim m i
theorem mix_step (j n m v : Nat) (hv : v = lim n j) : ∀ i, i < 4 → mix (j + 1) n m i = if i = j then v else mix j n m i := by
  intro i _
  subst hv
  unfold mix
  by_cases h : i = j
  · subst h; simp
  · rw [if_neg h]
    by_cases h2 : i < j
    · rw [if_pos h2, if_pos (by omega)]
    · rw [if_neg h2, if_neg (by omega)]

structure PRnd (w : World) (s a b j : Nat) (wr : World) : Prop where
  bel : Below w.heap.size w wr
  ra : Wd wr w.heap.size 4 (mix j s a)
  rb : Wd wr (w.heap.size + 1) 4 (lim b)
  ro : Wd wr (w.heap.size + 2) 4 (fun _ => 0)
theorem PRnd.below {w wr w' : World} {s a b j : Nat} (h : PRnd w s a b j wr) (hb : Below wr.heap.size wr w') : PRnd w s a b j w' :=
  ⟨h.bel.trans (hb.mono h.bel.size), h.ra.below hb, h.rb.below hb, h.ro.below hb⟩
theorem PRnd.first (w : World) (s a b : Nat) (t : TypeId) : PRnd w s a b 0 (((w.alloc (Obj.cells #[w64 (lim a 0), w64 (lim a 1), w64 (lim a 2), w64 (lim a 3)] t)).alloc (Obj.cells #[w64 (lim b 0), w64 (lim b 1), w64 (lim b 2), w64 (lim b 3)] t)).alloc (Obj.cells #[Value.int IntKind.u64 0, Value.int IntKind.u64 0, Value.int IntKind.u64 0, Value.int IntKind.u64 0] t)) := by
  refine ⟨?_, ?_, ?_, ?_⟩
  · exact ((((Below.refl _ _).alloc (Nat.le_refl _) _).alloc (by simp) _).alloc (by simp; omega) _)
  · exact ((Wd.row (heap_alloc_new w _) (four _ rfl rfl rfl rfl)).below ((Below.refl _ _).alloc (Nat.le_refl _) _)).below ((Below.refl _ _).alloc (Nat.le_refl _) _)
  · have := (Wd.row (heap_alloc_new (w.alloc (Obj.cells #[w64 (lim a 0), w64 (lim a 1), w64 (lim a 2), w64 (lim a 3)] t)) (Obj.cells #[w64 (lim b 0), w64 (lim b 1), w64 (lim b 2), w64 (lim b 3)] t)) (four (lim b) rfl rfl rfl rfl)).below ((Below.refl _ _).alloc (Nat.le_refl _) (Obj.cells #[Value.int IntKind.u64 0, Value.int IntKind.u64 0, Value.int IntKind.u64 0, Value.int IntKind.u64 0] t))
    simpa using this
  · have := Wd.row (n := 4) (f := fun _ => 0) (heap_alloc_new ((w.alloc (Obj.cells #[w64 (lim a 0), w64 (lim a 1), w64 (lim a 2), w64 (lim a 3)] t)).alloc (Obj.cells #[w64 (lim b 0), w64 (lim b 1), w64 (lim b 2), w64 (lim b 3)] t)) (Obj.cells #[Value.int IntKind.u64 0, Value.int IntKind.u64 0, Value.int IntKind.u64 0, Value.int IntKind.u64 0] t)) (by
      intro i hi
      obtain rfl | rfl | rfl | rfl : i = 0 ∨ i = 1 ∨ i = 2 ∨ i = 3 := by omega
      all_goals rfl)
    simpa using this

theorem PRnd.step {w wr : World} {s a b j : Nat} (h : PRnd w s a b j wr) (hj : j < 4) (v : Nat) (hv : v = lim s j) : PRnd w s a b (j + 1) (wr.setCell ⟨w.heap.size, j, none⟩ (w64 v)) :=
  ⟨h.bel.setCell (Nat.le_refl _) _, h.ra.set hj v (mix_step j s a v hv), h.rb.far _ (by omega), h.ro.far _ (by omega)⟩

set_option maxHeartbeats 4000000 in
theorem plus_any (a b : Nat) (w : World) (ha : a < 2 ^ 256) (hb : b < 2 ^ 256) :
    Calls Tryz.prog 229 #[numV a, numV b] w fun e w' => e = .returned (.tuple #[numV (a + b), w64 ((a + b) / 2 ^ 256)]) ∧ Below w.heap.size w w' := by
  have HC4 := Lib.hid (car_four a b ha hb)
  clear ha hb
  go_enter Tryz.func229, Tryz.ntmps229
  go_wp2_with fail
  go_loopw [6, 8] (fun c i wr => ∃ j : Nat, j ≤ 4 ∧ i = .int .i64 j ∧ c = w64 (car a b j) ∧ PRnd w (a + b) a b j wr) (fun _ i _ => 4 - (intOf i).toNat)
  case atStart => exact ⟨0, by omega, rfl, by rw [car_zero]; rfl, PRnd.first w _ a b _⟩
  case round =>
    obtain ⟨j, hj, rfl, rfl, RN⟩ := hrel
    by_cases hjl : j < 4
    · have hadd := add64 (lim a j) (lim b j) (car a b j) (car_le _ _ _)
      have ca0 : wr.cell? ⟨w.heap.size, j, none⟩ = some (w64 (lim a j)) := by rw [RN.ra.at_ j hjl]; simp [mix]
      have cb0 : wr.cell? ⟨w.heap.size + 1, j, none⟩ = some (w64 (lim b j)) := RN.rb.at_ j hjl
      have la := RN.ra.lt
      have lb := RN.rb.lt
      have fa : wr.frozen? ⟨w.heap.size, j, none⟩ = false := RN.ra.thaw j
      have hj0 : (0 : Int) ≤ (j : Int) := by omega
      have hj4 : (j : Int) < 4 := by omega
      have hj1 : IntKind.i64.wrap ((j : Int) + 1) = (j : Int) + 1 := by rw [IntKind.wrap_i64]; omega
      have HRN := Lib.hid RN
      clear RN
      go_wp2_with fail
      go_region_with (fail)
      all_goals go_wp2_with fail
      all_goals
        have hc : Value.int IntKind.u64 (((lim a j : Int) + (lim b j : Int) + (car a b j : Int)) / 18446744073709551616) = w64 (car a b (j + 1)) := by rw [← plus_car]; simp
        have hl : Value.int IntKind.u64 (((lim a j : Int) + (lim b j : Int) + (car a b j : Int)) % 18446744073709551616) = w64 (lim (a + b) j) := by rw [← plus_lim]; simp
        rw [hc, hl]
        exact ⟨⟨j + 1, by omega, by simp, rfl, (HRN.out.step hjl _ rfl).below ((Below.refl _ _).drew)⟩, by simp [intOf]; omega⟩
    · obtain rfl : j = 4 := by omega
      have a0 : wr.cell? ⟨w.heap.size, 0, none⟩ = some (w64 (lim (a + b) 0)) := RN.ra.at_ 0 (by omega)
      have a1 : wr.cell? ⟨w.heap.size, 1, none⟩ = some (w64 (lim (a + b) 1)) := RN.ra.at_ 1 (by omega)
      have a2 : wr.cell? ⟨w.heap.size, 2, none⟩ = some (w64 (lim (a + b) 2)) := RN.ra.at_ 2 (by omega)
      have a3 : wr.cell? ⟨w.heap.size, 3, none⟩ = some (w64 (lim (a + b) 3)) := RN.ra.at_ 3 (by omega)
      have o0 : wr.cell? ⟨w.heap.size + 2, 0, none⟩ = some (w64 0) := RN.ro.at_ 0 (by omega)
      have o1 : wr.cell? ⟨w.heap.size + 2, 1, none⟩ = some (w64 0) := RN.ro.at_ 1 (by omega)
      have o2 : wr.cell? ⟨w.heap.size + 2, 2, none⟩ = some (w64 0) := RN.ro.at_ 2 (by omega)
      have o3 : wr.cell? ⟨w.heap.size + 2, 3, none⟩ = some (w64 0) := RN.ro.at_ 3 (by omega)
      have fo := RN.ro.thaw
      have la := RN.ra.lt
      have lo := RN.ro.lt
      have bel := RN.bel
      have hz := bel.size
      clear RN
      go_wp2
      refine bodyPost_ret (by simp [results, Tryz.results229, go_sem, o0, o1, o2, o3]; try rfl) rfl ?_
      exact ⟨by rw [HC4.out], by go_grown⟩
set_option maxHeartbeats 4000000 in
theorem minus_any (a b : Nat) (w : World) (ha : a < 2 ^ 256) (hb : b < 2 ^ 256) :
    Calls Tryz.prog 154 #[numV a, numV b] w fun e w' => e = .returned (.tuple #[numV (2 ^ 256 + a - b), w64 (lessN a b)]) ∧ Below w.heap.size w w' := by
  have HC4 : Hid (bor a b 4 = lessN a b) := Lib.hid (bor_four a b ha hb)
  have HL := Lib.hid (fun j hj => lim_pow j hj a b ha hb)
  clear ha hb
  generalize hs : 2 ^ 256 + a - b = s at *
  go_enter Tryz.func154, Tryz.ntmps154
  go_wp2_with fail
  go_loopw [6, 8] (fun c i wr => ∃ j : Nat, j ≤ 4 ∧ i = .int .i64 j ∧ c = w64 (bor a b j) ∧ PRnd w s a b j wr) (fun _ i _ => 4 - (intOf i).toNat)
  case atStart => exact ⟨0, by omega, rfl, by rw [bor_zero]; rfl, PRnd.first w _ a b _⟩
  case round =>
    obtain ⟨j, hj, rfl, rfl, RN⟩ := hrel
    by_cases hjl : j < 4
    · have hadd := sub64w (lim a j) (lim b j) (bor a b j) (bor_le _ _ _)
      have ca0 : wr.cell? ⟨w.heap.size, j, none⟩ = some (w64 (lim a j)) := by rw [RN.ra.at_ j hjl]; simp [mix]
      have cb0 : wr.cell? ⟨w.heap.size + 1, j, none⟩ = some (w64 (lim b j)) := RN.rb.at_ j hjl
      have la := RN.ra.lt
      have lb := RN.rb.lt
      have fa : wr.frozen? ⟨w.heap.size, j, none⟩ = false := RN.ra.thaw j
      have hj0 : (0 : Int) ≤ (j : Int) := by omega
      have hj4 : (j : Int) < 4 := by omega
      have hj1 : IntKind.i64.wrap ((j : Int) + 1) = (j : Int) + 1 := by rw [IntKind.wrap_i64]; omega
      have HRN := Lib.hid RN
      clear RN
      go_wp2_with fail
      go_region_with (fail)
      all_goals go_wp2_with fail
      all_goals
        rw [show borw (lim a j) (lim b j) (bor a b j) = bor a b (j + 1) from minus_bor a b j, show subw (lim a j) (lim b j) (bor a b j) = lim s j from HL.out j hjl]
        exact ⟨⟨j + 1, by omega, by simp, rfl, (HRN.out.step hjl _ rfl).below ((Below.refl _ _).drew)⟩, by simp [intOf]; omega⟩
    · obtain rfl : j = 4 := by omega
      have a0 : wr.cell? ⟨w.heap.size, 0, none⟩ = some (w64 (lim s 0)) := RN.ra.at_ 0 (by omega)
      have a1 : wr.cell? ⟨w.heap.size, 1, none⟩ = some (w64 (lim s 1)) := RN.ra.at_ 1 (by omega)
      have a2 : wr.cell? ⟨w.heap.size, 2, none⟩ = some (w64 (lim s 2)) := RN.ra.at_ 2 (by omega)
      have a3 : wr.cell? ⟨w.heap.size, 3, none⟩ = some (w64 (lim s 3)) := RN.ra.at_ 3 (by omega)
      have o0 : wr.cell? ⟨w.heap.size + 2, 0, none⟩ = some (w64 0) := RN.ro.at_ 0 (by omega)
      have o1 : wr.cell? ⟨w.heap.size + 2, 1, none⟩ = some (w64 0) := RN.ro.at_ 1 (by omega)
      have o2 : wr.cell? ⟨w.heap.size + 2, 2, none⟩ = some (w64 0) := RN.ro.at_ 2 (by omega)
      have o3 : wr.cell? ⟨w.heap.size + 2, 3, none⟩ = some (w64 0) := RN.ro.at_ 3 (by omega)
      have fo := RN.ro.thaw
      have la := RN.ra.lt
      have lo := RN.ro.lt
      have bel := RN.bel
      have hz := bel.size
      clear RN
      go_wp2
      refine bodyPost_ret (by simp [results, Tryz.results154, go_sem, o0, o1, o2, o3]; try rfl) rfl ?_
      exact ⟨by rw [HC4.out], by go_grown⟩
end Go.Proofs.YtlgghcffmnofdaaGreatDoor.Nu

/-
  The walks of residue: Prime, Order, Less, Zero, small, add.
-/
namespace Go.Proofs.YtlgghcffmnofdaaGreatDoor.Nu
open Go Go.RowKit Go.Proofs.YtlgghcffmnofdaaGreatDoor.Cn
set_option linter.unusedSimpArgs false
set_option maxRecDepth 100000

def pp : Nat := 57896044618658097711785492504343953926634992332820282019728792003956564819949
def qq : Nat := 7237005577332262213973186563042994240857116359379907606001950938285454250989
theorem lim_pp : lim pp 0 = 18446744073709551597 ∧ lim pp 1 = 18446744073709551615 ∧ lim pp 2 = 18446744073709551615 ∧ lim pp 3 = 9223372036854775807 := by decide +kernel
theorem lim_qq : lim qq 0 = 6346243789798364141 ∧ lim qq 1 = 1503914060200516822 ∧ lim qq 2 = 0 ∧ lim qq 3 = 1152921504606846976 := by decide +kernel

theorem prime_any (w : World) : Calls Tryz.prog 150 #[] w fun e w' => e = .returned (numV pp) ∧ Below w.heap.size w w' := by
  have hp : numV pp = .agg #[.int .u64 18446744073709551597, .int .u64 18446744073709551615, .int .u64 18446744073709551615, .int .u64 9223372036854775807] := by
    obtain ⟨h0, h1, h2, h3⟩ := lim_pp
    unfold numV w64
    rw [h0, h1, h2, h3]
    rfl
  rw [hp]
  clear hp
  go_enter Tryz.func150, Tryz.ntmps150
  go_wp2
  refine bodyPost_ret (by simp [results, Tryz.results150, go_sem]; try rfl) rfl ?_
  exact ⟨rfl, by go_grown⟩
theorem order_any (w : World) : Calls Tryz.prog 105 #[] w fun e w' => e = .returned (numV qq) ∧ Below w.heap.size w w' := by
  have hp : numV qq = .agg #[.int .u64 6346243789798364141, .int .u64 1503914060200516822, .int .u64 0, .int .u64 1152921504606846976] := by
    obtain ⟨h0, h1, h2, h3⟩ := lim_qq
    unfold numV w64
    rw [h0, h1, h2, h3]
    rfl
  rw [hp]
  clear hp
  go_enter Tryz.func105, Tryz.ntmps105
  go_wp2
  refine bodyPost_ret (by simp [results, Tryz.results105, go_sem]; try rfl) rfl ?_
  exact ⟨rfl, by go_grown⟩

theorem lessN_eq (a b : Nat) : (((lessN a b : Nat) : Int) == 1) = decide (a < b) := by
  unfold lessN
  by_cases h : a < b <;> simp [h]

theorem less_any (a b : Nat) (w : World) (ha : a < 2 ^ 256) (hb : b < 2 ^ 256) :
    Calls Tryz.prog 104 #[numV a, numV b] w fun e w' => e = .returned (.bool (decide (a < b))) ∧ Below w.heap.size w w' := by
  have HM := Lib.hid (fun w => minus_any a b w ha hb)
  have HL := Lib.hid (lessN_eq a b)
  clear ha hb
  generalize hs : 2 ^ 256 + a - b = s at *
  generalize hd : decide (a < b) = d at *
  clear hs hd
  go_enter Tryz.func104, Tryz.ntmps104
  go_wp2_with fail
  refine (HM.out _).mono ?_
  rintro e w1 ⟨rfl, hb1⟩
  have bel := (((Below.refl w.heap.size w).alloc (Nat.le_refl _) (Obj.cells #[w64 (lim a 0), w64 (lim a 1), w64 (lim a 2), w64 (lim a 3)] 150)).alloc (by simp) (Obj.cells #[w64 (lim b 0), w64 (lim b 1), w64 (lim b 2), w64 (lim b 3)] 150)).trans (hb1.mono (by simp; omega))
  have hz := bel.size
  have hl := HL.out
  clear hb1
  go_wp2_with fail
  go_returns
  exact ⟨rfl, by go_grown⟩

theorem eqNum (a0 a1 a2 a3 b0 b1 b2 b3 : Int) (w : World) :
    (Op.equalIn 10000 150 (.agg #[.int .u64 a0, .int .u64 a1, .int .u64 a2, .int .u64 a3]) (.agg #[.int .u64 b0, .int .u64 b1, .int .u64 b2, .int .u64 b3])).run Tryz.prog w =
      .ok (a0 == b0 && (a1 == b1 && (a2 == b2 && a3 == b3))) w := by
  obtain ⟨i, hi⟩ : ∃ i, Tryz.prog.info? 148 = some i := Option.isSome_iff_exists.1 (by kernel_rfl)
  rw [show (10000 : Nat) = 9999 + 1 from rfl, run_equalIn_array w 9999 _ _ Tryz.underlying150 hi, show Tryz.prog.cellsOf 148 = 1 by kernel_rfl]
  by_cases h0 : a0 = b0 <;> by_cases h1 : a1 = b1 <;> by_cases h2 : a2 = b2 <;> by_cases h3 : a3 = b3 <;> simp [List.range, List.range.loop, Op.eqItems, go_sem, h0, h1, h2, h3]
/-- Numbers are the same just where their words are. -/
theorem lims_eq {a b : Nat} (ha : a < 2 ^ 256) (hb : b < 2 ^ 256) : ((((lim a 0 : Nat) : Int) == ((lim b 0 : Nat) : Int)) && ((((lim a 1 : Nat) : Int) == ((lim b 1 : Nat) : Int)) && ((((lim a 2 : Nat) : Int) == ((lim b 2 : Nat) : Int)) && (((lim a 3 : Nat) : Int) == ((lim b 3 : Nat) : Int))))) = decide (a = b) := by
  rw [Bool.eq_iff_iff]
  simp only [Bool.and_eq_true, beq_iff_eq, Int.natCast_inj, decide_eq_true_eq]
  constructor
  · rintro ⟨h0, h1, h2, h3⟩
    unfold lim at *
    simp only [Nat.mul_zero, Nat.pow_zero, Nat.div_one, Nat.mul_one] at *
    omega
  · rintro rfl; exact ⟨rfl, rfl, rfl, rfl⟩
theorem eqNumV (a b : Nat) (ha : a < 2 ^ 256) (hb : b < 2 ^ 256) (w : World) : (Op.equalIn 10000 150 (numV a) (numV b)).run Tryz.prog w = .ok (decide (a = b)) w := by
  rw [← lims_eq ha hb]
  exact eqNum _ _ _ _ _ _ _ _ w

theorem zero_any (n : Nat) (w : World) (hn : n < 2 ^ 256) :
    Calls Tryz.prog 152 #[numV n] w fun e w' => e = .returned (.bool (decide (n = 0))) ∧ Below w.heap.size w w' := by
  have HE := eqNumV n 0 hn (by decide)
  have e0 : numV 0 = .agg #[.int .u64 0, .int .u64 0, .int .u64 0, .int .u64 0] := by unfold numV w64; simp [lim]
  rw [e0] at HE
  clear hn e0
  generalize decide (n = 0) = d at *
  go_enter Tryz.func152, Tryz.ntmps152
  go_wp2
  go_returns
  exact ⟨rfl, by go_grown⟩

/-- A number modulo the prime, by taking it away. -/
structure SRnd (w : World) (n v : Nat) (wr : World) : Prop where
  bel : Below w.heap.size w wr
  rn : Wd wr w.heap.size 4 (lim v)
  ro : Wd wr (w.heap.size + 1) 4 (fun _ => 0)
  le : v < 2 ^ 256
  eq : v % pp = n % pp
theorem SRnd.below {w wr w' : World} {n v : Nat} (h : SRnd w n v wr) (hb : Below wr.heap.size wr w') : SRnd w n v w' :=
  ⟨h.bel.trans (hb.mono h.bel.size), h.rn.below hb, h.ro.below hb, h.le, h.eq⟩

theorem lims_sum {v : Nat} (hv : v < 2 ^ 256) : lim v 0 + lim v 1 * 18446744073709551616 + lim v 2 * 340282366920938463463374607431768211456 + lim v 3 * 6277101735386680763835789423207666416102355444464034512896 = v := by
  unfold lim
  simp only [Nat.mul_zero, Nat.pow_zero, Nat.div_one, Nat.mul_one]
  omega
def cellN (w : World) (b i : Nat) : Nat := match w.cell? ⟨b, i, none⟩ with
  | some (.int _ n) => n.toNat
  | _ => 0
theorem cellN_eq {w : World} {b i n : Nat} (h : w.cell? ⟨b, i, none⟩ = some (w64 n)) : cellN w b i = n := by
  unfold cellN
  rw [h]
  simp
/-- What a block of four words holds. -/
def limsOf (w : World) (b : Nat) : Nat := cellN w b 0 + cellN w b 1 * 18446744073709551616 + cellN w b 2 * 340282366920938463463374607431768211456 + cellN w b 3 * 6277101735386680763835789423207666416102355444464034512896
theorem limsOf_wd {w : World} {b v : Nat} (h : Wd w b 4 (lim v)) (hv : v < 2 ^ 256) : limsOf w b = v := by
  unfold limsOf
  rw [cellN_eq (h.at_ 0 (by omega)), cellN_eq (h.at_ 1 (by omega)), cellN_eq (h.at_ 2 (by omega)), cellN_eq (h.at_ 3 (by omega))]
  exact lims_sum hv

theorem Wd.all {w : World} {b n : Nat} {f : Nat → Nat} (h : Wd w b 4 f) : Wd ((((w.setCell ⟨b, 0, none⟩ (w64 (lim n 0))).setCell ⟨b, 1, none⟩ (w64 (lim n 1))).setCell ⟨b, 2, none⟩ (w64 (lim n 2))).setCell ⟨b, 3, none⟩ (w64 (lim n 3))) b 4 (lim n) := by
  have h0 := h.set (j := 0) (by omega) (lim n 0) (fun i _ => rfl)
  have h1 := h0.set (j := 1) (by omega) (lim n 1) (fun i _ => rfl)
  have h2 := h1.set (j := 2) (by omega) (lim n 2) (fun i _ => rfl)
  refine h2.set (j := 3) (by omega) (lim n 3) fun i hi => ?_
  obtain rfl | rfl | rfl | rfl : i = 0 ∨ i = 1 ∨ i = 2 ∨ i = 3 := by omega
  all_goals rfl
theorem bel_all {w wr : World} {b n : Nat} (h : Below w.heap.size w wr) (hb : w.heap.size ≤ b) : Below w.heap.size w ((((wr.setCell ⟨b, 0, none⟩ (w64 (lim n 0))).setCell ⟨b, 1, none⟩ (w64 (lim n 1))).setCell ⟨b, 2, none⟩ (w64 (lim n 2))).setCell ⟨b, 3, none⟩ (w64 (lim n 3))) :=
  (((h.setCell hb _).setCell hb _).setCell hb _).setCell hb _
theorem numV_over (n : Nat) : numV (2 ^ 256 + n) = numV n := by
  have h : ∀ i, i < 4 → lim (2 ^ 256 + n) i = lim n i := fun i hi => by
    have h1 := lim_mod (2 ^ 256 + n) i hi
    have h2 := lim_mod n i hi
    rw [Nat.add_mod_left] at h1
    rw [← h1, h2]
  unfold numV
  rw [h 0 (by omega), h 1 (by omega), h 2 (by omega), h 3 (by omega)]

theorem SRnd.step {w wr : World} {n v : Nat} (h : SRnd w n v wr) (hv : ¬ v < pp) : SRnd w n (v - pp) ((((wr.setCell ⟨w.heap.size, 0, none⟩ (w64 (lim (v - pp) 0))).setCell ⟨w.heap.size, 1, none⟩ (w64 (lim (v - pp) 1))).setCell ⟨w.heap.size, 2, none⟩ (w64 (lim (v - pp) 2))).setCell ⟨w.heap.size, 3, none⟩ (w64 (lim (v - pp) 3))) := by
  have hle := h.le
  refine ⟨bel_all h.bel (Nat.le_refl _), h.rn.all, (((h.ro.far _ (by omega)).far _ (by omega)).far _ (by omega)).far _ (by omega), by omega, ?_⟩
  rw [← h.eq, ← Nat.mod_eq_sub_mod (by omega)]

theorem undrew {B : Nat} {w w' : World} (h : Below B w.drew w') : Below B w w' := ⟨h.os, h.tape, h.output, h.size, h.block⟩

set_option maxHeartbeats 4000000 in
theorem small_any (n : Nat) (w : World) (hn : n < 2 ^ 256) :
    Calls Tryz.prog 226 #[numV n] w fun e w' => e = .returned (numV (n % pp)) ∧ Below w.heap.size w w' := by
  have HN := Lib.hid hn
  clear hn
  go_enter Tryz.func226, Tryz.ntmps226
  go_wp2_with fail
  go_loopw [] (fun wr => ∃ v, SRnd w n v wr) (fun wr => limsOf wr w.heap.size)
  case atStart =>
    refine ⟨n, ?_, ?_, ?_, HN.out, rfl⟩
    · go_grown
    · exact (Wd.row (heap_alloc_new w _) (four _ rfl rfl rfl rfl)).below ((Below.refl _ _).alloc (Nat.le_refl _) _)
    · have := Wd.row (n := 4) (f := fun _ => 0) (heap_alloc_new (w.alloc (Obj.cells #[w64 (lim n 0), w64 (lim n 1), w64 (lim n 2), w64 (lim n 3)] 150)) (Obj.cells #[Value.int IntKind.u64 0, Value.int IntKind.u64 0, Value.int IntKind.u64 0, Value.int IntKind.u64 0] 150)) (by
        intro i hi
        obtain rfl | rfl | rfl | rfl : i = 0 ∨ i = 1 ∨ i = 2 ∨ i = 3 := by omega
        all_goals rfl)
      simpa using this
  case round =>
    obtain ⟨v, RN⟩ := hrel
    have a0 : wr.cell? ⟨w.heap.size, 0, none⟩ = some (w64 (lim v 0)) := RN.rn.at_ 0 (by omega)
    have a1 : wr.cell? ⟨w.heap.size, 1, none⟩ = some (w64 (lim v 1)) := RN.rn.at_ 1 (by omega)
    have a2 : wr.cell? ⟨w.heap.size, 2, none⟩ = some (w64 (lim v 2)) := RN.rn.at_ 2 (by omega)
    have a3 : wr.cell? ⟨w.heap.size, 3, none⟩ = some (w64 (lim v 3)) := RN.rn.at_ 3 (by omega)
    have la := RN.rn.lt
    have HL := Lib.hid (fun w => less_any v pp w RN.le (by decide))
    have HR0 := Lib.hid (limsOf_wd RN.rn RN.le)
    have HRN := Lib.hid RN
    clear RN
    go_wp2_with fail
    (refine wp_region_mild 4 (by kernel_rfl) (by kernel_rfl) ?_; simp only [List.take_succ_cons, List.take_zero, List.drop_succ_cons, List.drop_zero])
    repeat (first | (apply wpMild_const; (focus (intro wm hm; have hrw := fun p h => Go.RowKit.Below.cell (p := p) hm h; go_simp; exact rfl)); simp only [List.cons_append, List.nil_append]) | (apply wpMild_call; (focus (intro wm hm; have hrw := fun p h => Go.RowKit.Below.cell (p := p) hm h; go_simp; (first | exact Calls.mild (prime_any _) | exact Calls.mild (HL.out _)))); (focus (first | exact Go.md_stays_eq _ | (intro v w w' h hb; first | exact Bsl.below h hb | exact Sizes.stays _ _ _ h hb | (obtain ⟨c, h1, h2, h3⟩ := h; exact ⟨c, h1, h2, Vo.heap_below h3 hb⟩) | fail))); simp only [List.cons_append, List.nil_append]))
    (refine wpMild_nil ?_; intro wm hm; simp only [mildAll, forall_eq, forall_exists_index, and_imp, Act.put, List.setIfInBounds_toArray, List.set_cons_succ, List.set_cons_zero, forall_eq_apply_imp_iff])
    have RNm := HRN.out.below hm
    have hm0 := RNm.rn
    clear hm a0 a1 a2 a3 la HRN HL
    have a0 : wm.cell? ⟨w.heap.size, 0, none⟩ = some (w64 (lim v 0)) := hm0.at_ 0 (by omega)
    have a1 : wm.cell? ⟨w.heap.size, 1, none⟩ = some (w64 (lim v 1)) := hm0.at_ 1 (by omega)
    have a2 : wm.cell? ⟨w.heap.size, 2, none⟩ = some (w64 (lim v 2)) := hm0.at_ 2 (by omega)
    have a3 : wm.cell? ⟨w.heap.size, 3, none⟩ = some (w64 (lim v 3)) := hm0.at_ 3 (by omega)
    have la := hm0.lt
    have fa := hm0.thaw
    by_cases hv : v < pp
    · rw [show decide (v < pp) = true from decide_eq_true hv]
      have o0 : wm.cell? ⟨w.heap.size + 1, 0, none⟩ = some (w64 0) := RNm.ro.at_ 0 (by omega)
      have o1 : wm.cell? ⟨w.heap.size + 1, 1, none⟩ = some (w64 0) := RNm.ro.at_ 1 (by omega)
      have o2 : wm.cell? ⟨w.heap.size + 1, 2, none⟩ = some (w64 0) := RNm.ro.at_ 2 (by omega)
      have o3 : wm.cell? ⟨w.heap.size + 1, 3, none⟩ = some (w64 0) := RNm.ro.at_ 3 (by omega)
      have lo := RNm.ro.lt
      have fo := RNm.ro.thaw
      have bel := RNm.bel
      have hz := bel.size
      have HV : Hid (v = n % pp) := Lib.hid (by rw [← RNm.eq, Nat.mod_eq_of_lt hv])
      clear hm0 RNm hv
      go_wp2
      refine bodyPost_ret (by simp [results, Tryz.results226, go_sem, o0, o1, o2, o3]; try rfl) rfl ?_
      exact ⟨by rw [← HV.out], by go_grown⟩
    · rw [show decide (v < pp) = false from decide_eq_false hv]
      have hle := RNm.le
      have HM : Hid (∀ w, Calls Tryz.prog 154 #[numV v, numV pp] w fun e w' => e = .returned (.tuple #[numV (v - pp), w64 (lessN v pp)]) ∧ Below w.heap.size w w') := Lib.hid (fun w => by
        have h := minus_any v pp w hle (by decide)
        rw [show 2 ^ 256 + v - pp = 2 ^ 256 + (v - pp) by omega, numV_over] at h
        exact h)
      clear hle
      have HRN := Lib.hid RNm
      have HV := Lib.hid hv
      clear RNm hm0 hv
      go_wp2_with fail
      go_region_with (first
        | (refine (prime_any _).mono ?_; rintro e w6 ⟨rfl, hb6⟩; have RN6 := HRN.out.below (undrew hb6); have a0 := RN6.rn.at_ 0 (by omega); have a1 := RN6.rn.at_ 1 (by omega); have a2 := RN6.rn.at_ 2 (by omega); have a3 := RN6.rn.at_ 3 (by omega); have HRN6 := Lib.hid RN6; clear RN6 hb6)
        | (refine (HM.out _).mono ?_; rintro e w7 ⟨rfl, hb7⟩; have RN7 := HRN6.out.below hb7; have a0 := RN7.rn.at_ 0 (by omega); have a1 := RN7.rn.at_ 1 (by omega); have a2 := RN7.rn.at_ 2 (by omega); have a3 := RN7.rn.at_ 3 (by omega); have la := RN7.rn.lt; have fa := RN7.rn.thaw; have HRN7 := Lib.hid RN7; clear RN7 hb7))
      all_goals
        go_wp2_with fail
        go_roundw
        case rel => exact ⟨v - pp, HRN7.out.step HV.out⟩
        case measure =>
          have h1 := HRN7.out.step HV.out
          rw [HR0.out]
          have h2 := limsOf_wd h1.rn h1.le
          have h3 := HV.out
          have h4 : 0 < pp := by decide
          have h5 : ∀ x, x = v - pp → x < v := fun x hx => by omega
          exact h5 _ h2
end Go.Proofs.YtlgghcffmnofdaaGreatDoor.Nu

/-
  The walks of residue: add, times.
-/
namespace Go.Proofs.YtlgghcffmnofdaaGreatDoor.Nu
open Go Go.RowKit Go.Proofs.YtlgghcffmnofdaaGreatDoor.Cn
set_option maxRecDepth 100000

/-- The zero row of a number's result. -/
abbrev zero4 : Obj := .cells #[.int .u64 0, .int .u64 0, .int .u64 0, .int .u64 0] 150
abbrev row4 (a : Nat) : Obj := .cells #[w64 (lim a 0), w64 (lim a 1), w64 (lim a 2), w64 (lim a 3)] 150
theorem wd_zero {w : World} {b : Nat} (h : w.heap[b]? = some zero4) : Wd w b 4 (fun _ => 0) := Wd.row h (by
  intro i hi
  obtain rfl | rfl | rfl | rfl : i = 0 ∨ i = 1 ∨ i = 2 ∨ i = 3 := by omega
  all_goals rfl)
theorem wd_row {w : World} {b a : Nat} (h : w.heap[b]? = some (row4 a)) : Wd w b 4 (lim a) := Wd.row h (four _ rfl rfl rfl rfl)

set_option maxHeartbeats 1600000 in
theorem add_any (a b : Nat) (w : World) (hab : a + b < 2 ^ 256) :
    Calls Tryz.prog 227 #[numV a, numV b] w fun e w' => e = .returned (numV ((a + b) % pp)) ∧ Below w.heap.size w w' := by
  have HP := Lib.hid (fun w => plus_any a b w (by omega) (by omega))
  have HS := Lib.hid (fun w => small_any (a + b) w hab)
  clear hab
  go_enter Tryz.func227, Tryz.ntmps227
  go_wp2_with fail
  refine (HP.out _).mono ?_
  rintro e w1 ⟨rfl, hb1⟩
  have z1 := Vo.heap_below (heap_alloc_new ((w.alloc (row4 a)).alloc (row4 b)) zero4) hb1
  rw [show ((w.alloc (row4 a)).alloc (row4 b)).heap.size = w.heap.size + 2 by simp] at z1
  have bel1 := ((((Below.refl w.heap.size w).alloc (Nat.le_refl _) (row4 a)).alloc (by simp) (row4 b)).alloc (by simp; omega) zero4).trans (hb1.mono (by simp; omega))
  have hba := (Below.refl w1.heap.size w1).alloc (Nat.le_refl _) (row4 (a + b))
  have z2 := Vo.heap_below z1 hba
  have bel2 := bel1.trans (hba.mono bel1.size)
  clear hb1 hba z1 bel1
  go_wp2_with fail
  refine (HS.out _).mono ?_
  rintro e w2 ⟨rfl, hb2⟩
  have hz := wd_zero (Vo.heap_below z2 hb2)
  have o0 := hz.at_ 0 (by omega)
  have o1 := hz.at_ 1 (by omega)
  have o2 := hz.at_ 2 (by omega)
  have o3 := hz.at_ 3 (by omega)
  have fo := hz.thaw
  have lo := hz.lt
  have bel := bel2.trans (hb2.mono bel2.size)
  have hzs := bel.size
  clear hb2 z2 bel2 hz
  go_wp2
  refine bodyPost_ret (by simp [results, Tryz.results227, go_sem, o0, o1, o2, o3]; try rfl) rfl ?_
  exact ⟨rfl, by go_grown⟩

structure TRnd (w : World) (a t j : Nat) (wr : World) : Prop where
  bel : Below w.heap.size w wr
  ra : Wd wr w.heap.size 4 (mix j t a)
  ro : Wd wr (w.heap.size + 1) 4 (fun _ => 0)
theorem TRnd.below {w wr w' : World} {a t j : Nat} (h : TRnd w a t j wr) (hb : Below wr.heap.size wr w') : TRnd w a t j w' :=
  ⟨h.bel.trans (hb.mono h.bel.size), h.ra.below hb, h.ro.below hb⟩
theorem TRnd.step {w wr : World} {a t j : Nat} (h : TRnd w a t j wr) (hj : j < 4) (v : Nat) (hv : v = lim t j) : TRnd w a t (j + 1) (wr.setCell ⟨w.heap.size, j, none⟩ (w64 v)) :=
  ⟨h.bel.setCell (Nat.le_refl _) _, h.ra.set hj v (mix_step j t a v hv), h.ro.far _ (by omega)⟩

theorem wrap_u64 (n : Int) : IntKind.u64.wrap n = n % 18446744073709551616 := by simp [IntKind.wrap, IntKind.bits, IntKind.signed]

def mulh (x y : Nat) : Nat := x * y / 18446744073709551616
def mull (x y : Nat) : Nat := x * y % 18446744073709551616
def addl (x y c : Nat) : Nat := (x + y + c) % 18446744073709551616
def addh (x y c : Nat) : Nat := (x + y + c) / 18446744073709551616
theorem mul64w (x y : Nat) (hx : x < 18446744073709551616) (hy : y < 18446744073709551616) (w : World) :
    Calls Tryz.prog 263 #[w64 x, w64 y] w fun e w' => e = .returned (.tuple #[w64 (mulh x y), w64 (mull x y)]) ∧ w' = w := by
  refine (Tryz.bits_Mul64 x y hx hy w).mono ?_
  rintro e w' h
  exact h
theorem add64w (x y c : Nat) (hc : c ≤ 1) (w : World) :
    (callFunc 253 #[.int .u64 x, .int .u64 y, .int .u64 c]).run Tryz.prog w = .ok (.value (.tuple #[w64 (addl x y c), w64 (addh x y c)])) w := add64 x y c hc w
theorem add64z (x y : Nat) (w : World) :
    (callFunc 253 #[.int .u64 x, .int .u64 y, .int .u64 0]).run Tryz.prog w = .ok (.value (.tuple #[w64 (addl x y 0), w64 (addh x y 0)])) w := add64 x y 0 (by omega) w

set_option maxHeartbeats 4000000 in
theorem times_any (a x : Nat) (w : World) (ha : a < 2 ^ 256) (hx : x < 2 ^ 64) :
    Calls Tryz.prog 254 #[numV a, w64 x] w fun e w' => e = .returned (.tuple #[numV (a * x), w64 (a * x / 2 ^ 256)]) ∧ Below w.heap.size w w' := by
  have HC4 := Lib.hid (mca_four a x ha)
  have HX := Lib.hid hx
  clear ha hx
  go_enter Tryz.func254, Tryz.ntmps254
  go_wp2_with fail
  go_loopw [6, 12] (fun c i wr => ∃ j : Nat, j ≤ 4 ∧ i = .int .i64 j ∧ c = w64 (mca a x j) ∧ TRnd w a (a * x) j wr) (fun _ i _ => 4 - (intOf i).toNat)
  case atStart =>
    refine ⟨0, by omega, rfl, by rw [mca_zero]; rfl, ?_, ?_, ?_⟩
    · go_grown
    · exact (wd_row (heap_alloc_new w _)).below ((Below.refl _ _).alloc (Nat.le_refl _) _)
    · have := wd_zero (heap_alloc_new (w.alloc (row4 a)) zero4)
      simpa using this
  case round =>
    obtain ⟨j, hj, rfl, rfl, RN⟩ := hrel
    by_cases hjl : j < 4
    · have ca0 : wr.cell? ⟨w.heap.size, j, none⟩ = some (w64 (lim a j)) := by rw [RN.ra.at_ j hjl]; simp [mix]
      have la := RN.ra.lt
      have fa : wr.frozen? ⟨w.heap.size, j, none⟩ = false := RN.ra.thaw j
      have hj0 : (0 : Int) ≤ (j : Int) := by omega
      have hj4 : (j : Int) < 4 := by omega
      have hj1 : IntKind.i64.wrap ((j : Int) + 1) = (j : Int) + 1 := by rw [IntKind.wrap_i64]; omega
      have HRN := Lib.hid RN
      clear RN
      go_wp2_with fail
      refine (mul64w (lim a j) x (lim_lt _ _) HX.out _).mono ?_
      rintro e w1 ⟨rfl, rfl⟩
      have hadd := add64z (mull (lim a j) x) (mca a x j)
      have hw : IntKind.u64.wrap (((mulh (lim a j) x : Nat) : Int) + ((addh (mull (lim a j) x) (mca a x j) 0 : Nat) : Int)) = ((mca a x (j + 1) : Nat) : Int) := by
        have e : mulh (lim a j) x + addh (mull (lim a j) x) (mca a x j) 0 = mca a x (j + 1) := times_mca a x j
        have h1 := mca_lt a x (j + 1) HX.out
        rw [wrap_u64, ← e]
        rw [← e] at h1
        omega
      go_wp2_with fail
      rw [show addl (mull (lim a j) x) (mca a x j) 0 = lim (a * x) j from times_lim a x j]
      exact ⟨⟨j + 1, by omega, by simp, rfl, HRN.out.step hjl _ rfl⟩, by simp [intOf]; omega⟩
    · obtain rfl : j = 4 := by omega
      have a0 : wr.cell? ⟨w.heap.size, 0, none⟩ = some (w64 (lim (a * x) 0)) := RN.ra.at_ 0 (by omega)
      have a1 : wr.cell? ⟨w.heap.size, 1, none⟩ = some (w64 (lim (a * x) 1)) := RN.ra.at_ 1 (by omega)
      have a2 : wr.cell? ⟨w.heap.size, 2, none⟩ = some (w64 (lim (a * x) 2)) := RN.ra.at_ 2 (by omega)
      have a3 : wr.cell? ⟨w.heap.size, 3, none⟩ = some (w64 (lim (a * x) 3)) := RN.ra.at_ 3 (by omega)
      have o0 := RN.ro.at_ 0 (by omega)
      have o1 := RN.ro.at_ 1 (by omega)
      have o2 := RN.ro.at_ 2 (by omega)
      have o3 := RN.ro.at_ 3 (by omega)
      have fo := RN.ro.thaw
      have la := RN.ra.lt
      have lo := RN.ro.lt
      have bel := RN.bel
      have hz := bel.size
      clear RN
      go_wp2
      refine bodyPost_ret (by simp [results, Tryz.results254, go_sem, o0, o1, o2, o3]; try rfl) rfl ?_
      exact ⟨by rw [HC4.out], by go_grown⟩
end Go.Proofs.YtlgghcffmnofdaaGreatDoor.Nu
