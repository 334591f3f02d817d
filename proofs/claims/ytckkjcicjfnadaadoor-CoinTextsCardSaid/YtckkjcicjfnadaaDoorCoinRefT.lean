/-
  The document's answer for base 64, written: what the printed functions of escutcheonref01.Text and Hex come to.
-/
import Derived.Test.YtckkjcicjfnadaaDoorCoinVoc
import Derived.Test.YtckkjcicjfnadaaDoorCoinRefH
import Derived.Test.YtckkjcicjfnadaaDoorPCoinTextsx1
namespace Go.Proofs.YtckkjcicjfnadaaDoor.CnT
open Go.Proofs.YtckkjcicjfnadaaDoor.Cn
open Go.Proofs.YtckkjcicjfnadaaDoor.PCoinTexts Go.Proofs.YtckkjcicjfnadaaDoorW.PrintWords Go.RowKit

theorem wrap_small {x : Int} (h0 : 0 ≤ x) (h1 : x < 9223372036854775808) : wrap64 x = x := by unfold wrap64; omega
def ints (l : List Nat) : List Int := l.map Int.ofNat

/-- The eight bits of a byte. -/
def b8 (n : Nat) : List Nat := [n / 128 % 2, n / 64 % 2, n / 32 % 2, n / 16 % 2, n / 8 % 2, n / 4 % 2, n / 2 % 2, n % 2]
theorem b8_val : ∀ n, n < 256 → val 2 (b8 n) = n := by
  have h : ∀ n : Fin 256, val 2 (b8 n.val) = n.val := by decide +kernel
  intro n hn
  exact h ⟨n, hn⟩
theorem b8_lt (n : Nat) : ∀ d ∈ b8 n, d < 2 := by
  intro d hd
  simp only [b8, List.mem_cons, List.not_mem_nil, or_false] at hd
  omega

theorem bits_round (n x : Int) (hx : x = 128 ∨ x = 64 ∨ x = 32 ∨ x = 16 ∨ x = 8 ∨ x = 4 ∨ x = 2 ∨ x = 1) (h0 : 0 ≤ n) (h1 : n < 256) : Int.tmod (wrap64 (Int.tdiv (wrap64 n) x)) 2 = n / x % 2 ∧ wrap64 (Int.tdiv x 2) = x / 2 := by
  have e1 : Int.tdiv n x = n / x := Int.tdiv_eq_ediv_of_nonneg h0
  have e2 : Int.tdiv x 2 = x / 2 := Int.tdiv_eq_ediv_of_nonneg (by omega)
  have hb : 0 ≤ n / x ∧ n / x < 256 := by
    rcases hx with rfl | rfl | rfl | rfl | rfl | rfl | rfl | rfl <;> omega
  rw [wrap_small (x := n) h0 (by omega), e1, e2, wrap_small (x := n / x) hb.1 (by omega), wrap_small (x := x / 2) (by omega) (by omega), Int.tmod_eq_emod_of_nonneg hb.1]
  exact ⟨rfl, rfl⟩

theorem l1_one (k : Nat) (l : List Nat) (bits : List Int) (i : Nat) (x y z : Int) (hi : i < l.length) (hl : l[i] < 256) (hx : x = 128 ∨ x = 64 ∨ x = 32 ∨ x = 16 ∨ x = 8 ∨ x = 4 ∨ x = 2 ∨ x = 1) (hb : bits.length < 10000000) :
    escutcheonref01_Bits.l1 (k + 1) (ints l) bits (i : Int) x y z = escutcheonref01_Bits.l1 k (ints l) (bits ++ [((l[i] : Nat) : Int) / x % 2]) (i : Int) (x / 2) y z := by
  have hrd : rd (ints l) (i : Int) = (l[i] : Int) := by simp [rd, ints, hi]
  have hlen : (i : Int) < ((ints l).length : Int) := by simp [ints]; omega
  have hr := bits_round (l[i] : Int) x hx (by omega) (by omega)
  simp only [escutcheonref01_Bits.l1]
  rw [if_pos (by omega), if_pos (by omega), if_pos hlen, if_neg (by omega), if_pos (by omega), hrd, hr.1, hr.2]

theorem l1_eight (k : Nat) (l : List Nat) (bits : List Int) (i : Nat) (y : Int) (hi : i < l.length) (hl : l[i] < 256) (hb : bits.length < 9000000) (hi2 : i < 1000000) :
    escutcheonref01_Bits.l1 (k + 9) (ints l) bits (i : Int) 128 y (i : Int) = escutcheonref01_Bits.l0 k (ints l) (bits ++ ints (b8 l[i])) y ((i + 1 : Nat) : Int) := by
  rw [l1_one (k + 8) l bits i 128 y i hi hl (by omega) (by omega)]
  rw [show (128 : Int) / 2 = 64 from rfl, l1_one (k + 7) l _ i 64 y i hi hl (by omega) (by simp; omega)]
  rw [show (64 : Int) / 2 = 32 from rfl, l1_one (k + 6) l _ i 32 y i hi hl (by omega) (by simp; omega)]
  rw [show (32 : Int) / 2 = 16 from rfl, l1_one (k + 5) l _ i 16 y i hi hl (by omega) (by simp; omega)]
  rw [show (16 : Int) / 2 = 8 from rfl, l1_one (k + 4) l _ i 8 y i hi hl (by omega) (by simp; omega)]
  rw [show (8 : Int) / 2 = 4 from rfl, l1_one (k + 3) l _ i 4 y i hi hl (by omega) (by simp; omega)]
  rw [show (4 : Int) / 2 = 2 from rfl, l1_one (k + 2) l _ i 2 y i hi hl (by omega) (by simp; omega)]
  rw [show (2 : Int) / 2 = 1 from rfl, l1_one (k + 1) l _ i 1 y i hi hl (by omega) (by simp; omega)]
  simp only [escutcheonref01_Bits.l1]
  rw [if_neg (by decide), wrap_small (x := (i : Int) + 1) (by omega) (by omega)]
  congr 1
  simp [ints, b8]

theorem bits_l0 (l : List Nat) (hl : ∀ c ∈ l, c < 256) (hn : l.length < 1000000) : ∀ (d i k : Nat) (bits : List Nat), l.length - i = d → i ≤ l.length → 10 * d < k → bits.length ≤ 8 * i →
    escutcheonref01_Bits.l0 k (ints l) (ints bits) (l.length : Int) (i : Int) = some (ints (bits ++ (l.drop i).flatMap b8)) := by
  intro d
  induction d with
  | zero =>
    intro i k bits hd hi hk hb
    obtain ⟨k, rfl⟩ : ∃ m, k = m + 1 := ⟨k - 1, by omega⟩
    simp only [escutcheonref01_Bits.l0]
    rw [if_neg (by omega), List.drop_eq_nil_of_le (by omega)]
    simp
  | succ d ih =>
    intro i k bits hd hi hk hb
    obtain ⟨k, rfl⟩ : ∃ m, k = m + 10 := ⟨k - 10, by omega⟩
    have hlt : i < l.length := by omega
    have hc := hl l[i] (List.getElem_mem _)
    have h8 := l1_eight k l (ints bits) i (l.length : Int) hlt hc (by simp [ints]; omega) (by omega)
    have e : ints bits ++ ints (b8 l[i]) = ints (bits ++ b8 l[i]) := by simp [ints]
    have h := ih (i + 1) k (bits ++ b8 l[i]) (by omega) (by omega) (by omega) (by simp [b8]; omega)
    have e4 : (l.drop i).flatMap b8 = b8 l[i] ++ (l.drop (i + 1)).flatMap b8 := by rw [List.drop_eq_getElem_cons hlt]; rfl
    simp only [escutcheonref01_Bits.l0]
    rw [if_pos (by omega), h8, e, h, e4, List.append_assoc]

theorem bits_any (l : List Nat) (hl : ∀ c ∈ l, c < 256) (hn : l.length < 1000000) (k : Nat) (hk : 10 * l.length < k) :
    escutcheonref01_Bits.f k (ints l) = some (ints (l.flatMap b8)) := by
  unfold escutcheonref01_Bits.f
  have h := bits_l0 l hl hn l.length 0 k [] (by omega) (by omega) (by omega) (by simp)
  simpa [ints] using h

theorem sign_any (d : Nat) (hd : d < 64) : escutcheonref01_sign.f (d : Int) = some (((sg64.data.toList.getD d 0).toNat : Nat) : Int) := by
  have h : ∀ d : Fin 64, escutcheonref01_sign.f (d.val : Int) = some (((sg64.data.toList.getD d.val 0).toNat : Nat) : Int) := by decide +kernel
  exact h ⟨d, hd⟩

theorem l2_one (k : Nat) (xs : List Nat) (out : List Int) (i j n : Nat) (hj : j < 6) (hi : i + 6 ≤ xs.length) (hx : xs.length < 1000000) (hn : n < 64) (hb : xs.getD (i + j) 0 < 2) :
    escutcheonref01_Text.l2 (k + 1) (ints xs) out (i : Int) (n : Int) (j : Int) = escutcheonref01_Text.l2 k (ints xs) out (i : Int) ((n * 2 + xs.getD (i + j) 0 : Nat) : Int) ((j + 1 : Nat) : Int) := by
  have hw : wrap64 ((i : Int) + (j : Int)) = ((i + j : Nat) : Int) := by rw [wrap_small (by omega) (by omega)]; omega
  have hrd : rd (ints xs) ((i + j : Nat) : Int) = ((xs.getD (i + j) 0 : Nat) : Int) := by
    unfold rd
    rw [Int.toNat_natCast]
    simp [ints, show i + j < xs.length by omega]
  have hlen : ((i + j : Nat) : Int) < ((ints xs).length : Int) := by simp [ints]; omega
  simp only [escutcheonref01_Text.l2]
  rw [if_pos (by omega), hw, if_pos (by omega), if_pos hlen, hrd, wrap_small (x := (n : Int) * 2) (by omega) (by omega), wrap_small (x := (n : Int) * 2 + _) (by omega) (by omega), wrap_small (x := (j : Int) + 1) (by omega) (by omega)]
  congr 1

theorem l2_six (k : Nat) (xs : List Nat) (out : List Nat) (i : Nat) (d0 d1 d2 d3 d4 d5 : Nat) (hx : xs.length < 1000000) (ho : out.length < 1000000) (hd : xs.drop i = d0 :: d1 :: d2 :: d3 :: d4 :: d5 :: xs.drop (i + 6)) (hb : ∀ d ∈ xs, d < 2) :
    escutcheonref01_Text.l2 (k + 7) (ints xs) (ints out) (i : Int) 0 0 = escutcheonref01_Text.l1 k (ints xs) (ints (out ++ [(sg64.data.toList.getD (val 2 [d0, d1, d2, d3, d4, d5]) 0).toNat])) ((i + 6 : Nat) : Int) := by
  have hlen : i + 6 ≤ xs.length := by
    have := congrArg List.length hd
    simp at this
    omega
  have hmem : ∀ d, d = d0 ∨ d = d1 ∨ d = d2 ∨ d = d3 ∨ d = d4 ∨ d = d5 → d < 2 := fun d h => hb d (List.mem_of_mem_drop (i := i) (by rw [hd]; simp; omega))
  have g : ∀ j, xs.getD (i + j) 0 = (xs.drop i).getD j 0 := fun j => by simp
  have g0 : xs.getD (i + 0) 0 = d0 := by rw [g, hd]; rfl
  have g1 : xs.getD (i + 1) 0 = d1 := by rw [g, hd]; rfl
  have g2 : xs.getD (i + 2) 0 = d2 := by rw [g, hd]; rfl
  have g3 : xs.getD (i + 3) 0 = d3 := by rw [g, hd]; rfl
  have g4 : xs.getD (i + 4) 0 = d4 := by rw [g, hd]; rfl
  have g5 : xs.getD (i + 5) 0 = d5 := by rw [g, hd]; rfl
  have h0 := hmem d0 (by omega); have h1 := hmem d1 (by omega); have h2 := hmem d2 (by omega); have h3 := hmem d3 (by omega); have h4 := hmem d4 (by omega); have h5 := hmem d5 (by omega)
  have s0 := l2_one (k + 6) xs (ints out) i 0 0 (by omega) hlen hx (by omega) (by rw [g0]; exact h0); rw [g0] at s0
  have s1 := l2_one (k + 5) xs (ints out) i 1 (0 * 2 + d0) (by omega) hlen hx (by omega) (by rw [g1]; exact h1); rw [g1] at s1
  have s2 := l2_one (k + 4) xs (ints out) i 2 ((0 * 2 + d0) * 2 + d1) (by omega) hlen hx (by omega) (by rw [g2]; exact h2); rw [g2] at s2
  have s3 := l2_one (k + 3) xs (ints out) i 3 (((0 * 2 + d0) * 2 + d1) * 2 + d2) (by omega) hlen hx (by omega) (by rw [g3]; exact h3); rw [g3] at s3
  have s4 := l2_one (k + 2) xs (ints out) i 4 ((((0 * 2 + d0) * 2 + d1) * 2 + d2) * 2 + d3) (by omega) hlen hx (by omega) (by rw [g4]; exact h4); rw [g4] at s4
  have s5 := l2_one (k + 1) xs (ints out) i 5 (((((0 * 2 + d0) * 2 + d1) * 2 + d2) * 2 + d3) * 2 + d4) (by omega) hlen hx (by omega) (by rw [g5]; exact h5); rw [g5] at s5
  refine s0.trans (s1.trans (s2.trans (s3.trans (s4.trans (s5.trans ?_)))))
  have ev : val 2 [d0, d1, d2, d3, d4, d5] = (((((0 * 2 + d0) * 2 + d1) * 2 + d2) * 2 + d3) * 2 + d4) * 2 + d5 := by
    simp only [val, List.length_cons, List.length_nil]
    omega
  rw [← ev]
  have hv : val 2 [d0, d1, d2, d3, d4, d5] < 64 := by rw [ev]; omega
  generalize val 2 [d0, d1, d2, d3, d4, d5] = v at hv ⊢
  have hs := sign_any v hv
  simp only [escutcheonref01_Text.l2]
  rw [if_neg (by omega), hs]
  simp only [Option.bind_some]
  rw [if_pos (by simp [ints]; omega), wrap_small (x := (i : Int) + 6) (by omega) (by omega)]
  congr 1
  simp [ints]

/-- Bits, six by six. -/
theorem l1_end (xs : List Nat) (hx : xs.length < 100000) (hb : ∀ d ∈ xs, d < 2) : ∀ (q i k : Nat) (out : List Nat), xs.length = i + 6 * q → 10 * q < k → out.length ≤ i →
    ∃ ds, ds.length = q ∧ (∀ d ∈ ds, d < 64) ∧ val 64 ds = val 2 (xs.drop i) ∧
      escutcheonref01_Text.l1 k (ints xs) (ints out) (i : Int) = some (strOfNums (ints (out ++ ds.map fun d => (sg64.data.toList.getD d 0).toNat))) := by
  intro q
  induction q with
  | zero =>
    intro i k out hq hk ho
    obtain ⟨k, rfl⟩ : ∃ m, k = m + 1 := ⟨k - 1, by omega⟩
    have hlen : ¬ (i : Int) < ((ints xs).length : Int) := by simp [ints]; omega
    refine ⟨[], rfl, by simp, by rw [List.drop_eq_nil_of_le (by omega)]; rfl, ?_⟩
    simp only [escutcheonref01_Text.l1]
    rw [if_neg hlen]
    simp
  | succ q ih =>
    intro i k out hq hk ho
    obtain ⟨k, rfl⟩ : ∃ m, k = m + 8 := ⟨k - 8, by omega⟩
    have hlen : (i : Int) < ((ints xs).length : Int) := by simp [ints]; omega
    obtain ⟨d0, d1, d2, d3, d4, d5, hd⟩ : ∃ d0 d1 d2 d3 d4 d5, xs.drop i = d0 :: d1 :: d2 :: d3 :: d4 :: d5 :: xs.drop (i + 6) := by
      refine ⟨xs[i], xs[i + 1], xs[i + 2], xs[i + 3], xs[i + 4], xs[i + 5], ?_⟩
      rw [List.drop_eq_getElem_cons (by omega), List.drop_eq_getElem_cons (show i + 1 < xs.length by omega), List.drop_eq_getElem_cons (show i + 1 + 1 < xs.length by omega), List.drop_eq_getElem_cons (show i + 1 + 1 + 1 < xs.length by omega), List.drop_eq_getElem_cons (show i + 1 + 1 + 1 + 1 < xs.length by omega), List.drop_eq_getElem_cons (show i + 1 + 1 + 1 + 1 + 1 < xs.length by omega)]
    have h6 := l2_six k xs out i d0 d1 d2 d3 d4 d5 (by omega) (by omega) hd hb
    have hv : val 2 [d0, d1, d2, d3, d4, d5] < 64 := Nat.lt_of_lt_of_eq (val_lt 2 [d0, d1, d2, d3, d4, d5] (fun d h => hb d (List.mem_of_mem_drop (i := i) (by
      rw [hd, show d0 :: d1 :: d2 :: d3 :: d4 :: d5 :: xs.drop (i + 6) = [d0, d1, d2, d3, d4, d5] ++ xs.drop (i + 6) from rfl]
      exact List.mem_append_left _ h)))) (by simp)
    obtain ⟨ds, h1, h2, h3, h4⟩ := ih (i + 6) k (out ++ [(sg64.data.toList.getD (val 2 [d0, d1, d2, d3, d4, d5]) 0).toNat]) (by omega) (by omega) (by simp; omega)
    refine ⟨val 2 [d0, d1, d2, d3, d4, d5] :: ds, by simp [h1], ?_, ?_, ?_⟩
    · intro d hd
      rcases List.mem_cons.1 hd with rfl | hd
      · exact hv
      · exact h2 d hd
    · have e := val_append 2 [d0, d1, d2, d3, d4, d5] (xs.drop (i + 6))
      have e2 : xs.drop i = [d0, d1, d2, d3, d4, d5] ++ xs.drop (i + 6) := hd
      have e3 : (xs.drop (i + 6)).length = 6 * ds.length := by rw [List.length_drop]; omega
      rw [e2, e, ← h3, e3, Nat.pow_mul, show (2 : Nat) ^ 6 = 64 from rfl]
      rfl
    · simp only [escutcheonref01_Text.l1]
      rw [if_pos hlen, h6, h4]
      simp

/-- Filled up with noughts. -/
theorem l0_end (xs : List Nat) (hx : xs.length < 90000) (z : Nat) (hz : z = 0 ∨ z = 1 ∨ z = 2) (h6 : (xs.length + 2 * z) % 6 = 0) (hmin : ∀ y, y < z → (xs.length + 2 * y) % 6 ≠ 0) (k : Nat) (hk : z < k) :
    ∃ k', k ≤ k' + z + 1 ∧ escutcheonref01_Text.l0 k (ints xs) = escutcheonref01_Text.l1 k' (ints (xs ++ List.replicate (2 * z) 0)) [] 0 := by
  have go : ∀ (y : Nat) (k : Nat), y ≤ z → z - y < k → ∃ k', k ≤ k' + (z - y) + 1 ∧ escutcheonref01_Text.l0 k (ints (xs ++ List.replicate (2 * y) 0)) = escutcheonref01_Text.l1 k' (ints (xs ++ List.replicate (2 * z) 0)) [] 0 := by
    intro y k hy hk
    generalize hd : z - y = d at hk ⊢
    induction d generalizing y k with
    | zero =>
      obtain rfl : y = z := by omega
      obtain ⟨k, rfl⟩ : ∃ m, k = m + 1 := ⟨k - 1, by omega⟩
      refine ⟨k, by omega, ?_⟩
      have hl : (((ints (xs ++ List.replicate (2 * y) 0)).length : Int) % 6) = 0 := by simp [ints]; omega
      simp only [escutcheonref01_Text.l0]
      rw [if_pos hl]
    | succ d ih =>
      obtain ⟨k, rfl⟩ : ∃ m, k = m + 1 := ⟨k - 1, by omega⟩
      obtain ⟨k', h1, h2⟩ := ih (y + 1) k (by omega) (by omega) (by omega)
      refine ⟨k', by omega, ?_⟩
      have hne := hmin y (by omega)
      have hl : ¬ (((ints (xs ++ List.replicate (2 * y) 0)).length : Int) % 6) = 0 := by simp [ints]; omega
      have hl2 : (ints (xs ++ List.replicate (2 * y) 0)).length + ([0, 0] : List Int).length < 17592186044416 := by simp [ints]; omega
      simp only [escutcheonref01_Text.l0]
      rw [if_neg hl]
      simp only [Option.bind_some]
      rw [if_pos hl2, ← h2]
      congr 1
      simp only [ints, List.map_append, List.map_replicate, List.append_assoc]
      congr 1
      rw [show 2 * (y + 1) = 2 * y + 2 from by omega, ← List.replicate_append_replicate]
      rfl
  have h := go 0 k (by omega) (by omega)
  simpa using h

theorem val_zeros (n : Nat) : val 2 (List.replicate n 0) = 0 := by
  induction n with
  | zero => rfl
  | succ n ih => rw [List.replicate_succ]; simp only [val, ih]; omega

theorem flat_val (ds : List Nat) (h : ∀ d ∈ ds, d < 256) : val 2 (ds.flatMap b8) = val 256 ds ∧ (ds.flatMap b8).length = 8 * ds.length ∧ ∀ d ∈ ds.flatMap b8, d < 2 := by
  induction ds with
  | nil => simp [val]
  | cons d t ih =>
    obtain ⟨h1, h2, h3⟩ := ih (fun c hc => h c (by simp [hc]))
    refine ⟨?_, ?_, ?_⟩
    · rw [List.flatMap_cons, val_append, b8_val d (h d (by simp)), h1, h2]
      simp only [val]
      rw [Nat.pow_mul]
    · rw [List.flatMap_cons, List.length_append, h2]; simp [b8]; omega
    · intro c hc
      rw [List.flatMap_cons] at hc
      rcases List.mem_append.1 hc with hc | hc
      · exact b8_lt d c hc
      · exact h3 c hc

/-- What the document writes is what the program writes. -/
theorem refText (l : List UInt8) (hl : l.length ≤ 1000) : ∃ k, escutcheonref01_Text.f k (ints (by_ l)) = some ⟨(txt sg64 6 l).toArray⟩ := by
  refine ⟨10 * l.length + 10000 + 20 * l.length, ?_⟩
  obtain ⟨f1, f2, f3⟩ := flat_val (by_ l) (by_lt l)
  rw [by_length] at f2
  unfold escutcheonref01_Text.f
  rw [bits_any (by_ l) (by_lt l) (by rw [by_length]; omega) _ (by rw [by_length]; omega)]
  simp only [Option.bind_some]
  obtain ⟨z, hz, h6, hmin⟩ : ∃ z, (z = 0 ∨ z = 1 ∨ z = 2) ∧ (8 * l.length + 2 * z) % 6 = 0 ∧ ∀ y, y < z → (8 * l.length + 2 * y) % 6 ≠ 0 := by
    rcases (by omega : l.length % 3 = 0 ∨ l.length % 3 = 1 ∨ l.length % 3 = 2) with h | h | h
    · exact ⟨0, by omega, by omega, fun y hy => by omega⟩
    · exact ⟨2, by omega, by omega, fun y hy => by omega⟩
    · exact ⟨1, by omega, by omega, fun y hy => by omega⟩
  obtain ⟨k', hk', h0⟩ := l0_end ((by_ l).flatMap b8) (by omega) z hz (by rw [f2]; exact h6) (fun y hy => by rw [f2]; exact hmin y hy) (10 * l.length + 10000 + 20 * l.length) (by omega)
  rw [h0]
  obtain ⟨ds, g1, g2, g3, g4⟩ := l1_end ((by_ l).flatMap b8 ++ List.replicate (2 * z) 0) (by rw [List.length_append, f2]; simp; omega) (by
    intro d hd
    rcases List.mem_append.1 hd with hd | hd
    · exact f3 d hd
    · have := List.eq_of_mem_replicate hd; omega) ((8 * l.length + 2 * z) / 6) 0 k' [] (by rw [List.length_append, f2]; simp; omega) (by omega) (by simp)
  simp only [List.drop_zero, List.nil_append] at g3 g4
  refine Eq.trans g4 ?_
  rw [val_append, val_zeros, f1] at g3
  obtain ⟨es, z', t1, t2, t3, t4, t5⟩ := txt_spec alpha64 l
  have hzz : z' = 2 * z := by omega
  have hl2 : ds.length = es.length := by omega
  have he : ds = es := val_inj 64 _ _ hl2 g2 t2 (by rw [g3, show val 64 es = _ from t4, hzz, List.length_replicate]; simp)
  rw [t1, ← he]
  unfold strOfNums
  congr 1
  congr 1
  simp [ints]
end Go.Proofs.YtckkjcicjfnadaaDoor.CnT
