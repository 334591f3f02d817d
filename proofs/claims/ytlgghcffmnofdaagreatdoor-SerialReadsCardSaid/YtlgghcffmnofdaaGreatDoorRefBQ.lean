/-
  The document's answer for base 64: what the printed function of escutcheonref01.Bytes comes to.
-/
import Derived.Test.YtlgghcffmnofdaaGreatDoorCoinAll
import Derived.Test.YtlgghcffmnofdaaGreatDoorPSerialReadsx2Q

namespace Go.Proofs.YtlgghcffmnofdaaGreatDoor.Cn
open Go.Proofs.YtlgghcffmnofdaaGreatDoor.PSerialReads Go.Proofs.YtlgghcffmnofdaaGreatDoorW.PrintWords Go.RowKit

theorem wrap_small {x : Int} (h0 : 0 ≤ x) (h1 : x < 9223372036854775808) : wrap64 x = x := by unfold wrap64; omega

set_option maxRecDepth 100000 in
theorem value_all : ∀ c : Fin 256, escutcheonref01_value.f 65 (c.val : Int) = some (at_ sg64.data.toList (c.val : Int) 0) := by decide +kernel

theorem value_any (c : Int) (h0 : 0 ≤ c) (h1 : c ≤ 255) (k : Nat) (hk : 65 ≤ k) : escutcheonref01_value.f k c = some (at_ sg64.data.toList c 0) := by
  have h := value_all ⟨c.toNat, by omega⟩
  have e : ((c.toNat : Nat) : Int) = c := by omega
  simp only [e] at h
  exact at_rounds (escutcheonref01_value.mono c) hk h

/-- The six bits of a digit. -/
def b6 (n : Nat) : List Nat := [n / 32 % 2, n / 16 % 2, n / 8 % 2, n / 4 % 2, n / 2 % 2, n % 2]
theorem b6_val : ∀ n, n < 64 → val 2 (b6 n) = n := by
  have h : ∀ n : Fin 64, val 2 (b6 n.val) = n.val := by decide +kernel
  intro n hn
  exact h ⟨n, hn⟩
theorem b6_lt (n : Nat) : ∀ d ∈ b6 n, d < 2 := by
  intro d hd
  simp only [b6, List.mem_cons, List.not_mem_nil, or_false] at hd
  omega

def ints (l : List Nat) : List Int := l.map Int.ofNat

theorem bits_round (n x : Int) (hx : x = 32 ∨ x = 16 ∨ x = 8 ∨ x = 4 ∨ x = 2 ∨ x = 1) (h0 : 0 ≤ n) (h1 : n < 64) : Int.tmod (wrap64 (Int.tdiv n x)) 2 = n / x % 2 ∧ wrap64 (Int.tdiv x 2) = x / 2 := by
  have e1 : Int.tdiv n x = n / x := Int.tdiv_eq_ediv_of_nonneg h0
  have e2 : Int.tdiv x 2 = x / 2 := Int.tdiv_eq_ediv_of_nonneg (by omega)
  have hb : 0 ≤ n / x ∧ n / x < 64 := by
    rcases hx with rfl | rfl | rfl | rfl | rfl | rfl <;> omega
  rw [e1, e2, wrap_small hb.1 (by omega), wrap_small (by omega) (by omega), Int.tmod_eq_emod_of_nonneg hb.1]
  exact ⟨rfl, rfl⟩

theorem l1_one (k : Nat) (s : ByteArray) (bits : List Int) (i n x : Int) (hx : x = 32 ∨ x = 16 ∨ x = 8 ∨ x = 4 ∨ x = 2 ∨ x = 1) (h0 : 0 ≤ n) (h1 : n < 64) (hl : bits.length < 10000000) :
    escutcheonref01_Bytes.l1 (k + 1) s bits i n x = escutcheonref01_Bytes.l1 k s (bits ++ [n / x % 2]) i n (x / 2) := by
  simp only [escutcheonref01_Bytes.l1]
  rw [if_pos (by omega), if_neg (by omega), if_pos (by omega), (bits_round n x hx h0 h1).1, (bits_round n x hx h0 h1).2]

theorem l1_six (k : Nat) (s : ByteArray) (bits : List Int) (i : Int) (n : Nat) (h1 : n < 64) (hl : bits.length < 9000000) :
    escutcheonref01_Bytes.l1 (k + 7) s bits i (n : Int) 32 = escutcheonref01_Bytes.l0 k s (bits ++ ints (b6 n)) (wrap64 (i + 1)) := by
  rw [l1_one (k + 6) s bits i n 32 (by omega) (by omega) (by omega) (by omega)]
  rw [show (32 : Int) / 2 = 16 from rfl, l1_one (k + 5) s _ i n 16 (by omega) (by omega) (by omega) (by simp; omega)]
  rw [show (16 : Int) / 2 = 8 from rfl, l1_one (k + 4) s _ i n 8 (by omega) (by omega) (by omega) (by simp; omega)]
  rw [show (8 : Int) / 2 = 4 from rfl, l1_one (k + 3) s _ i n 4 (by omega) (by omega) (by omega) (by simp; omega)]
  rw [show (4 : Int) / 2 = 2 from rfl, l1_one (k + 2) s _ i n 2 (by omega) (by omega) (by omega) (by simp; omega)]
  rw [show (2 : Int) / 2 = 1 from rfl, l1_one (k + 1) s _ i n 1 (by omega) (by omega) (by omega) (by simp; omega)]
  simp only [escutcheonref01_Bytes.l1]
  rw [if_neg (by decide)]
  congr 1
  simp [ints, b6]

/-- Eight bits together. -/
theorem l3_one (k : Nat) (bits out : List Int) (n : Int) (j : Nat) (hj : j < 8) (hlen : 8 ≤ bits.length) (h0 : 0 ≤ n) (h1 : n < 256) (hb : ∀ d ∈ bits, 0 ≤ d ∧ d < 2) :
    escutcheonref01_Bytes.l3 (k + 1) bits out n (j : Int) = escutcheonref01_Bytes.l3 k bits out (n * 2 + bits.getD j 0) ((j + 1 : Nat) : Int) := by
  simp only [escutcheonref01_Bytes.l3]
  have hr : rd bits (j : Int) = bits.getD j 0 := by simp [rd]
  have hm : 0 ≤ bits.getD j 0 ∧ bits.getD j 0 < 2 := by
    rw [List.getD_eq_getElem?_getD, List.getElem?_eq_getElem (by omega)]
    exact hb _ (List.getElem_mem _)
  rw [if_pos (by omega), if_pos (by omega), if_pos (by omega), hr, wrap_small (x := n * 2) (by omega) (by omega), wrap_small (x := n * 2 + bits.getD j 0) (by omega) (by omega), wrap_small (by omega) (by omega)]
  rfl

theorem l3_eight (k : Nat) (d0 d1 d2 d3 d4 d5 d6 d7 : Nat) (rest : List Nat) (out : List Int) (hd : ∀ d ∈ [d0, d1, d2, d3, d4, d5, d6, d7] ++ rest, d < 2) (ho : out.length < 1000000) :
    escutcheonref01_Bytes.l3 (k + 9) (ints ([d0, d1, d2, d3, d4, d5, d6, d7] ++ rest)) out 0 0 = escutcheonref01_Bytes.l2 k (ints rest) (out ++ [((val 2 [d0, d1, d2, d3, d4, d5, d6, d7] : Nat) : Int)]) := by
  have hb : ∀ d ∈ ints ([d0, d1, d2, d3, d4, d5, d6, d7] ++ rest), 0 ≤ d ∧ d < 2 := by
    intro d h
    obtain ⟨c, hc, rfl⟩ := List.mem_map.1 h
    have := hd c hc
    simp only [Int.ofNat_eq_natCast]
    omega
  have h0 := hd d0 (by simp); have h1 := hd d1 (by simp); have h2 := hd d2 (by simp); have h3 := hd d3 (by simp)
  have h4 := hd d4 (by simp); have h5 := hd d5 (by simp); have h6 := hd d6 (by simp); have h7 := hd d7 (by simp)
  have hlen : 8 ≤ (ints ([d0, d1, d2, d3, d4, d5, d6, d7] ++ rest)).length := by simp [ints]
  generalize hL : ints ([d0, d1, d2, d3, d4, d5, d6, d7] ++ rest) = L at hb hlen ⊢
  have g0 : L.getD 0 0 = d0 := by rw [← hL]; rfl
  have g1 : L.getD 1 0 = d1 := by rw [← hL]; rfl
  have g2 : L.getD 2 0 = d2 := by rw [← hL]; rfl
  have g3 : L.getD 3 0 = d3 := by rw [← hL]; rfl
  have g4 : L.getD 4 0 = d4 := by rw [← hL]; rfl
  have g5 : L.getD 5 0 = d5 := by rw [← hL]; rfl
  have g6 : L.getD 6 0 = d6 := by rw [← hL]; rfl
  have g7 : L.getD 7 0 = d7 := by rw [← hL]; rfl
  have s0 := l3_one (k + 8) L out 0 0 (by omega) hlen (by omega) (by omega) hb; rw [g0] at s0
  have s1 := l3_one (k + 7) L out (0 * 2 + d0) 1 (by omega) hlen (by omega) (by omega) hb; rw [g1] at s1
  have s2 := l3_one (k + 6) L out ((0 * 2 + d0) * 2 + d1) 2 (by omega) hlen (by omega) (by omega) hb; rw [g2] at s2
  have s3 := l3_one (k + 5) L out (((0 * 2 + d0) * 2 + d1) * 2 + d2) 3 (by omega) hlen (by omega) (by omega) hb; rw [g3] at s3
  have s4 := l3_one (k + 4) L out ((((0 * 2 + d0) * 2 + d1) * 2 + d2) * 2 + d3) 4 (by omega) hlen (by omega) (by omega) hb; rw [g4] at s4
  have s5 := l3_one (k + 3) L out (((((0 * 2 + d0) * 2 + d1) * 2 + d2) * 2 + d3) * 2 + d4) 5 (by omega) hlen (by omega) (by omega) hb; rw [g5] at s5
  have s6 := l3_one (k + 2) L out ((((((0 * 2 + d0) * 2 + d1) * 2 + d2) * 2 + d3) * 2 + d4) * 2 + d5) 6 (by omega) hlen (by omega) (by omega) hb; rw [g6] at s6
  have s7 := l3_one (k + 1) L out (((((((0 * 2 + d0) * 2 + d1) * 2 + d2) * 2 + d3) * 2 + d4) * 2 + d5) * 2 + d6) 7 (by omega) hlen (by omega) (by omega) hb; rw [g7] at s7
  refine s0.trans (s1.trans (s2.trans (s3.trans (s4.trans (s5.trans (s6.trans (s7.trans ?_)))))))
  simp only [escutcheonref01_Bytes.l3]
  rw [if_neg (by decide), if_pos (by omega), if_pos (by omega)]
  congr 1
  · rw [← hL]; rfl
  · congr 2
    simp only [val, List.length_cons, List.length_nil]
    omega

theorem l4_end (k : Nat) (r : List Nat) (out : List Int) (hr : ∀ d ∈ r, d < 2) : ∀ (d i : Nat), r.length - i = d → i ≤ r.length → d < k → r.length < 100 →
    escutcheonref01_Bytes.l4 k (ints r) out ((ints r).length : Int) (i : Int) = if val 2 (r.drop i) = 0 then some (out, 0) else some ([], 4) := by
  intro d
  induction d generalizing k with
  | zero =>
    intro i hd hi hk hl
    obtain ⟨k, rfl⟩ : ∃ m, k = m + 1 := ⟨k - 1, by omega⟩
    simp only [escutcheonref01_Bytes.l4]
    rw [if_neg (by simp [ints]; omega), List.drop_eq_nil_of_le (by omega), if_pos (show val 2 ([] : List Nat) = 0 from rfl)]
  | succ d ih =>
    intro i hd hi hk hl
    obtain ⟨k, rfl⟩ : ∃ m, k = m + 1 := ⟨k - 1, by omega⟩
    have hlt : i < r.length := by omega
    have hrd : rd (ints r) (i : Int) = (r[i] : Int) := by simp [rd, ints, hlt]
    have h2 := hr r[i] (List.getElem_mem _)
    simp only [escutcheonref01_Bytes.l4]
    rw [if_pos (by simp [ints]; omega), if_pos (by omega), if_pos (by simp [ints]; omega), hrd, List.drop_eq_getElem_cons hlt]
    have hcons : val 2 (r[i] :: r.drop (i + 1)) = r[i] * 2 ^ (r.drop (i + 1)).length + val 2 (r.drop (i + 1)) := rfl
    by_cases h0 : r[i] = 0
    · rw [if_pos (by omega), wrap_small (by omega) (by omega)]
      have := ih k (i + 1) (by omega) (by omega) (by omega) hl
      rw [show ((i + 1 : Nat) : Int) = (i : Int) + 1 from by omega] at this
      rw [this, hcons, h0, Nat.zero_mul, Nat.zero_add]
    · have h1 : r[i] = 1 := by omega
      have h3 := Nat.two_pow_pos (r.drop (i + 1)).length
      rw [if_neg (by omega), if_neg (by rw [hcons, h1]; omega)]

/-- Bits, eight by eight. -/
theorem l2_end (n : Nat) : ∀ (xs out : List Nat) (k : Nat), xs.length ≤ n → (∀ d ∈ xs, d < 2) → 2 * xs.length + 20 < k → out.length + xs.length < 100000 →
    ∃ o r, (∀ d ∈ o, d < 256) ∧ r.length < 8 ∧ val 2 xs = val 256 o * 2 ^ r.length + val 2 r ∧ xs.length = 8 * o.length + r.length ∧ (∀ d ∈ r, d < 2) ∧
      escutcheonref01_Bytes.l2 k (ints xs) (ints out) = if val 2 r = 0 then some (ints (out ++ o), 0) else some ([], 4) := by
  induction n with
  | zero =>
    intro xs out k hn hx hk ho
    obtain rfl := List.eq_nil_of_length_eq_zero (Nat.le_zero.1 hn)
    obtain ⟨k, rfl⟩ : ∃ m, k = m + 1 := ⟨k - 1, by omega⟩
    refine ⟨[], [], by simp, by decide, by simp [val], by simp, by simp, ?_⟩
    simp only [escutcheonref01_Bytes.l2]
    rw [if_neg (by simp [ints])]
    have := l4_end k [] (ints out) (by simp) 0 0 rfl (by simp) (by omega) (by decide)
    simpa using this
  | succ n ih =>
    intro xs out k hn hx hk ho
    obtain ⟨k, rfl⟩ : ∃ m, k = m + 1 := ⟨k - 1, by omega⟩
    by_cases h8 : 8 ≤ xs.length
    · obtain ⟨k, rfl⟩ : ∃ m, k = m + 9 := ⟨k - 9, by omega⟩
      match xs, h8, hn, hx, hk, ho with
      | d0 :: d1 :: d2 :: d3 :: d4 :: d5 :: d6 :: d7 :: rest, _, hn, hx, hk, ho =>
        simp only [List.length_cons] at hn hk ho
        have hx' : ∀ d ∈ [d0, d1, d2, d3, d4, d5, d6, d7] ++ rest, d < 2 := hx
        have hv : val 2 [d0, d1, d2, d3, d4, d5, d6, d7] < 256 := Nat.lt_of_lt_of_eq (val_lt 2 [d0, d1, d2, d3, d4, d5, d6, d7] (fun d hd => hx' d (List.mem_append_left _ hd))) (by simp)
        obtain ⟨o, r, h1, h2, h3, h4, h5, h6⟩ := ih rest (out ++ [val 2 [d0, d1, d2, d3, d4, d5, d6, d7]]) k (by omega) (fun d hd => hx d (by simp [hd])) (by omega) (by simp; omega)
        refine ⟨val 2 [d0, d1, d2, d3, d4, d5, d6, d7] :: o, r, ?_, h2, ?_, by simp; omega, h5, ?_⟩
        · intro d hd
          rcases List.mem_cons.1 hd with rfl | hd
          · exact hv
          · exact h1 d hd
        · have e := val_append 2 [d0, d1, d2, d3, d4, d5, d6, d7] rest
          rw [show d0 :: d1 :: d2 :: d3 :: d4 :: d5 :: d6 :: d7 :: rest = [d0, d1, d2, d3, d4, d5, d6, d7] ++ rest from rfl, e, h3, h4]
          generalize val 2 [d0, d1, d2, d3, d4, d5, d6, d7] = v
          rw [show val 256 (v :: o) = v * 256 ^ o.length + val 256 o from rfl, Nat.add_mul, Nat.pow_add, Nat.pow_mul, show (2 : Nat) ^ 8 = 256 from rfl, Nat.mul_assoc, Nat.add_assoc]
        · simp only [escutcheonref01_Bytes.l2]
          rw [if_pos (by simp [ints]; omega)]
          have h7 := l3_eight k d0 d1 d2 d3 d4 d5 d6 d7 rest (ints out) hx' (by simp [ints]; omega)
          rw [show d0 :: d1 :: d2 :: d3 :: d4 :: d5 :: d6 :: d7 :: rest = [d0, d1, d2, d3, d4, d5, d6, d7] ++ rest from rfl, h7]
          have e2 : ints out ++ [((val 2 [d0, d1, d2, d3, d4, d5, d6, d7] : Nat) : Int)] = ints (out ++ [val 2 [d0, d1, d2, d3, d4, d5, d6, d7]]) := by simp [ints]
          rw [e2, h6]
          simp
    · refine ⟨[], xs, by simp, by omega, by simp [val], by simp, hx, ?_⟩
      simp only [escutcheonref01_Bytes.l2]
      rw [if_neg (by simp [ints]; omega)]
      have := l4_end k xs (ints out) hx xs.length 0 (by omega) (by omega) (by omega) (by omega)
      simpa using this

/-- The signs, one by one. -/
theorem l0_end (s : ByteArray) (hs : s.size ≤ 400) : ∀ (d i : Nat) (k : Nat) (bits : List Nat), s.size - i = d → i ≤ s.size → 10 * d + 3000 ≤ k → bits.length ≤ 6 * i →
    ((∃ c ∈ s.data.toList.drop i, at_ sg64.data.toList c.toNat 0 < 0) ∧ escutcheonref01_Bytes.l0 k s (ints bits) i = some ([], 2)) ∨
    ((∀ c ∈ s.data.toList.drop i, 0 ≤ at_ sg64.data.toList c.toNat 0) ∧ ∃ k', k ≤ k' + 10 * d + 1 ∧
      escutcheonref01_Bytes.l0 k s (ints bits) i = if s.size % 4 = 1 then some ([], 3) else escutcheonref01_Bytes.l2 k' (ints (bits ++ ((s.data.toList.drop i).map (dg sg64.data.toList)).flatMap b6)) []) := by
  intro d
  induction d with
  | zero =>
    intro i k bits hd hi hk hb
    obtain ⟨k, rfl⟩ : ∃ m, k = m + 1 := ⟨k - 1, by omega⟩
    have hdr : s.data.toList.drop i = [] := List.drop_eq_nil_of_le (by simp; omega)
    refine .inr ⟨by simp [hdr], k, by omega, ?_⟩
    simp only [escutcheonref01_Bytes.l0]
    rw [if_neg (by omega), hdr]
    by_cases h4 : s.size % 4 = 1
    · rw [if_pos (by omega), if_pos h4]
    · rw [if_neg (by omega), if_neg h4]; simp
  | succ d ih =>
    intro i k bits hd hi hk hb
    obtain ⟨k, rfl⟩ : ∃ m, k = m + 1 := ⟨k - 1, by omega⟩
    have hlt : i < s.size := by omega
    have hdr : s.data.toList.drop i = s[i] :: s.data.toList.drop (i + 1) := drop_at s i hlt
    have hbt : bt s (i : Int) = (s[i].toNat : Int) := by simp [bt, hlt]
    have hby := s[i].toNat_lt
    have hval := value_any (s[i].toNat : Int) (by omega) (by omega) k (by omega)
    simp only [escutcheonref01_Bytes.l0]
    rw [if_pos (by omega), if_pos (by omega), hbt, hval, hdr]
    simp only [Option.bind_some]
    by_cases hneg : at_ sg64.data.toList (s[i].toNat : Int) 0 < 0
    · rw [if_pos hneg]
      exact .inl ⟨⟨s[i], by simp, hneg⟩, rfl⟩
    · rw [if_neg hneg]
      have hdgl := dg_lt sg64.data.toList s[i] (by omega)
      rw [alpha64.size] at hdgl
      have hdg : at_ sg64.data.toList (s[i].toNat : Int) 0 = ((dg sg64.data.toList s[i] : Nat) : Int) := by unfold dg; omega
      obtain ⟨k, rfl⟩ : ∃ m, k = m + 7 := ⟨k - 7, by omega⟩
      rw [hdg, l1_six k s (ints bits) i _ hdgl (by simp [ints]; omega), wrap_small (by omega) (by omega)]
      have e : ints bits ++ ints (b6 (dg sg64.data.toList s[i])) = ints (bits ++ b6 (dg sg64.data.toList s[i])) := by simp [ints]
      rw [e]
      have h := ih (i + 1) k (bits ++ b6 (dg sg64.data.toList s[i])) (by omega) (by omega) (by omega) (by simp [b6]; omega)
      rw [show ((i + 1 : Nat) : Int) = (i : Int) + 1 from by omega] at h
      rcases h with ⟨⟨c, hc, h1⟩, h2⟩ | ⟨h1, k', h2, h3⟩
      · exact .inl ⟨⟨c, by simp [hc], h1⟩, h2⟩
      · refine .inr ⟨?_, k', by omega, ?_⟩
        · intro c hc
          rcases List.mem_cons.1 hc with rfl | hc
          · omega
          · exact h1 c hc
        · rw [h3]; simp

theorem flat_val (ds : List Nat) (h : ∀ d ∈ ds, d < 64) : val 2 (ds.flatMap b6) = val 64 ds ∧ (ds.flatMap b6).length = 6 * ds.length ∧ ∀ d ∈ ds.flatMap b6, d < 2 := by
  induction ds with
  | nil => simp [val]
  | cons d t ih =>
    obtain ⟨h1, h2, h3⟩ := ih (fun c hc => h c (by simp [hc]))
    refine ⟨?_, ?_, ?_⟩
    · rw [List.flatMap_cons, val_append, b6_val d (h d (by simp)), h1, h2]
      simp only [val]
      rw [Nat.pow_mul]
    · rw [List.flatMap_cons, List.length_append, h2]; simp [b6]; omega
    · intro c hc
      rw [List.flatMap_cons] at hc
      rcases List.mem_append.1 hc with hc | hc
      · exact b6_lt d c hc
      · exact h3 c hc

/-- What the document reads is what the program reads. -/
theorem refBytes (s : ByteArray) (hs : s.size ≤ 400) : ∃ k, escutcheonref01_Bytes.f k s = some (ints (by_ (rdv sg64 6 s).1), ((rdv sg64 6 s).2 : Int)) := by
  refine ⟨10 * s.size + 20000, ?_⟩
  have h := l0_end s hs s.size 0 (10 * s.size + 20000) [] (by omega) (by omega) (by omega) (by simp)
  simp only [List.drop_zero] at h
  unfold escutcheonref01_Bytes.f
  rcases dec_spec alpha64 s.data.toList with ⟨h1, c, hc, hneg⟩ | ⟨o, hh, m, h1, h2, h3, h4, h5, h6⟩
  · have hr : rdv sg64 6 s = ([], 2) := by simp [rdv, h1, rdOf]
    rw [hr]
    rcases h with ⟨_, h⟩ | ⟨h', _⟩
    · exact h
    · exact absurd (h' c hc) (by omega)
  · rcases h with ⟨⟨c, hc, hneg⟩, _⟩ | ⟨_, k', hk', h⟩
    · exact absurd (h4 c hc) (by omega)
    · have hsz : s.data.toList.length = s.size := by simp
      rw [hsz] at h6
      refine h.trans ?_
      by_cases hm : 6 ≤ m
      · have hr : rdv sg64 6 s = ([], 3) := by simp [rdv, h1, rdOf, hm]
        rw [hr, if_pos (by omega)]
        rfl
      · rw [if_neg (by omega)]
        obtain ⟨f1, f2, f3⟩ := flat_val (s.data.toList.map (dg sg64.data.toList)) (by
          intro d hd
          obtain ⟨c, hc, rfl⟩ := List.mem_map.1 hd
          have := dg_lt sg64.data.toList c (h4 c hc)
          rw [alpha64.size] at this
          exact this)
        rw [List.length_map, hsz] at f2
        obtain ⟨o2, r, g1, g2, g3, g4, g5, g6⟩ := l2_end (6 * s.size) ((s.data.toList.map (dg sg64.data.toList)).flatMap b6) [] k' (by omega) f3 (by omega) (by rw [f2]; simp; omega)
        simp only [List.nil_append] at g6 ⊢
        refine Eq.trans g6 ?_
        have e0 : val 64 (s.data.toList.map (dg sg64.data.toList)) = val 256 (by_ o) * 2 ^ m + hh := h5
        rw [f1, e0] at g3
        have hrl : r.length = m ∧ o2.length = o.length := by omega
        obtain ⟨hrm, hol⟩ := hrl
        rw [hrm] at g3
        have hpos : 0 < 2 ^ m := Nat.two_pow_pos _
        have hrv : val 2 r < 2 ^ m := by rw [← hrm]; exact val_lt 2 r g5
        have e1 : val 256 (by_ o) = val 256 o2 := by
          have := congrArg (· / 2 ^ m) g3
          rw [Nat.add_comm, Nat.add_mul_div_right _ _ hpos, Nat.div_eq_of_lt h3, Nat.zero_add, Nat.add_comm, Nat.add_mul_div_right _ _ hpos, Nat.div_eq_of_lt hrv, Nat.zero_add] at this
          exact this
        have e2 : hh = val 2 r := by rw [e1] at g3; omega
        have e3 : by_ o = o2 := val_inj 256 _ _ (by rw [by_length]; omega) (by_lt _) g1 e1
        by_cases h0 : hh = 0
        · have hr : rdv sg64 6 s = (o, 0) := by simp [rdv, h1, rdOf, hm, h0]
          rw [hr, if_pos (by omega), ← e3]
          rfl
        · have hr : rdv sg64 6 s = ([], 4) := by simp [rdv, h1, rdOf, hm, h0]
          rw [hr, if_neg (by omega)]
          rfl
end Go.Proofs.YtlgghcffmnofdaaGreatDoor.Cn
