/-
  The document's answer for hexadecimal: what the printed functions of escutcheonref01.Hex and Unhex come to.
-/
import Derived.Test.YtckkjcicjfnadaaDoorCoinLaws
import Derived.Test.YtckkjcicjfnadaaDoorPCoinHexesx2
namespace Go.Proofs.YtckkjcicjfnadaaDoor.CnH
open Go.Proofs.YtckkjcicjfnadaaDoor.Cn
open Go.Proofs.YtckkjcicjfnadaaDoor.PCoinHexes Go.Proofs.YtckkjcicjfnadaaDoorW.PrintWords Go.RowKit

theorem wrap_small {x : Int} (h0 : 0 ≤ x) (h1 : x < 9223372036854775808) : wrap64 x = x := by unfold wrap64; omega
def ints (l : List Nat) : List Int := l.map Int.ofNat
def hx (d : Nat) : Nat := (sg16.data.toList.getD d 0).toNat

theorem digit_any (d : Nat) (hd : d < 16) : escutcheonref01_digit.f (d : Int) = some ((hx d : Nat) : Int) := by
  have h : ∀ d : Fin 16, escutcheonref01_digit.f (d.val : Int) = some ((hx d.val : Nat) : Int) := by decide +kernel
  exact h ⟨d, hd⟩

/-- Two digits of each byte. -/
def hexOf (l : List Nat) : List Nat := l.flatMap fun c => [hx (c / 16), hx (c % 16)]

theorem hex_l0 (l : List Nat) (hl : ∀ c ∈ l, c < 256) (hn : l.length < 1000000) : ∀ (d i k : Nat) (out : List Nat), l.length - i = d → i ≤ l.length → d < k → out.length ≤ 2 * i →
    escutcheonref01_Hex.l0 k (ints l) (ints out) (l.length : Int) (i : Int) = some (strOfNums (ints (out ++ hexOf (l.drop i)))) := by
  intro d
  induction d with
  | zero =>
    intro i k out hd hi hk ho
    obtain ⟨k, rfl⟩ : ∃ m, k = m + 1 := ⟨k - 1, by omega⟩
    simp only [escutcheonref01_Hex.l0]
    rw [if_neg (by omega), List.drop_eq_nil_of_le (by omega)]
    simp [hexOf]
  | succ d ih =>
    intro i k out hd hi hk ho
    obtain ⟨k, rfl⟩ : ∃ m, k = m + 1 := ⟨k - 1, by omega⟩
    have hlt : i < l.length := by omega
    have hc := hl l[i] (List.getElem_mem _)
    have d1 := digit_any (l[i] / 16) (by omega)
    have d2 := digit_any (l[i] % 16) (by omega)
    have hrd : rd (ints l) (i : Int) = (l[i] : Int) := by simp [rd, ints, hlt]
    have e1 : wrap64 (Int.tdiv (wrap64 (l[i] : Int)) 16) = ((l[i] / 16 : Nat) : Int) := by
      rw [wrap_small (x := (l[i] : Int)) (by omega) (by omega), Int.tdiv_eq_ediv_of_nonneg (by omega), wrap_small (x := (l[i] : Int) / 16) (by omega) (by omega)]
      omega
    have e2 : Int.tmod (wrap64 (l[i] : Int)) 16 = ((l[i] % 16 : Nat) : Int) := by
      rw [wrap_small (x := (l[i] : Int)) (by omega) (by omega), Int.tmod_eq_emod_of_nonneg (by omega)]
      omega
    rw [← e1] at d1
    rw [← e2] at d2
    rw [← hrd] at d1 d2
    clear e1 e2
    simp only [escutcheonref01_Hex.l0]
    have c1 : (i : Int) < (l.length : Int) := by omega
    have c2 : (0 : Int) ≤ (i : Int) := by omega
    have c3 : (i : Int) < ((ints l).length : Int) := by simp [ints]; omega
    rw [if_pos c1, if_pos c2, if_pos c3, d1, d2]
    simp only [Option.bind_some]
    rw [if_pos (by simp [ints]; omega), wrap_small (x := (i : Int) + 1) (by omega) (by omega)]
    clear d1 d2 hrd
    have h := ih (i + 1) k (out ++ [hx (l[i] / 16), hx (l[i] % 16)]) (by omega) (by omega) (by omega) (by simp; omega)
    rw [show ((i + 1 : Nat) : Int) = (i : Int) + 1 from by omega] at h
    have e3 : ints out ++ [((hx (l[i] / 16) : Nat) : Int), ((hx (l[i] % 16) : Nat) : Int)] = ints (out ++ [hx (l[i] / 16), hx (l[i] % 16)]) := by simp [ints]
    have e4 : hexOf (l.drop i) = [hx (l[i] / 16), hx (l[i] % 16)] ++ hexOf (l.drop (i + 1)) := by rw [List.drop_eq_getElem_cons hlt]; rfl
    rw [e3, h, e4, List.append_assoc]

theorem hex_any (l : List Nat) (hl : ∀ c ∈ l, c < 256) (hn : l.length < 1000000) (k : Nat) (hk : l.length < k) :
    escutcheonref01_Hex.f k (ints l) = some (strOfNums (ints (hexOf l))) := by
  unfold escutcheonref01_Hex.f
  have h := hex_l0 l hl hn l.length 0 k [] (by omega) (by omega) hk (by simp)
  simpa [ints] using h

/-- A sign's number, and back. -/
theorem hx_inj : ∀ a b, a < 16 → b < 16 → hx a = hx b → a = b := by
  have h : ∀ a b : Fin 16, hx a.val = hx b.val → a.val = b.val := by decide +kernel
  intro a b ha hb
  exact h ⟨a, ha⟩ ⟨b, hb⟩

/-- What a sign is. -/
theorem sign_ok : ∀ c : Fin 256, ((48 ≤ c.val ∧ c.val ≤ 57 ∨ 97 ≤ c.val ∧ c.val ≤ 102) ↔ 0 ≤ at_ sg16.data.toList (c.val : Int) 0) := by decide +kernel

theorem l0_any (s : ByteArray) (hs : s.size ≤ 400) : ∀ (d i k : Nat), s.size - i = d → i ≤ s.size → d < k →
    ((∃ c ∈ s.data.toList.drop i, at_ sg16.data.toList c.toNat 0 < 0) ∧ escutcheonref01_Unhex.l0 k s i = some ([], 2)) ∨
    ((∀ c ∈ s.data.toList.drop i, 0 ≤ at_ sg16.data.toList c.toNat 0) ∧ ∃ k', k ≤ k' + d + 1 ∧
      escutcheonref01_Unhex.l0 k s i = if s.size % 2 = 0 then escutcheonref01_Unhex.l1 k' s [] 0 else some ([], 3)) := by
  intro d
  induction d with
  | zero =>
    intro i k hd hi hk
    obtain ⟨k, rfl⟩ : ∃ m, k = m + 1 := ⟨k - 1, by omega⟩
    have hdr : s.data.toList.drop i = [] := List.drop_eq_nil_of_le (by simp; omega)
    refine .inr ⟨by simp [hdr], k, by omega, ?_⟩
    simp only [escutcheonref01_Unhex.l0]
    rw [if_neg (by omega)]
    by_cases h2 : s.size % 2 = 0
    · rw [if_pos (by omega), if_pos h2]
    · rw [if_neg (by omega), if_neg h2]
  | succ d ih =>
    intro i k hd hi hk
    obtain ⟨k, rfl⟩ : ∃ m, k = m + 1 := ⟨k - 1, by omega⟩
    have hlt : i < s.size := by omega
    have hdr : s.data.toList.drop i = s[i] :: s.data.toList.drop (i + 1) := drop_at s i hlt
    have hbt : bt s (i : Int) = (s[i].toNat : Int) := by simp [bt, hlt]
    have hby : s[i].toNat < 256 := s[i].toNat_lt
    have hok := sign_ok ⟨s[i].toNat, hby⟩
    simp only at hok
    have h := ih (i + 1) k (by omega) (by omega) (by omega)
    rw [show ((i + 1 : Nat) : Int) = (i : Int) + 1 from by omega] at h
    simp only [escutcheonref01_Unhex.l0]
    rw [if_pos (by omega), if_pos (by omega), hbt, wrap_small (x := (i : Int) + 1) (by omega) (by omega), hdr]
    have go : 0 ≤ at_ sg16.data.toList (s[i].toNat : Int) 0 →
        (((∃ c ∈ s[i] :: s.data.toList.drop (i + 1), at_ sg16.data.toList c.toNat 0 < 0) ∧ escutcheonref01_Unhex.l0 k s ((i : Int) + 1) = some ([], 2)) ∨
        ((∀ c ∈ s[i] :: s.data.toList.drop (i + 1), 0 ≤ at_ sg16.data.toList c.toNat 0) ∧ ∃ k', k + 1 ≤ k' + (d + 1) + 1 ∧
          escutcheonref01_Unhex.l0 k s ((i : Int) + 1) = if s.size % 2 = 0 then escutcheonref01_Unhex.l1 k' s [] 0 else some ([], 3))) := by
      intro h0
      rcases h with ⟨⟨c, hc, h1⟩, h2⟩ | ⟨h1, k', h2, h3⟩
      · exact .inl ⟨⟨c, by simp [hc], h1⟩, h2⟩
      · refine .inr ⟨?_, k', by omega, h3⟩
        intro c hc
        rcases List.mem_cons.1 hc with rfl | hc
        · exact h0
        · exact h1 c hc
    have stop : ¬ 0 ≤ at_ sg16.data.toList (s[i].toNat : Int) 0 →
        (((∃ c ∈ s[i] :: s.data.toList.drop (i + 1), at_ sg16.data.toList c.toNat 0 < 0) ∧ (some ([], 2) : Option (List Int × Int)) = some ([], 2)) ∨
        ((∀ c ∈ s[i] :: s.data.toList.drop (i + 1), 0 ≤ at_ sg16.data.toList c.toNat 0) ∧ ∃ k', k + 1 ≤ k' + (d + 1) + 1 ∧
          (some ([], 2) : Option (List Int × Int)) = if s.size % 2 = 0 then escutcheonref01_Unhex.l1 k' s [] 0 else some ([], 3))) := by
      intro h0
      exact .inl ⟨⟨s[i], by simp, by omega⟩, rfl⟩
    by_cases h1 : (s[i].toNat : Int) ≥ 48
    · rw [if_pos h1]
      by_cases h2 : (s[i].toNat : Int) ≤ 57
      · rw [if_pos h2]; exact go (hok.1 (by omega))
      · rw [if_neg h2]
        by_cases h3 : (s[i].toNat : Int) ≥ 97
        · rw [if_pos h3]
          by_cases h4 : (s[i].toNat : Int) ≤ 102
          · rw [if_pos h4]; exact go (hok.1 (by omega))
          · rw [if_neg h4]; exact stop (fun h => by have := hok.2 h; omega)
        · rw [if_neg h3]; exact stop (fun h => by have := hok.2 h; omega)
    · rw [if_neg h1]
      by_cases h3 : (s[i].toNat : Int) ≥ 97
      · omega
      · rw [if_neg h3]; exact stop (fun h => by have := hok.2 h; omega)

theorem hx_lt (d : Nat) (hd : d < 16) : hx d < 256 := by
  have h : ∀ d : Fin 16, hx d.val < 256 := by decide +kernel
  exact h ⟨d, hd⟩

/-- A sign of hexadecimal is its digit's. -/
theorem sign_hx (c : UInt8) (h : 0 ≤ at_ sg16.data.toList c.toNat 0) : c.toNat = hx (dg sg16.data.toList c) := by
  unfold hx
  rw [dg_sign sg16.data.toList c h]

theorem pair_eq (n : Nat) (hn : n < 256) (a b : UInt8) (ha : 0 ≤ at_ sg16.data.toList a.toNat 0) (hb : 0 ≤ at_ sg16.data.toList b.toNat 0) :
    (strOfNums (ints (hexOf [n]))).toList = [a, b] ↔ n = 16 * dg sg16.data.toList a + dg sg16.data.toList b := by
  have h1 := hx_lt (n / 16) (by omega)
  have h2 := hx_lt (n % 16) (by omega)
  have ea := sign_hx a ha
  have eb := sign_hx b hb
  have la := dg_lt _ _ ha
  have lb := dg_lt _ _ hb
  rw [alpha16.size] at la lb
  rw [ByteArray.toList_eq, strOfNums_data]
  have e : (ints (hexOf [n])).map (fun n => UInt8.ofNat n.toNat) = [UInt8.ofNat (hx (n / 16)), UInt8.ofNat (hx (n % 16))] := by
    simp [hexOf, ints]
  rw [e]
  simp only [List.cons.injEq, and_true]
  constructor
  · rintro ⟨h3, h4⟩
    have h5 : hx (n / 16) = hx (dg sg16.data.toList a) := by
      rw [← ea, ← h3, UInt8.toNat_ofNat']; omega
    have h6 : hx (n % 16) = hx (dg sg16.data.toList b) := by
      rw [← eb, ← h4, UInt8.toNat_ofNat']; omega
    have h7 := hx_inj _ _ (by omega) la h5
    have h8 := hx_inj _ _ (by omega) lb h6
    omega
  · intro h3
    have h4 : n / 16 = dg sg16.data.toList a := by omega
    have h5 : n % 16 = dg sg16.data.toList b := by omega
    rw [h4, h5, ← ea, ← eb]
    simp

theorem extract_two (s : ByteArray) (i : Nat) (h : i + 1 < s.size) : (s.extract i (i + 2)).toList = [s[i], s[i + 1]] := by
  rw [ByteArray.toList_eq, ByteArray.data_extract, Array.toList_extract]
  simp only [List.extract_eq_take_drop]
  rw [show i + 2 - i = 2 from by omega, drop_at s i (by omega), drop_at s (i + 1) h]
  simp

/-- The search for a byte by its two signs. -/
theorem l2_any (s : ByteArray) (hs : s.size ≤ 400) (i n : Nat) (hi : i + 1 < s.size) (ha : 0 ≤ at_ sg16.data.toList s[i].toNat 0) (hb : 0 ≤ at_ sg16.data.toList s[i + 1].toNat 0)
    (hn : n = 16 * dg sg16.data.toList s[i] + dg sg16.data.toList s[i + 1]) (out : List Nat) (ho : out.length ≤ i) :
    ∀ (d j k : Nat), n - j = d → j ≤ n → d + 10 ≤ k → ∃ k', k ≤ k' + d + 1 ∧ escutcheonref01_Unhex.l2 k s (ints out) (i : Int) (j : Int) = escutcheonref01_Unhex.l1 k' s (ints (out ++ [n])) ((i + 2 : Nat) : Int) := by
  have la := dg_lt _ _ ha
  have lb := dg_lt _ _ hb
  rw [alpha16.size] at la lb
  intro d
  induction d with
  | zero =>
    intro j k hd hj hk
    obtain ⟨k, rfl⟩ : ∃ m, k = m + 1 := ⟨k - 1, by omega⟩
    obtain rfl : j = n := by omega
    refine ⟨k, by omega, ?_⟩
    simp only [escutcheonref01_Unhex.l2]
    have e1 : ((j : Int) % 256) = ((j : Nat) : Int) := by omega
    have e2 : ints out ++ [((j : Nat) : Int)] = ints (out ++ [j]) := by simp [ints]
    rw [e1, e2, wrap_small (x := (i : Int) + 2) (by omega) (by omega), show (i : Int) + 2 = ((i + 2 : Nat) : Int) from by omega]
    by_cases h255 : j < 255
    · have hh := hex_any [j] (by simp; omega) (by simp) k (by simp; omega)
      rw [show ints [j] = [((j : Nat) : Int)] from rfl] at hh
      rw [if_pos (by omega), hh]
      simp only [Option.bind_some]
      rw [if_pos (by omega), if_pos (by omega), if_pos (by omega), if_pos, if_pos (by simp [ints]; omega)]
      rw [Int.toNat_natCast, Int.toNat_natCast, extract_two s i hi]
      exact (pair_eq j (by omega) _ _ ha hb).2 hn
    · rw [if_neg (by omega), if_pos (by simp [ints]; omega)]
  | succ d ih =>
    intro j k hd hj hk
    obtain ⟨k, rfl⟩ : ∃ m, k = m + 1 := ⟨k - 1, by omega⟩
    have hh := hex_any [j] (by simp; omega) (by simp) k (by simp; omega)
    rw [show ints [j] = [((j : Nat) : Int)] from rfl] at hh
    obtain ⟨k', h1, h2⟩ := ih (j + 1) k (by omega) (by omega) (by omega)
    refine ⟨k', by omega, ?_⟩
    simp only [escutcheonref01_Unhex.l2]
    have e1 : ((j : Int) % 256) = ((j : Nat) : Int) := by omega
    rw [e1, wrap_small (x := (i : Int) + 2) (by omega) (by omega), show (i : Int) + 2 = ((i + 2 : Nat) : Int) from by omega]
    rw [if_pos (by omega), hh]
    simp only [Option.bind_some]
    rw [if_pos (by omega), if_pos (by omega), if_pos (by omega), if_neg, wrap_small (x := (j : Int) + 1) (by omega) (by omega), show (j : Int) + 1 = ((j + 1 : Nat) : Int) from by omega, h2]
    rw [Int.toNat_natCast, Int.toNat_natCast, extract_two s i hi]
    intro h3
    have := (pair_eq j (by omega) _ _ ha hb).1 h3
    omega

/-- Pairs of digits as bytes. -/
def pairs : List Nat → List Nat
  | a :: b :: t => (16 * a + b) :: pairs t
  | _ => []

theorem l1_any (s : ByteArray) (hs : s.size ≤ 400) (h2 : s.size % 2 = 0) (hok : ∀ c ∈ s.data.toList, 0 ≤ at_ sg16.data.toList c.toNat 0) : ∀ (d i k : Nat) (out : List Nat), s.size - i = 2 * d → i ≤ s.size → i % 2 = 0 → 300 * d + 300 ≤ k → out.length ≤ i →
    escutcheonref01_Unhex.l1 k s (ints out) (i : Int) = some (ints (out ++ pairs ((s.data.toList.drop i).map (dg sg16.data.toList))), 0) := by
  intro d
  induction d with
  | zero =>
    intro i k out hd hi hi2 hk ho
    obtain ⟨k, rfl⟩ : ∃ m, k = m + 1 := ⟨k - 1, by omega⟩
    have hdr : s.data.toList.drop i = [] := List.drop_eq_nil_of_le (by simp; omega)
    simp only [escutcheonref01_Unhex.l1]
    rw [if_neg (by omega), hdr]
    simp [pairs]
  | succ d ih =>
    intro i k out hd hi hi2 hk ho
    obtain ⟨k, rfl⟩ : ∃ m, k = m + 1 := ⟨k - 1, by omega⟩
    have hlt : i + 1 < s.size := by omega
    have hm : ∀ (j : Nat) (h : j < s.size), s[j] ∈ s.data.toList := fun j h => by
      have : s[j] = s.data.toList[j]'(by simpa using h) := rfl
      rw [this]; exact List.getElem_mem _
    have ha := hok _ (hm i (by omega))
    have hb := hok _ (hm (i + 1) hlt)
    obtain ⟨k', h3, h4⟩ := l2_any s hs i _ hlt ha hb rfl out ho _ 0 k rfl (by omega) (by have := dg_lt _ _ ha; have := dg_lt _ _ hb; have := alpha16.size; omega)
    have hla := dg_lt _ _ ha
    have hlb := dg_lt _ _ hb
    rw [alpha16.size] at hla hlb
    simp only [escutcheonref01_Unhex.l1]
    rw [if_pos (by omega), show (0 : Int) = ((0 : Nat) : Int) from rfl, h4, ih (i + 2) k' _ (by omega) (by omega) (by omega) (by omega) (by simp; omega)]
    rw [drop_at s i (by omega), drop_at s (i + 1) hlt]
    simp [pairs]

theorem pairs_val (ds : List Nat) (h2 : ds.length % 2 = 0) (hd : ∀ d ∈ ds, d < 16) : val 256 (pairs ds) = val 16 ds ∧ 2 * (pairs ds).length = ds.length ∧ ∀ d ∈ pairs ds, d < 256 := by
  match ds with
  | [] => simp [pairs, val]
  | [a] => simp at h2
  | a :: b :: t =>
    obtain ⟨i1, i2, i3⟩ := pairs_val t (by simp at h2; omega) (fun d h => hd d (by simp [h]))
    have h1 := hd a (by simp)
    have h3 := hd b (by simp)
    refine ⟨?_, by simp [pairs]; omega, ?_⟩
    · simp only [pairs, val, i1, List.length_cons]
      rw [← i2, Nat.pow_mul, show (16 : Nat) ^ 2 = 256 from rfl, Nat.pow_succ, Nat.pow_mul, show (16 : Nat) ^ 2 = 256 from rfl]
      generalize 256 ^ (pairs t).length = P
      rw [Nat.add_mul, Nat.mul_comm 16 a, Nat.mul_assoc, Nat.mul_comm P 16]
      omega
    · intro d h
      simp only [pairs, List.mem_cons] at h
      rcases h with rfl | h
      · omega
      · exact i3 d h

/-- What the document reads is what the program reads. -/
theorem refUnhex (s : ByteArray) (hs : s.size ≤ 400) : ∃ k, escutcheonref01_Unhex.f k s = some (ints (by_ (rdv sg16 4 s).1), ((rdv sg16 4 s).2 : Int)) := by
  refine ⟨300 * s.size + 20000, ?_⟩
  have h := l0_any s hs s.size 0 (300 * s.size + 20000) (by omega) (by omega) (by omega)
  simp only [List.drop_zero] at h
  have hsz : s.data.toList.length = s.size := by simp
  unfold escutcheonref01_Unhex.f
  rcases dec_spec alpha16 s.data.toList with ⟨h1, c, hc, hneg⟩ | ⟨o, hh, m, h1, h2, h3, h4, h5, h6⟩
  · have hr : rdv sg16 4 s = ([], 2) := by simp [rdv, h1, Cn.rdOf]
    rw [hr]
    rcases h with ⟨_, h⟩ | ⟨h', _⟩
    · exact h
    · exact absurd (h' c hc) (by omega)
  · rcases h with ⟨⟨c, hc, hneg⟩, _⟩ | ⟨_, k', hk', h⟩
    · exact absurd (h4 c hc) (by omega)
    · rw [hsz] at h6
      refine h.trans ?_
      by_cases hm : 4 ≤ m
      · have hr : rdv sg16 4 s = ([], 3) := by simp [rdv, h1, Cn.rdOf, hm]
        rw [hr, if_neg (by omega)]
        rfl
      · obtain rfl : m = 0 := by omega
        obtain rfl : hh = 0 := by simpa using h3
        have hr : rdv sg16 4 s = (o, 0) := by simp [rdv, h1, Cn.rdOf]
        rw [hr, if_pos (by omega)]
        have hl1 := l1_any s hs (by omega) h4 (s.size / 2) 0 k' [] (by omega) (by omega) (by omega) (by omega) (by simp)
        simp only [List.drop_zero, List.nil_append] at hl1
        refine Eq.trans hl1 ?_
        obtain ⟨p1, p2, p3⟩ := pairs_val (s.data.toList.map (dg sg16.data.toList)) (by rw [List.length_map, hsz]; omega) (by
          intro d hd
          obtain ⟨c, hc, rfl⟩ := List.mem_map.1 hd
          have := dg_lt _ _ (h4 c hc)
          rw [alpha16.size] at this
          exact this)
        rw [List.length_map, hsz] at p2
        have e0 : val 16 (s.data.toList.map (dg sg16.data.toList)) = val 256 (by_ o) * 2 ^ 0 + 0 := h5
        have e1 : by_ o = pairs (s.data.toList.map (dg sg16.data.toList)) := val_inj 256 _ _ (by rw [by_length]; omega) (by_lt _) p3 (by rw [p1, e0]; simp)
        rw [← e1]
        rfl

/-- What the document writes is what the program writes. -/
theorem hex_txt (l : List UInt8) : (strOfNums (ints (hexOf (by_ l)))) = ⟨(txt sg16 4 l).toArray⟩ := by
  obtain ⟨ds, z, t1, t2, t3, t4, t5⟩ := txt_spec alpha16 l
  obtain rfl : z = 0 := by omega
  have hd : ds = (by_ l).flatMap (fun c => [c / 16, c % 16]) := by
    have key : ∀ x : List Nat, (∀ c ∈ x, c < 256) → val 16 (x.flatMap (fun c => [c / 16, c % 16])) = val 256 x ∧ (x.flatMap (fun c => [c / 16, c % 16])).length = 2 * x.length ∧ ∀ d ∈ x.flatMap (fun c => [c / 16, c % 16]), d < 16 := by
      intro x hx
      induction x with
      | nil => simp [val]
      | cons c t ih =>
        obtain ⟨i1, i2, i3⟩ := ih (fun c hc => hx c (by simp [hc]))
        have hc := hx c (by simp)
        refine ⟨?_, ?_, ?_⟩
        · rw [List.flatMap_cons, val_append, i1, i2]
          simp only [val, List.length_cons, List.length_nil]
          rw [Nat.pow_mul, show (16 : Nat) ^ 2 = 256 from rfl]
          congr 1
          congr 1
          omega
        · rw [List.flatMap_cons, List.length_append, i2]; simp; omega
        · intro d hd
          rw [List.flatMap_cons] at hd
          rcases List.mem_append.1 hd with hd | hd
          · simp only [List.mem_cons, List.not_mem_nil, or_false] at hd; omega
          · exact i3 d hd
    obtain ⟨k1, k2, k3⟩ := key (by_ l) (by_lt l)
    refine val_inj 16 _ _ ?_ t2 k3 ?_
    · rw [k2, by_length]; omega
    · rw [k1]; simpa using t4
  rw [t1, hd]
  unfold strOfNums
  congr 1
  congr 1
  simp only [ints, hexOf, hx, List.map_flatMap, List.map_cons, List.map_nil]
  congr 1
  funext c
  simp
end Go.Proofs.YtckkjcicjfnadaaDoor.CnH
