/-
  Several texts in one: CoinPlain, CoinMath, CoinRune, Voc, CoinBytes6, Shelf, Builder, CoinText6, CoinRead, CoinLaws, CoinVoc, Args, Same, Append.
-/
import Derived.WalkKit
import Derived.Test.YtlgghcffmnofdaaGreatDoorProg
import Derived.Lib.OthersKept
import Derived.Lib.Hide
import Derived.WalkSmall
import Derived.BigQuiet
import Derived.Deep.QuietTactic
import Derived.Lib.Walk
import Derived.WalkSpells
import Derived.Shelf.Strings.Builder1
import Derived.Shelf.Small.Strs
import Derived.Shelf.Small.Wraps
import Derived.Shelf.Strings.BuilderF
import Derived.Shelf.Strings.BuilderK
import Derived.Shelf.Utf8.RuneCount
import Derived.Shelf.Strconv.Itoa0
import Derived.Shelf.Strconv.Itoa1
import Derived.Shelf.LaysM
import Derived.Shelf.Strconv.Itoa2
import Derived.Shelf.Strconv.Itoa3
import Derived.Shelf.Strings.Search1
import Derived.Shelf.Strings.Search2
import Derived.Shelf.Strings.Search3
import Derived.Shelf.Strings.Count
import Derived.Shelf.Strings.Shaped
import Derived.Shelf.Strings.Prefix
import Derived.Shelf.Strings.Split
import Derived.Shelf.Strings.SplitShaped
import Derived.Shelf.Unicode.Decode
import Derived.Shelf.Strings.RuneCount
import Derived.Shelf.Strings.Explode
import Derived.Shelf.Bits.Mul64
import Derived.Shelf.Unicode.DecodeSlow
import Derived.Shelf.Unicode.DecodeAny
import Derived.Lib.Strings
import Derived.Lib.Slices
import Derived.Lib.Builder
import Derived.Lib.AppendStr
import Derived.Lib.UnsafeStr
import Derived.Lib.MakeNoZero
import Derived.Laws.Externs
import Derived.Laws.IdiomCopy
import Derived.Laws.BitsLemmas
import Derived.StillTailTactics
import Derived.ProofKit
import Derived.Carry

/-
  Plain facts, no program in sight: where a byte first stands in a list, as a number, or -1.
-/
namespace Go.Proofs.YtlgghcffmnofdaaGreatDoor.Cn

/-- Where a rune first stands among some bytes, from a place on; -1: nowhere. -/
def at_ (l : List UInt8) (r : Int) (k : Nat) : Int :=
  match l with
  | [] => -1
  | c :: t => if (c.toNat : Int) = r then k else at_ t r (k + 1)

theorem at_step (s : ByteArray) (r : Int) (k : Nat) (h : k < s.size) :
    at_ (s.data.toList.drop k) r k = if ((s[k]'h).toNat : Int) = r then (k : Int) else at_ (s.data.toList.drop (k + 1)) r (k + 1) := by
  rw [List.drop_eq_getElem_cons (by simpa using h)]
  simp only [at_]
  rfl

theorem at_end (s : ByteArray) (r : Int) (k : Nat) (h : ¬ k < s.size) : at_ (s.data.toList.drop k) r k = -1 := by
  rw [List.drop_eq_nil_of_le (by simp; omega)]
  rfl

theorem at_lt (l : List UInt8) (r : Int) (k : Nat) : at_ l r k < k + l.length := by
  induction l generalizing k with
  | nil => simp [at_]; omega
  | cons c t ih =>
    simp only [at_]
    split
    · simp; omega
    · have := ih (k + 1); simp; omega

theorem at_ge (l : List UInt8) (r : Int) (k : Nat) : at_ l r k = -1 ∨ (k : Int) ≤ at_ l r k := by
  induction l generalizing k with
  | nil => exact .inl rfl
  | cons c t ih =>
    simp only [at_]
    split
    · exact .inr (Int.le_refl _)
    · rcases ih (k + 1) with h | h
      · exact .inl h
      · exact .inr (by omega)

/-- No sign of ASCII signs is a rune from 128 on. -/
theorem at_high (l : List UInt8) (r : Int) (k : Nat) (hl : ∀ c ∈ l, c.toNat < 128) (hr : 128 ≤ r) : at_ l r k = -1 := by
  induction l generalizing k with
  | nil => rfl
  | cons c t ih =>
    simp only [at_]
    have := hl c (by simp)
    rw [if_neg (by omega)]
    exact ih (k + 1) (fun c hc => hl c (by simp [hc]))

/-- The bytes of a text in an alphabet's signs, each telling b bits: what is out, what is held, how many bits that are. -/
def dec (sg : List UInt8) (b : Nat) : List UInt8 → List UInt8 → Nat → Nat → Option (List UInt8 × Nat × Nat)
  | [], out, h, m => some (out, h, m)
  | c :: t, out, h, m =>
    if at_ sg c.toNat 0 < 0 then none
    else if 8 ≤ m + b then
      dec sg b t (out ++ [UInt8.ofNat ((h * 2 ^ b + (at_ sg c.toNat 0).toNat) / 2 ^ (m + b - 8))]) ((h * 2 ^ b + (at_ sg c.toNat 0).toNat) % 2 ^ (m + b - 8)) (m + b - 8)
    else dec sg b t out (h * 2 ^ b + (at_ sg c.toNat 0).toNat) (m + b)

theorem drop_at (s : ByteArray) (k : Nat) (h : k < s.size) : s.data.toList.drop k = s[k] :: s.data.toList.drop (k + 1) := by
  rw [List.drop_eq_getElem_cons (by simpa using h)]
  rfl

/-- Bytes as cells. -/
def cs (l : List UInt8) : List Value := l.map fun c => Value.int .u8 c.toNat
theorem cs_length (l : List UInt8) : (cs l).length = l.length := by simp [cs]
theorem cs_append (l m : List UInt8) : cs (l ++ m) = cs l ++ cs m := by simp [cs]
/-- Bytes in an alphabet's signs, each telling b bits: what is held, how many bits that are, what is out; f: more than enough rounds. -/
def enc (sg : List UInt8) (b : Nat) : Nat → List UInt8 → Nat → Nat → List UInt8 → List UInt8
  | 0, _, _, _, out => out
  | f + 1, l, h, n, out =>
    if b ≤ n then enc sg b f l (h % 2 ^ (n - b)) (n - b) (out ++ [sg.getD (h / 2 ^ (n - b)) 0])
    else match l with
      | [] => if 0 < n then out ++ [sg.getD (h * 2 ^ (b - n)) 0] else out
      | c :: t => enc sg b f t (h * 256 + c.toNat) (n + 8) out

theorem enc_emit {sg : List UInt8} {b f : Nat} {l : List UInt8} {h n : Nat} {out : List UInt8} (hn : b ≤ n) : enc sg b (f + 1) l h n out = enc sg b f l (h % 2 ^ (n - b)) (n - b) (out ++ [sg.getD (h / 2 ^ (n - b)) 0]) := by
  cases l <;> simp only [enc, if_pos hn]

theorem enc_byte {sg : List UInt8} {b f : Nat} {c : UInt8} {t : List UInt8} {h n : Nat} {out : List UInt8} (hn : ¬ b ≤ n) : enc sg b (f + 1) (c :: t) h n out = enc sg b f t (h * 256 + c.toNat) (n + 8) out := by
  simp only [enc, if_neg hn]

theorem enc_nil {sg : List UInt8} {b f : Nat} {h n : Nat} {out : List UInt8} (hn : ¬ b ≤ n) : enc sg b (f + 1) [] h n out = if 0 < n then out ++ [sg.getD (h * 2 ^ (b - n)) 0] else out := by
  simp only [enc, if_neg hn]

/-- A slice of bytes: what its cells hold. -/
def Bsl (w : World) (v : Value) (l : List UInt8) : Prop :=
  ∃ a cap, v = .slice a l.length cap ∧ l.length ≤ cap ∧ ∀ (j : Nat) (h : j < l.length), ∃ b off, a = some ⟨b, off, none⟩ ∧ w.cell? ⟨b, off + j, none⟩ = some (.int .u8 (l[j]'h).toNat)

end Go.Proofs.YtlgghcffmnofdaaGreatDoor.Cn

/-
  Plain numbers: what digits of a base are together, that they are told by it; what enc and dec keep.
-/
namespace Go.Proofs.YtlgghcffmnofdaaGreatDoor.Cn

/-- Digits of a base, together. -/
def val (B : Nat) : List Nat → Nat
  | [] => 0
  | d :: t => d * B ^ t.length + val B t

theorem val_append (B : Nat) (x y : List Nat) : val B (x ++ y) = val B x * B ^ y.length + val B y := by
  induction x with
  | nil => simp [val]
  | cons d t ih =>
    simp only [List.cons_append, val, ih, List.length_append, Nat.pow_add]
    rw [Nat.add_mul, Nat.mul_assoc, Nat.add_assoc]

theorem val_snoc (B : Nat) (x : List Nat) (d : Nat) : val B (x ++ [d]) = val B x * B + d := by
  rw [val_append]; simp [val]

theorem val_lt (B : Nat) (x : List Nat) (h : ∀ d ∈ x, d < B) : val B x < B ^ x.length := by
  induction x with
  | nil => simp [val]
  | cons d t ih =>
    have h1 := h d (by simp)
    have h2 := ih (fun c hc => h c (by simp [hc]))
    simp only [val, List.length_cons, Nat.pow_succ]
    have h3 : (d + 1) * B ^ t.length ≤ B * B ^ t.length := Nat.mul_le_mul_right _ h1
    rw [Nat.add_mul] at h3
    rw [Nat.mul_comm (B ^ t.length) B]
    omega

theorem val_inj (B : Nat) (x y : List Nat) (hl : x.length = y.length) (hx : ∀ d ∈ x, d < B) (hy : ∀ d ∈ y, d < B) (h : val B x = val B y) : x = y := by
  induction x generalizing y with
  | nil => exact (List.eq_nil_of_length_eq_zero hl.symm).symm
  | cons d t ih =>
    cases y with
    | nil => simp at hl
    | cons e u =>
      have hl' : t.length = u.length := by simpa using hl
      simp only [val, hl'] at h
      have h1 := val_lt B t (fun c hc => hx c (by simp [hc]))
      have h2 := val_lt B u (fun c hc => hy c (by simp [hc]))
      rw [hl'] at h1
      have hpos : 0 < B ^ u.length := by omega
      have e1 : (d * B ^ u.length + val B t) / B ^ u.length = d := by
        rw [Nat.add_comm, Nat.add_mul_div_right _ _ hpos, Nat.div_eq_of_lt h1, Nat.zero_add]
      have e2 : (e * B ^ u.length + val B u) / B ^ u.length = e := by
        rw [Nat.add_comm, Nat.add_mul_div_right _ _ hpos, Nat.div_eq_of_lt h2, Nat.zero_add]
      have hde : d = e := by rw [← e1, ← e2, h]
      subst hde
      rw [ih u hl' (fun c hc => hx c (by simp [hc])) (fun c hc => hy c (by simp [hc])) (by omega)]

/-- Bytes as digits. -/
def by_ (l : List UInt8) : List Nat := l.map UInt8.toNat
theorem by_lt (l : List UInt8) : ∀ d ∈ by_ l, d < 256 := by
  intro d hd
  obtain ⟨c, _, rfl⟩ := List.mem_map.1 hd
  exact c.toNat_lt
theorem by_inj {l m : List UInt8} (h : by_ l = by_ m) : l = m :=
  (List.map_inj_right (f := UInt8.toNat) (fun _ _ h => UInt8.toNat_inj.1 h)).1 h
theorem by_append (l m : List UInt8) : by_ (l ++ m) = by_ l ++ by_ m := by simp [by_]
theorem by_length (l : List UInt8) : (by_ l).length = l.length := by simp [by_]

/-- A sign's digit. -/
def dg (sg : List UInt8) (c : UInt8) : Nat := (at_ sg c.toNat 0).toNat

theorem at_get (l : List UInt8) (r : Int) (k : Nat) (h : 0 ≤ at_ l r k) : (k : Int) ≤ at_ l r k ∧ ∃ hi : (at_ l r k).toNat - k < l.length, ((l[(at_ l r k).toNat - k]'hi).toNat : Int) = r := by
  induction l generalizing k with
  | nil => simp [at_] at h
  | cons c t ih =>
    simp only [at_] at h ⊢
    by_cases hc : (c.toNat : Int) = r
    · simp only [if_pos hc]
      refine ⟨Int.le_refl _, by simp, ?_⟩
      simpa using hc
    · simp only [if_neg hc] at h ⊢
      obtain ⟨h1, h2, h3⟩ := ih (k + 1) h
      have e : (at_ t r (k + 1)).toNat - k = ((at_ t r (k + 1)).toNat - (k + 1)) + 1 := by omega
      refine ⟨by omega, by simp; omega, ?_⟩
      simp only [e, List.getElem_cons_succ]
      exact h3

/-- A sign is told by its digit. -/
theorem dg_sign (sg : List UInt8) (c : UInt8) (h : 0 ≤ at_ sg c.toNat 0) : sg.getD (dg sg c) 0 = c := by
  obtain ⟨_, h2, h3⟩ := at_get sg c.toNat 0 h
  rw [Nat.sub_zero] at h2
  simp only [Nat.sub_zero] at h3
  unfold dg
  rw [List.getD_eq_getElem?_getD, List.getElem?_eq_getElem h2]
  exact UInt8.toNat_inj.1 (Int.ofNat_inj.1 (by simpa using h3))

theorem dg_lt (sg : List UInt8) (c : UInt8) (h : 0 ≤ at_ sg c.toNat 0) : dg sg c < sg.length := by
  have := at_lt sg c.toNat 0
  unfold dg
  omega

/-- What dec keeps. -/
theorem dec_inv (sg : List UInt8) (b : Nat) (hb : b ≤ 8) (hsg : sg.length ≤ 2 ^ b) (t : List UInt8) : ∀ (out : List UInt8) (h m : Nat), m < 8 → h < 2 ^ m →
    (dec sg b t out h m = none ∧ ∃ c ∈ t, at_ sg c.toNat 0 < 0) ∨
    ∃ o h' m', dec sg b t out h m = some (o, h', m') ∧ m' < 8 ∧ h' < 2 ^ m' ∧ (∀ c ∈ t, 0 ≤ at_ sg c.toNat 0) ∧
      ∀ ps, val (2 ^ b) ps = val 256 (by_ out) * 2 ^ m + h → b * ps.length = 8 * out.length + m →
        val (2 ^ b) (ps ++ t.map (dg sg)) = val 256 (by_ o) * 2 ^ m' + h' ∧ b * (ps.length + t.length) = 8 * o.length + m' := by
  induction t with
  | nil =>
    intro out h m hm hh
    exact .inr ⟨out, h, m, rfl, hm, hh, by simp, fun ps h1 h2 => ⟨by simpa using h1, by simpa using h2⟩⟩
  | cons c t ih =>
    intro out h m hm hh
    simp only [dec]
    by_cases hc : at_ sg c.toNat 0 < 0
    · rw [if_pos hc]
      exact .inl ⟨rfl, c, by simp, hc⟩
    · rw [if_neg hc]
      have hq : dg sg c < 2 ^ b := Nat.lt_of_lt_of_le (dg_lt sg c (by omega)) hsg
      have hdg : (at_ sg c.toNat 0).toNat = dg sg c := rfl
      rw [hdg]
      generalize hx : h * 2 ^ b + dg sg c = x
      have hxlt : x < 2 ^ (m + b) := by
        have h1 : (h + 1) * 2 ^ b ≤ 2 ^ m * 2 ^ b := Nat.mul_le_mul_right _ hh
        rw [Nat.add_mul] at h1
        rw [Nat.pow_add]
        omega
      by_cases h8 : 8 ≤ m + b
      · rw [if_pos h8]
        have hp : 2 ^ (m + b) = 2 ^ (m + b - 8) * 256 := by
          rw [show m + b = (m + b - 8) + 8 from by omega, Nat.pow_add]; simp
        have hpos : 0 < 2 ^ (m + b - 8) := Nat.two_pow_pos _
        have hdiv : x / 2 ^ (m + b - 8) < 256 := by
          rw [Nat.div_lt_iff_lt_mul hpos, Nat.mul_comm]; rw [← hp]; exact hxlt
        rcases ih (out ++ [UInt8.ofNat (x / 2 ^ (m + b - 8))]) (x % 2 ^ (m + b - 8)) (m + b - 8) (by omega) (Nat.mod_lt _ hpos) with ⟨h1, c', hc', h2⟩ | ⟨o, h', m', h1, h2, h3, h4, h5⟩
        · exact .inl ⟨h1, c', by simp [hc'], h2⟩
        · refine .inr ⟨o, h', m', h1, h2, h3, ?_, ?_⟩
          · intro c' hc'
            rcases List.mem_cons.1 hc' with rfl | hc'
            · omega
            · exact h4 c' hc'
          · intro ps hv hl
            have h6 := h5 (ps ++ [dg sg c]) (by
              rw [val_snoc, hv, by_append, show by_ [UInt8.ofNat (x / 2 ^ (m + b - 8))] = [x / 2 ^ (m + b - 8)] from by simp [by_, UInt8.toNat_ofNat']; omega, val_snoc]
              have e1 : (val 256 (by_ out) * 2 ^ m + h) * 2 ^ b + dg sg c = val 256 (by_ out) * 2 ^ (m + b) + x := by
                rw [Nat.add_mul, Nat.mul_assoc, ← Nat.pow_add]; omega
              rw [e1, hp, Nat.add_mul, Nat.mul_assoc, Nat.mul_comm 256, Nat.add_assoc, Nat.mul_comm (x / _), Nat.div_add_mod]) (by simp only [List.length_append, List.length_cons, List.length_nil, Nat.mul_add]; omega)
            obtain ⟨h7, h8'⟩ := h6
            refine ⟨by simpa using h7, ?_⟩
            simp only [List.length_append, List.length_cons, List.length_nil] at h8' ⊢
            rw [← h8']; congr 1; omega
      · rw [if_neg h8]
        rcases ih out x (m + b) (by omega) hxlt with ⟨h1, c', hc', h2⟩ | ⟨o, h', m', h1, h2, h3, h4, h5⟩
        · exact .inl ⟨h1, c', by simp [hc'], h2⟩
        · refine .inr ⟨o, h', m', h1, h2, h3, ?_, ?_⟩
          · intro c' hc'
            rcases List.mem_cons.1 hc' with rfl | hc'
            · omega
            · exact h4 c' hc'
          · intro ps hv hl
            have h6 := h5 (ps ++ [dg sg c]) (by
              rw [val_snoc, hv, Nat.add_mul, Nat.mul_assoc, ← Nat.pow_add]; omega) (by simp only [List.length_append, List.length_cons, List.length_nil, Nat.mul_add]; omega)
            obtain ⟨h7, h8'⟩ := h6
            refine ⟨by simpa using h7, ?_⟩
            simp only [List.length_append, List.length_cons, List.length_nil] at h8' ⊢
            rw [← h8']; congr 1; omega

/-- What enc keeps. -/
theorem enc_inv (sg : List UInt8) (b : Nat) (hb4 : 4 ≤ b) (f : Nat) : ∀ (l : List UInt8) (h n : Nat) (ds ps : List Nat), h < 2 ^ n → 12 * l.length + n < 4 * f → (∀ d ∈ ds, d < 2 ^ b) →
    val 256 ps = val (2 ^ b) ds * 2 ^ n + h → 8 * ps.length = b * ds.length + n →
    ∃ ds' z, enc sg b f l h n (ds.map (sg.getD · 0)) = ds'.map (sg.getD · 0) ∧ (∀ d ∈ ds', d < 2 ^ b) ∧ z < b ∧ val (2 ^ b) ds' = val 256 (ps ++ by_ l) * 2 ^ z ∧ b * ds'.length = 8 * (ps.length + l.length) + z := by
  induction f with
  | zero => intro l h n ds ps _ hf; omega
  | succ f ih =>
    intro l h n ds ps hh hf hds hv hl
    by_cases hn : b ≤ n
    · rw [enc_emit hn]
      have hpos : 0 < 2 ^ (n - b) := Nat.two_pow_pos _
      have hp : 2 ^ n = 2 ^ b * 2 ^ (n - b) := by rw [← Nat.pow_add]; congr 1; omega
      have hdiv : h / 2 ^ (n - b) < 2 ^ b := by rw [Nat.div_lt_iff_lt_mul hpos, ← hp]; exact hh
      have h1 := ih l (h % 2 ^ (n - b)) (n - b) (ds ++ [h / 2 ^ (n - b)]) ps (Nat.mod_lt _ hpos) (by omega) (by
        intro d hd
        rcases List.mem_append.1 hd with hd | hd
        · exact hds d hd
        · obtain rfl := List.mem_singleton.1 hd
          exact hdiv) (by
        rw [hv, val_snoc, hp, Nat.add_mul, Nat.mul_assoc, Nat.add_assoc, Nat.mul_comm (h / _), Nat.div_add_mod]) (by
        simp only [List.length_append, List.length_cons, List.length_nil, Nat.mul_add]; omega)
      simpa using h1
    · cases l with
      | nil =>
        rw [enc_nil hn]
        by_cases h0 : 0 < n
        · rw [if_pos h0]
          refine ⟨ds ++ [h * 2 ^ (b - n)], b - n, by simp, ?_, by omega, ?_, ?_⟩
          · intro d hd
            rcases List.mem_append.1 hd with hd | hd
            · exact hds d hd
            · obtain rfl := List.mem_singleton.1 hd
              have : 2 ^ b = 2 ^ n * 2 ^ (b - n) := by rw [← Nat.pow_add]; congr 1; omega
              rw [this]
              exact Nat.mul_lt_mul_of_pos_right hh (Nat.two_pow_pos _)
          · rw [val_snoc]
            simp only [by_, List.map_nil, List.append_nil]
            rw [hv, Nat.add_mul, Nat.mul_assoc, ← Nat.pow_add, show n + (b - n) = b from by omega]
          · simp only [List.length_append, List.length_cons, List.length_nil, Nat.mul_add]; omega
        · rw [if_neg h0]
          obtain rfl : n = 0 := by omega
          refine ⟨ds, 0, rfl, hds, by omega, ?_, ?_⟩
          · simp only [by_, List.map_nil, List.append_nil]
            rw [hv]
            have : h = 0 := by simpa using hh
            simp [this]
          · simp; omega
      | cons c t =>
        rw [enc_byte hn]
        have hc := c.toNat_lt
        have h1 := ih t (h * 256 + c.toNat) (n + 8) ds (ps ++ [c.toNat]) (by
          rw [Nat.pow_add]
          have : (h + 1) * 256 ≤ 2 ^ n * 256 := Nat.mul_le_mul_right _ hh
          have e : (2 : Nat) ^ 8 = 256 := by decide
          rw [e]
          have hc' : c.toNat < 256 := hc
          omega) (by simp only [List.length_cons] at hf; omega) hds (by
          rw [val_snoc, hv, Nat.pow_add, Nat.add_mul, Nat.mul_assoc]
          have e : (2 : Nat) ^ 8 = 256 := by decide
          rw [e]; omega) (by simp only [List.length_append, List.length_cons, List.length_nil]; omega)
        obtain ⟨ds', z, h2, h3, h4, h5, h6⟩ := h1
        refine ⟨ds', z, h2, h3, h4, ?_, ?_⟩
        · rw [h5]; simp [by_]
        · rw [h6]; simp; omega
end Go.Proofs.YtlgghcffmnofdaaGreatDoor.Cn

/-
  The walk of coin.runeAt: where a rune first stands in a text of ASCII signs.
-/
namespace Go.Proofs.YtlgghcffmnofdaaGreatDoor.Cn
open Go.RowKit

set_option maxHeartbeats 800000 in
theorem runeAt_any (s : ByteArray) (r : Int) (w : World) (ha : ∀ (i : Nat) (h : i < s.size), (s[i]'h).toNat < 128) :
    Calls Tryz.prog 206 #[.string s, .int .i32 r] w fun e w' => e = .returned (.int .i64 (at_ s.data.toList r 0)) ∧ Below w.heap.size w w' := by
  go_enter Tryz.func206, Tryz.ntmps206
  go_wp2
  go_loopw [4] (fun v w' => ∃ k : Nat, k ≤ s.size ∧ w' = w.iter s k ∧ v = .int .i64 0 ∧ Hid (at_ (s.data.toList.drop k) r k = at_ s.data.toList r 0)) (fun _ w' => s.size - w'.iterPos w.heap.size)
  case atStart => exact ⟨0, Nat.zero_le _, rfl, rfl, rfl⟩
  case round =>
    obtain ⟨k, hk, rfl, rfl, hc⟩ := hrel
    by_cases hp : k < s.size
    · have hnx : ∀ ty, (Instr.next (.pointer (some ⟨w.heap.size, 0, none⟩)) true ty).run Tryz.prog (w.iter s k) = _ := fun ty => run_next_ascii w s k ty hp (ha k hp)
      have hst := at_step s r k hp
      by_cases he : ((s[k]'hp).toNat : Int) = r
      · have hb : (((s[k]'hp).toNat : Int) == r) = true := by simpa using he
        rw [if_pos he] at hst
        have hfin : Hid (at_ s.data.toList r 0 = (k : Int)) := by rw [← hc.out]; exact hst
        clear hst he hc
        go_wp2
        go_ret
        exact ⟨by rw [hfin.out]; rfl, (Below.refl _ _).alloc (Nat.le_refl _) _⟩
      · have hb : (((s[k]'hp).toNat : Int) == r) = false := by simpa using he
        rw [if_neg he] at hst
        have hfin : Hid (at_ (s.data.toList.drop (k + 1)) r (k + 1) = at_ s.data.toList r 0) := by rw [← hst]; exact hc
        clear hst he hc
        go_wp2
        go_roundw
        case rel => exact ⟨k + 1, by omega, rfl, rfl, hfin⟩
        case measure => simp; omega
    · have hnx : ∀ ty, (Instr.next (.pointer (some ⟨w.heap.size, 0, none⟩)) true ty).run Tryz.prog (w.iter s k) = _ := fun ty => run_next_end w s k ty hp
      have hst := at_end s r k hp
      have hfin : Hid (at_ s.data.toList r 0 = -1) := by rw [← hc.out]; exact hst
      clear hst hc
      go_wp2
      go_ret
      exact ⟨by rw [hfin.out]; rfl, (Below.refl _ _).alloc (Nat.le_refl _) _⟩
end Go.Proofs.YtlgghcffmnofdaaGreatDoor.Cn

/-
  Words that all walks share, over any program: what a call that only makes memory leaves; sums of bits.
-/
namespace Go.Proofs.YtlgghcffmnofdaaGreatDoor.Vo
open Go.RowKit

/-- Two endings with the same number. -/
theorem ret_int {k : IntKind} {a b : Int} (h : a = b) : Ending.returned (.int k a) = .returned (.int k b) := by rw [h]

/-- An owned row behind a call that leaves all that lay as it was. -/
theorem owns_below {w w' : World} {base : Nat} {e : TypeId} {size : Nat} {v : Value} {n : Nat} {xs : List Value} (h : w.ownsRow base e size v n xs) (hb : Below w.heap.size w w') : w'.ownsRow base e size v n xs :=
  h.kept (row := none) ⟨hb.os, hb.tape, hb.output, hb.size, fun k hk _ => hb.block k hk⟩ (by cases v.ownBlock <;> simp)

/-- An owned row while a string's iterator moves on. -/
theorem owns_iterAt {w : World} {base : Nat} {e : TypeId} {size : Nat} {v : Value} {n : Nat} {xs : List Value} (h : w.ownsRow base e size v n xs) {k : Nat} {s : ByteArray} {pos : Nat} (hk : w.heap[k]? = some (.stringIter s pos)) (pos' : Nat) :
    (w.iterAt k s pos').ownsRow base e size v n xs := by
  refine ⟨h.1, ?_⟩
  rcases h.2 with hn | ⟨g, cap, cur, hv, hb, hg, rest⟩
  · exact .inl hn
  · refine .inr ⟨g, cap, cur, hv, hb, ?_, rest⟩
    have hkg : g ≠ k := by
      intro e1
      rw [e1, hk] at hg
      cases hg
    rw [Lib.iterAt_other _ _ _ _ _ hkg]
    exact hg

theorem heap_lt {w : World} {k : Nat} {o : Obj} (h : w.heap[k]? = some o) : k < w.heap.size := (Array.getElem?_eq_some_iff.1 h).1

theorem below_drewN {B : Nat} {a w : World} (h : Below B a w) (n : Nat) : Below B a (w.drewN n) := h.trans ⟨rfl, rfl, rfl, Nat.le_refl _, fun _ _ => rfl⟩

/-- A block behind a call that leaves all that lay as it was. -/
theorem heap_below {w w' : World} {k : Nat} {o : Obj} (h : w.heap[k]? = some o) (hb : Below w.heap.size w w') : w'.heap[k]? = some o :=
  (hb.block k (heap_lt h)).trans h

/-- A block behind an append to a row of the call's own. -/
theorem heap_grown {w w' : World} {k : Nat} {o : Obj} {row : Option Nat} (h : w.heap[k]? = some o) (hg : w.grownBy w' row) (hne : ∀ g, row = some g → g ≠ k) : w'.heap[k]? = some o :=
  (hg.block k (heap_lt h) (fun e => hne k e.symm rfl)).trans h

theorem own_base {w : World} {base : Nat} {e : TypeId} {size : Nat} {v : Value} {n : Nat} {xs : List Value} (h : w.ownsRow base e size v n xs) {k : Nat} (hk : k < base) : ∀ g, v.ownBlock = some g → g ≠ k :=
  fun g hg => by have := (h.lt g hg).1; omega

theorem own_ge {w : World} {base : Nat} {e : TypeId} {size : Nat} {v : Value} {n : Nat} {xs : List Value} (h : w.ownsRow base e size v n xs) {B : Nat} (hB : B ≤ base) : ∀ g, v.ownBlock = some g → B ≤ g :=
  fun g hg => by have := (h.lt g hg).1; omega

/-- A row that is owned from a base on is owned from a lower one on. -/
theorem owns_base {w : World} {base base' : Nat} {e : TypeId} {size : Nat} {v : Value} {n : Nat} {xs : List Value} (h : w.ownsRow base e size v n xs) (hb : base' ≤ base) : w.ownsRow base' e size v n xs := by
  refine ⟨h.1, ?_⟩
  rcases h.2 with hn | ⟨g, cap, cur, hv, hbg, rest⟩
  · exact .inl hn
  · exact .inr ⟨g, cap, cur, hv, by omega, rest⟩

theorem i64_wraps (n : Int) (h₀ : 0 ≤ n) (h₁ : n < 2 ^ 62) : IntKind.i64.wrap n = n := by rw [IntKind.wrap_i64]; omega

/-- 'x | y' where y lies below a power of 2 that x is a multiple of. -/
theorem or_i64 (i : Nat) (x y : Nat) (hx : x % 2 ^ i = 0) (hx1 : x < 2 ^ 62) (hy : y < 2 ^ i) (hy1 : y < 2 ^ 62) : bits .or .i64 (x : Int) (y : Int) = ((x + y : Nat) : Int) := by
  rw [bits_join .i64 62 (by decide) i64_wraps i x y (by omega) (by exact_mod_cast congrArg Nat.cast hx) (by exact_mod_cast hx1) (by omega) (by exact_mod_cast hy) (by exact_mod_cast hy1)]
  omega

/-- 'x & (1<<i - 1)'. -/
theorem and_i64 (i : Nat) (hi : i ≤ 62) (x : Nat) (hx : x < 2 ^ 62) : bits .and .i64 (x : Int) (2 ^ i - 1) = ((x % 2 ^ i : Nat) : Int) := by
  rw [bits_mask .i64 62 (by decide) i64_wraps i hi x (by omega) (by exact_mod_cast hx)]
  exact_mod_cast rfl

/-- A text's byte at a place that lies in it. -/
theorem run_index_string {P : Program} {t : TypeId} (ht : P.underlying t = some .string) (s : ByteArray) (k : IntKind) (i : Int) (h0 : 0 ≤ i) (h : i.toNat < s.size) (w : World) :
    (Instr.index t (.string s) (.int k i)).run P w = .ok (.int .u8 ((s.data.toList.getD i.toNat 0).toNat : Nat)) w := by
  have e : s[i.toNat]? = some (s[i.toNat]'h) := by simp [h]
  have e2 : s.data.toList.getD i.toNat 0 = s[i.toNat]'h := by
    rw [List.getD_eq_getElem?_getD, List.getElem?_eq_getElem (by simpa using h)]; rfl
  rw [e2]
  simp [Instr.index, asIntOf, run_underlying ht, h0, e]
end Go.Proofs.YtlgghcffmnofdaaGreatDoor.Vo

/-
  The walk of (coin.code).bytes at an alphabet of 6 bits: the bytes of a text in its signs.
-/
namespace Go.Proofs.YtlgghcffmnofdaaGreatDoor.Cn
open Go.RowKit

def BytesPost6 (R : Option (List UInt8 × Nat × Nat)) (w : World) (e : Ending) (w' : World) : Prop :=
  Below w.heap.size w w' ∧ match R with
  | none => e = .returned (.tuple #[.slice none 0 0, .int .i64 0, .int .i64 0, .bool false])
  | some (o, h, m) => ∃ v, e = .returned (.tuple #[v, .int .i64 h, .int .i64 m, .bool true]) ∧ w'.ownsRow w.heap.size 5 1 v o.length (cs o)

set_option maxHeartbeats 1600000 in
set_option maxRecDepth 100000 in
theorem bytes6_any (sg : ByteArray) (s : ByteArray) (w : World) (ha : ∀ c ∈ sg.data.toList, c.toNat < 128) (hs : s.size ≤ 1000000) (hsg : sg.size ≤ 2 ^ 6) :
    Calls Tryz.prog 168 #[.agg #[.string sg, .int .i64 6], .string s] w (BytesPost6 (dec sg.data.toList 6 s.data.toList [] 0 0) w) := by
  obtain ⟨i0, hi, hz0, hz1, hz2⟩ := info_parts (show (Tryz.prog.info? 5).map (fun i => (i.zero, i.size, i.bytes)) = some (some (.int .u8 0), 1, 1) by kernel_rfl)
  have HA := Lib.hid ha; clear ha
  have HI : Hid (∀ (i : Nat) (h : i < sg.size), (sg[i]'h).toNat < 128) := fun i h => HA.out _ (by
    have : sg[i] = sg.data.toList[i]'(by simpa using h) := rfl
    rw [this]; exact List.getElem_mem _)
  have hlt := fun r => at_lt sg.data.toList r 0
  have HL := Lib.hid hlt; clear hlt
  go_enter Tryz.func168, Tryz.ntmps168
  go_wp2
  go_loopw [8, 9, 10] (fun v h n wr => ∃ (k : Nat) (out : List UInt8) (held m : Nat), k ≤ s.size ∧ h = .int .i64 held ∧ n = .int .i64 m ∧ wr.heap[w.heap.size]? = some (.cells #[.string sg, .int .i64 6] 160 (0, 0)) ∧ wr.heap[w.heap.size + 1]? = some (.stringIter s k) ∧
        wr.ownsRow (w.heap.size + 2) 5 1 v out.length (cs out) ∧ Below w.heap.size w wr ∧ m < 8 ∧ m % 2 = 0 ∧ held < 2 ^ m ∧ out.length ≤ k ∧ Hid (dec sg.data.toList 6 (s.data.toList.drop k) out held m = dec sg.data.toList 6 s.data.toList [] 0 0)) (fun _ _ _ wr => s.size - wr.iterPos (w.heap.size + 1))
  case atStart =>
    refine ⟨0, [], 0, 0, Nat.zero_le _, rfl, rfl, ?_, ?_, World.ownsRow_nil _ _ _ _, ?_, by omega, rfl, by decide, by simp, by simp [Hid]⟩
    · exact heap_alloc2_old w _ _
    · exact heap_alloc2_new w _ _
    · exact ((Below.refl _ _).alloc (Nat.le_refl _) _).alloc (by simp) _
  case round =>
    obtain ⟨k, out, held, m, hk, rfl, rfl, hb0, hb1, hown, hbel, hm8, hm2, hheld, hok, HD⟩ := hrel
    by_cases hp : k < s.size
    · by_cases has : (s[k]'hp).toNat < 128
      · have hnx : ∀ ty, (Instr.next (.pointer (some ⟨w.heap.size + 1, 0, none⟩)) true ty).run Tryz.prog wr = _ := fun ty => Lib.run_next_ascii_at wr _ s k ty hb1 hp has
        have hc0 : (wr.iterAt (w.heap.size + 1) s (k + 1)).heap[w.heap.size]? = _ := (Lib.iterAt_other _ _ _ _ _ (by omega)).trans hb0
        have c0 : (wr.iterAt (w.heap.size + 1) s (k + 1)).cell? ⟨w.heap.size, 0, none⟩ = some (.string sg) := by rw [Lib.cell_of_heap hc0]; rfl
        go_wp2_with fail
        refine (runeAt_any sg _ _ HI.out).mono ?_
        rintro e w1 ⟨rfl, hb⟩
        have hge := at_ge sg.data.toList ((s[k]'hp).toNat : Int) 0
        have hle := HL.out ((s[k]'hp).toNat : Int)
        have HD' : Hid (dec sg.data.toList 6 (s[k] :: s.data.toList.drop (k + 1)) out held m = dec sg.data.toList 6 s.data.toList [] 0 0) := by
          rw [← drop_at s k hp]; exact HD
        clear HD
        simp only [Hid, dec] at HD'
        generalize at_ sg.data.toList ((s[k]'hp).toNat : Int) 0 = v at *
        have hsl : (sg.data.toList.length : Int) ≤ 2 ^ 6 := by have h9 : sg.data.toList.length = sg.size := (by simp); omega
        have b0 : w1.heap[w.heap.size]? = _ := Vo.heap_below hc0 hb
        have b1 : w1.heap[w.heap.size + 1]? = _ := Vo.heap_below (Lib.iterAt_heap _ _ _ _ _ hb1) hb
        have own1 := Vo.owns_below (Vo.owns_iterAt hown hb1 (k + 1)) hb
        have bel1 : Below w.heap.size w w1 := (Lib.below_iterAt hbel (by omega) _ _).trans (hb.mono (by rw [Lib.iterAt_size]; exact hbel.size))
        have hsz := Vo.heap_lt b1
        have c1 : w1.cell? ⟨w.heap.size, 1, none⟩ = some (.int .i64 6) := by rw [Lib.cell_of_heap b0]; rfl
        have it0 := Lib.hid hb1
        clear hown hbel hb hb1 hb0 hc0 c0 hnx
        by_cases hv : v < 0
        · have hvd : decide (v < 0) = true := decide_eq_true hv
          rw [if_pos hv] at HD'
          have HF := Lib.hid HD'; clear HD' hv hle hge hsl
          go_wp2_with fail
          refine bodyPost_ret (v := .tuple #[.slice none 0 0, .int .i64 0, .int .i64 0, .bool false]) (by simp [results, Tryz.results168, go_sem]) rfl ?_
          refine ⟨bel1, ?_⟩
          rw [← HF.out]
        · have hvd : decide (v < 0) = false := decide_eq_false hv
          rw [if_neg hv] at HD'
          obtain ⟨q, rfl⟩ := Int.eq_ofNat_of_zero_le (show 0 ≤ v by omega)
          rw [Int.toNat_natCast] at HD'
          have hq : q < 2 ^ 6 := by omega
          clear hge hle hsl hv
          have hm : m = 0 ∨ m = 2 ∨ m = 4 ∨ m = 6 := by omega
          obtain ⟨x, hx⟩ : ∃ x, x = held * 2 ^ 6 + q := ⟨_, rfl⟩
          rw [← hx] at HD'
          rcases hm with rfl | rfl | rfl | rfl
          · -- held: 0 bits
            have hx14 : x < 16384 := by omega
            have hor : bits .or .i64 ((held : Int) * 64) (q : Int) = (x : Int) := by have := Vo.or_i64 6 (held * 64) q (by omega) (by omega) (by omega) (by omega); rw [hx]; simpa using this
            rw [if_neg (by decide)] at HD'
            have HF := Lib.hid HD'; clear HD'
            have HX := Lib.hid hx; clear hx
            go_wp2_with fail
            go_quiet (fail)
            go_wp2_with fail
            go_roundw
            case rel => exact ⟨k + 1, out, x, 6, by omega, by go_num, by go_num, b0, b1, own1, Vo.below_drewN bel1 _, by omega, by omega, by have := HX.out; omega, by omega, HF⟩
            case measure =>
              have e1 : (w1.drewN nq).iterPos (w.heap.size + 1) = k + 1 := by simp [World.iterPos, b1]
              have e2 : wr.iterPos (w.heap.size + 1) = k := by simp [World.iterPos, it0.out]
              rw [e1, e2]; omega
          · -- held: 2 bits
            have hx14 : x < 16384 := by omega
            have hor : bits .or .i64 ((held : Int) * 64) (q : Int) = (x : Int) := by have := Vo.or_i64 6 (held * 64) q (by omega) (by omega) (by omega) (by omega); rw [hx]; simpa using this
            rw [if_pos (by decide)] at HD'
            have hand : bits .and .i64 (x : Int) 0 = ((x % 1 : Nat) : Int) := by have := Vo.and_i64 0 (by decide) x (by omega); simpa using this
            have HF := Lib.hid HD'; clear HD'
            have HX := Lib.hid hx; clear hx
            have hy : x / 1 < 256 := by have := HX.out; omega
            go_wp2_with fail
            go_quiet (fail)
            go_wp2_with (at_builtin; go_must (refine wpList_append_own _ rfl _ _ 36 rfl (w.heap.size + 2) 5 i0 (.int .u8 0) 1 1 Tryz.underlying36 hi hz0 hz1 hz2 rfl (by decide) _ _ _ rfl (World.ownsRow.alloc (w := w1.drewN nq) own1 _) ⟨w1.heap.size, 0, none⟩ 1 1 [.int .u8 ((x : Int))] rfl rfl (cell_one_new _ _ _) (by intro u hu; simp at hu; subst hu; rfl) (by unfold maxLen; omega) (by omega) (by simp; omega) ?_))
            intro v' w2 own2 hgrow _
            have d0 : w2.heap[w.heap.size]? = _ := Vo.heap_grown (k := w.heap.size) (w := (w1.drewN nq).alloc _) ((Below.heap_alloc _ _ _ (by simp; omega)).trans b0) hgrow (Vo.own_base own1 (by omega))
            have d1 : w2.heap[w.heap.size + 1]? = _ := Vo.heap_grown (k := w.heap.size + 1) (w := (w1.drewN nq).alloc _) ((Below.heap_alloc _ _ _ (by simp; omega)).trans b1) hgrow (Vo.own_base own1 (by omega))
            have bel2 : Below w.heap.size w w2 := ((Vo.below_drewN bel1 nq).alloc bel1.size _).grown hgrow (by have := bel1.size; simp; omega) (Vo.own_ge own1 (by omega))
            have h9 : ((x / 1 % 2 ^ 8 : Nat) : Int) = (x : Int) := by omega
            have own3 : w2.ownsRow (w.heap.size + 2) 5 1 v' (out ++ [UInt8.ofNat (x / 1)]).length (cs (out ++ [UInt8.ofNat (x / 1)])) := by
              have e : cs (out ++ [UInt8.ofNat (x / 1)]) = cs out ++ [Value.int .u8 ((x : Int))] := by
                rw [cs_append]; simp only [cs, List.map_cons, List.map_nil, UInt8.toNat_ofNat']; rw [h9]
              rw [e, List.length_append]; exact own2
            clear b0 b1 own1 bel1 hgrow own2 c1 hor hsz
            go_wp2_with fail
            go_roundw
            case rel => exact ⟨k + 1, out ++ [UInt8.ofNat (x / 1)], x % 1, 0, by omega, by go_num, by go_num, d0, d1, own3, bel2, by omega, by omega, by omega, by simp; omega, HF⟩
            case measure =>
              have e1 : w2.iterPos (w.heap.size + 1) = k + 1 := by simp [World.iterPos, d1]
              have e2 : wr.iterPos (w.heap.size + 1) = k := by simp [World.iterPos, it0.out]
              rw [e1, e2]; omega
          · -- held: 4 bits
            have hx14 : x < 16384 := by omega
            have hor : bits .or .i64 ((held : Int) * 64) (q : Int) = (x : Int) := by have := Vo.or_i64 6 (held * 64) q (by omega) (by omega) (by omega) (by omega); rw [hx]; simpa using this
            rw [if_pos (by decide)] at HD'
            have hand : bits .and .i64 (x : Int) 3 = ((x % 4 : Nat) : Int) := by have := Vo.and_i64 2 (by decide) x (by omega); simpa using this
            have HF := Lib.hid HD'; clear HD'
            have HX := Lib.hid hx; clear hx
            have hy : x / 4 < 256 := by have := HX.out; omega
            go_wp2_with fail
            go_quiet (fail)
            go_wp2_with (at_builtin; go_must (refine wpList_append_own _ rfl _ _ 36 rfl (w.heap.size + 2) 5 i0 (.int .u8 0) 1 1 Tryz.underlying36 hi hz0 hz1 hz2 rfl (by decide) _ _ _ rfl (World.ownsRow.alloc (w := w1.drewN nq) own1 _) ⟨w1.heap.size, 0, none⟩ 1 1 [.int .u8 ((x : Int) / 4)] rfl rfl (cell_one_new _ _ _) (by intro u hu; simp at hu; subst hu; rfl) (by unfold maxLen; omega) (by omega) (by simp; omega) ?_))
            intro v' w2 own2 hgrow _
            have d0 : w2.heap[w.heap.size]? = _ := Vo.heap_grown (k := w.heap.size) (w := (w1.drewN nq).alloc _) ((Below.heap_alloc _ _ _ (by simp; omega)).trans b0) hgrow (Vo.own_base own1 (by omega))
            have d1 : w2.heap[w.heap.size + 1]? = _ := Vo.heap_grown (k := w.heap.size + 1) (w := (w1.drewN nq).alloc _) ((Below.heap_alloc _ _ _ (by simp; omega)).trans b1) hgrow (Vo.own_base own1 (by omega))
            have bel2 : Below w.heap.size w w2 := ((Vo.below_drewN bel1 nq).alloc bel1.size _).grown hgrow (by have := bel1.size; simp; omega) (Vo.own_ge own1 (by omega))
            have h9 : ((x / 4 % 2 ^ 8 : Nat) : Int) = (x : Int) / 4 := by omega
            have own3 : w2.ownsRow (w.heap.size + 2) 5 1 v' (out ++ [UInt8.ofNat (x / 4)]).length (cs (out ++ [UInt8.ofNat (x / 4)])) := by
              have e : cs (out ++ [UInt8.ofNat (x / 4)]) = cs out ++ [Value.int .u8 ((x : Int) / 4)] := by
                rw [cs_append]; simp only [cs, List.map_cons, List.map_nil, UInt8.toNat_ofNat']; rw [h9]
              rw [e, List.length_append]; exact own2
            clear b0 b1 own1 bel1 hgrow own2 c1 hor hsz
            go_wp2_with fail
            go_roundw
            case rel => exact ⟨k + 1, out ++ [UInt8.ofNat (x / 4)], x % 4, 2, by omega, by go_num, by go_num, d0, d1, own3, bel2, by omega, by omega, by omega, by simp; omega, HF⟩
            case measure =>
              have e1 : w2.iterPos (w.heap.size + 1) = k + 1 := by simp [World.iterPos, d1]
              have e2 : wr.iterPos (w.heap.size + 1) = k := by simp [World.iterPos, it0.out]
              rw [e1, e2]; omega
          · -- held: 6 bits
            have hx14 : x < 16384 := by omega
            have hor : bits .or .i64 ((held : Int) * 64) (q : Int) = (x : Int) := by have := Vo.or_i64 6 (held * 64) q (by omega) (by omega) (by omega) (by omega); rw [hx]; simpa using this
            rw [if_pos (by decide)] at HD'
            have hand : bits .and .i64 (x : Int) 15 = ((x % 16 : Nat) : Int) := by have := Vo.and_i64 4 (by decide) x (by omega); simpa using this
            have HF := Lib.hid HD'; clear HD'
            have HX := Lib.hid hx; clear hx
            have hy : x / 16 < 256 := by have := HX.out; omega
            go_wp2_with fail
            go_quiet (fail)
            go_wp2_with (at_builtin; go_must (refine wpList_append_own _ rfl _ _ 36 rfl (w.heap.size + 2) 5 i0 (.int .u8 0) 1 1 Tryz.underlying36 hi hz0 hz1 hz2 rfl (by decide) _ _ _ rfl (World.ownsRow.alloc (w := w1.drewN nq) own1 _) ⟨w1.heap.size, 0, none⟩ 1 1 [.int .u8 ((x : Int) / 16)] rfl rfl (cell_one_new _ _ _) (by intro u hu; simp at hu; subst hu; rfl) (by unfold maxLen; omega) (by omega) (by simp; omega) ?_))
            intro v' w2 own2 hgrow _
            have d0 : w2.heap[w.heap.size]? = _ := Vo.heap_grown (k := w.heap.size) (w := (w1.drewN nq).alloc _) ((Below.heap_alloc _ _ _ (by simp; omega)).trans b0) hgrow (Vo.own_base own1 (by omega))
            have d1 : w2.heap[w.heap.size + 1]? = _ := Vo.heap_grown (k := w.heap.size + 1) (w := (w1.drewN nq).alloc _) ((Below.heap_alloc _ _ _ (by simp; omega)).trans b1) hgrow (Vo.own_base own1 (by omega))
            have bel2 : Below w.heap.size w w2 := ((Vo.below_drewN bel1 nq).alloc bel1.size _).grown hgrow (by have := bel1.size; simp; omega) (Vo.own_ge own1 (by omega))
            have h9 : ((x / 16 % 2 ^ 8 : Nat) : Int) = (x : Int) / 16 := by omega
            have own3 : w2.ownsRow (w.heap.size + 2) 5 1 v' (out ++ [UInt8.ofNat (x / 16)]).length (cs (out ++ [UInt8.ofNat (x / 16)])) := by
              have e : cs (out ++ [UInt8.ofNat (x / 16)]) = cs out ++ [Value.int .u8 ((x : Int) / 16)] := by
                rw [cs_append]; simp only [cs, List.map_cons, List.map_nil, UInt8.toNat_ofNat']; rw [h9]
              rw [e, List.length_append]; exact own2
            clear b0 b1 own1 bel1 hgrow own2 c1 hor hsz
            go_wp2_with fail
            go_roundw
            case rel => exact ⟨k + 1, out ++ [UInt8.ofNat (x / 16)], x % 16, 4, by omega, by go_num, by go_num, d0, d1, own3, bel2, by omega, by omega, by omega, by simp; omega, HF⟩
            case measure =>
              have e1 : w2.iterPos (w.heap.size + 1) = k + 1 := by simp [World.iterPos, d1]
              have e2 : wr.iterPos (w.heap.size + 1) = k := by simp [World.iterPos, it0.out]
              rw [e1, e2]; omega
      · have hnx : ∀ ty, (Instr.next (.pointer (some ⟨w.heap.size + 1, 0, none⟩)) true ty).run Tryz.prog wr = _ := fun ty => Lib.run_next_any_at wr _ s k ty hb1 hp
        have hhi := decode_high s k hp (by omega)
        generalize (Utf8.decode s k).2 = wd at *
        generalize (Utf8.decode s k).1 = rn at *
        have hc0 : (wr.iterAt (w.heap.size + 1) s (k + wd)).heap[w.heap.size]? = _ := (Lib.iterAt_other _ _ _ _ _ (by omega)).trans hb0
        have c0 : (wr.iterAt (w.heap.size + 1) s (k + wd)).cell? ⟨w.heap.size, 0, none⟩ = some (.string sg) := by rw [Lib.cell_of_heap hc0]; rfl
        have hat := at_high sg.data.toList (rn : Int) 0 HA.out (by omega)
        have hat2 := at_high sg.data.toList ((s[k]'hp).toNat : Int) 0 HA.out (by omega)
        have HD' : Hid (dec sg.data.toList 6 (s[k] :: s.data.toList.drop (k + 1)) out held m = dec sg.data.toList 6 s.data.toList [] 0 0) := by
          rw [← drop_at s k hp]; exact HD
        simp only [Hid, dec, hat2] at HD'
        rw [if_pos (by decide)] at HD'
        have HF := Lib.hid HD'; clear HD' HD hat2
        have HT := Lib.hid hat; clear hat
        go_wp2_with fail
        refine (runeAt_any sg _ _ HI.out).mono ?_
        rintro e w1 ⟨rfl, hb⟩
        rw [HT.out]
        have b0 : w1.heap[w.heap.size]? = _ := Vo.heap_below hc0 hb
        have bel1 : Below w.heap.size w w1 := (Lib.below_iterAt hbel (by omega) _ _).trans (hb.mono (by rw [Lib.iterAt_size]; exact hbel.size))
        clear hown hbel hb hb1 hb0 hc0 c0 hnx
        go_wp2_with fail
        refine bodyPost_ret (v := .tuple #[.slice none 0 0, .int .i64 0, .int .i64 0, .bool false]) (by simp [results, Tryz.results168, go_sem]) rfl ?_
        refine ⟨bel1, ?_⟩
        rw [← HF.out]
    · have hnx : ∀ ty, (Instr.next (.pointer (some ⟨w.heap.size + 1, 0, none⟩)) true ty).run Tryz.prog wr = _ := fun ty => Lib.run_next_end_at wr _ s k ty hb1 hp
      have hd : s.data.toList.drop k = [] := List.drop_eq_nil_of_le (by simp; omega)
      rw [hd] at HD
      have HF := Lib.hid (show some (out, held, m) = _ from HD.out); clear HD hd
      go_wp2
      refine bodyPost_ret (v := .tuple #[u8, .int .i64 held, .int .i64 m, .bool true]) (by simp [results, Tryz.results168, go_sem]) rfl ?_
      refine ⟨hbel, ?_⟩
      rw [← HF.out]
      exact ⟨_, rfl, Vo.owns_base hown (by omega)⟩
end Go.Proofs.YtlgghcffmnofdaaGreatDoor.Cn

/-
  DERIVED: THE SHELF's CONTRACTS AT THIS DUMP, IN PLAIN WORDS (tools/lay-plain.mjs out of 'TryzShelf.lean', which tools/lay-shelf.mjs wrote): THE SAME DECLARATIONS UNDER THE SAME NAMES: 'import', 'namespace', 'open', 'def', 'theorem' AND NOTHING ELSE: no command of the shelf's: FOR A HAND-IN. Each laying: the table of numbers ('.._ren') and one theorem, a field a fact of the dump's own or the kernel's comparison; each contract: ONE APPLICATION.
-/
namespace Go.Proofs
open Go.Shelf
def Tryz.lays169_ren : Go.Shelf.Ren := ⟨fun | 169 => 131 | n => n, fun | 70 => 209 | 9 => 9 | 0 => 0 | 72 => 211 | 37 => 36 | 127 => 283 | 3 => 3 | 5 => 5 | n => n, fun | n => n⟩
theorem Tryz.lays169 : Go.Proofs.Lays.n169 Tryz.prog Tryz.lays169_ren := {
  mixed := by kernel_rfl
  f169 := Tryz.func131.trans (congrArg some (by kernel_rfl))
  t0 := Tryz.underlying0
  a0 := Tryz.isAgg0
  z0 := Tryz.sizeOf0
  v0 := Tryz.zeroValue0
  t3 := Tryz.underlying3
  a3 := Tryz.isAgg3
  z3 := Tryz.sizeOf3
  v3 := Tryz.zeroValue3
  t9 := Tryz.underlying9
  a9 := Tryz.isAgg9
  z9 := Tryz.sizeOf9
  v9 := Tryz.zeroValue9
  t37 := Tryz.underlying36
  a37 := Tryz.isAgg36
  z37 := Tryz.sizeOf36
  v37 := Tryz.zeroValue36
  t70 := Tryz.underlying209
  a70 := Tryz.isAgg209
  z70 := Tryz.sizeOf209
  v70 := Tryz.zeroValue209
  t72 := Tryz.underlying211
  a72 := Tryz.isAgg211
  z72 := Tryz.sizeOf211
  v72 := Tryz.zeroValue211
  t127 := Tryz.underlying283
  a127 := Tryz.isAgg283
  z127 := Tryz.sizeOf283
  v127 := Tryz.zeroValue283 }
theorem Tryz.Builder_Extra_169 : Builder.Extra Tryz.prog Tryz.lays169_ren := {
  sizeBuilder := by kernel_rfl
  liesBuilder := by kernel_rfl
  t5 := Tryz.underlying5
  a5 := Tryz.isAgg5
  z5 := Tryz.sizeOf5
  v5 := Tryz.zeroValue5
  infoByte := by kernel_rfl
  cellsByte := by kernel_rfl
  sizeByte := by kernel_rfl
  neB5 := by decide }
open Go.RowKit in
/-- (*strings.Builder).String: "String returns the accumulated string.": WHATEVER THE BUILDER HOLDS. (LAID: no walk: one application.) -/
theorem Tryz.Builder_String_any (B b : Nat) (l : List UInt8) (w : World) (h : Lib.IsBuilder 211 5 B b (Lib.byteCells l) w) (hBw : B ≤ w.heap.size) :
    Calls Tryz.prog 131 #[.pointer (some ⟨b, 0, none⟩)] w fun e w' => e = .returned (.string ⟨l.toArray⟩) ∧ Below B w w' := Any.Builder_String_any Tryz.lays169 Tryz.Builder_Extra_169 B b l w h hBw
def Tryz.lays103_ren : Go.Shelf.Ren := ⟨fun | 103 => 64 | 210 => 112 | 206 => 148 | n => n, fun | 9 => 9 | 4 => 4 | 24 => 123 | 3 => 3 | n => n, fun | n => n⟩
theorem Tryz.lays103 : Go.Proofs.Lays.n103 Tryz.prog Tryz.lays103_ren := {
  mixed := by kernel_rfl
  f103 := Tryz.func64.trans (congrArg some (by kernel_rfl))
  f206 := Tryz.func148.trans (congrArg some (by kernel_rfl))
  f210 := Tryz.func112.trans (congrArg some (by kernel_rfl))
  t3 := Tryz.underlying3
  a3 := Tryz.isAgg3
  z3 := Tryz.sizeOf3
  v3 := Tryz.zeroValue3
  t4 := Tryz.underlying4
  a4 := Tryz.isAgg4
  z4 := Tryz.sizeOf4
  v4 := Tryz.zeroValue4
  t9 := Tryz.underlying9
  a9 := Tryz.isAgg9
  z9 := Tryz.sizeOf9
  v9 := Tryz.zeroValue9
  t24 := Tryz.underlying123
  a24 := Tryz.isAgg123
  z24 := Tryz.sizeOf123
  v24 := Tryz.zeroValue123 }
open Go.RowKit in
/-- strings.CutPrefix: "CutPrefix returns s without the provided leading prefix string and reports whether it found the prefix. If s doesn't start with prefix, CutPrefix returns s, false. If prefix is the empty string, CutPrefix returns s, true.": IT RETURNS '(Lib.trimPrefix s p, Lib.hasPrefix s p)'; the world is as it was. (LAID: no walk: one application.) -/
theorem Tryz.strings_CutPrefix (s p : ByteArray) (w : World) :
    Calls Tryz.prog 64 #[.string s, .string p] w fun e w' => e = .returned (.tuple #[.string ⟨(Lib.trimPrefix s.data.toList p.data.toList).toArray⟩, .bool (Lib.hasPrefix s.data.toList p.data.toList)]) ∧ w' = w := Any.strings_CutPrefix Tryz.lays103 s p w
def Tryz.laysM246_ren : Go.Shelf.Ren := ⟨fun | 246 => 169 | 283 => 207 | 284 => 208 | 285 => 209 | 286 => 210 | 129 => 239 | 317 => 238 | 318 => 240 | 319 => 241 | 320 => 242 | 337 => 258 | 338 => 259 | n => n, fun | 2 => 2 | 3 => 3 | 9 => 9 | 4 => 4 | 171 => 301 | 0 => 0 | 53 => 148 | 37 => 36 | 5 => 5 | 173 => 304 | 212 => 327 | 51 => 328 | 20 => 20 | 213 => 329 | 46 => 164 | 232 => 64 | 233 => 207 | n => n, fun | 17 => 8 | 18 => 11 | 19 => 12 | n => n⟩
def Tryz.laysM243_ren : Go.Shelf.Ren := ⟨fun | 243 => 116 | 246 => 169 | 283 => 207 | 284 => 208 | 285 => 209 | 286 => 210 | 129 => 239 | 317 => 238 | 318 => 240 | 319 => 241 | 320 => 242 | 337 => 258 | 338 => 259 | n => n, fun | 3 => 3 | 9 => 9 | 2 => 2 | 4 => 4 | 171 => 301 | 0 => 0 | 53 => 148 | 37 => 36 | 5 => 5 | 173 => 304 | 212 => 327 | 51 => 328 | 20 => 20 | 213 => 329 | 46 => 164 | 232 => 64 | 233 => 207 | n => n, fun | 17 => 8 | 18 => 11 | 19 => 12 | n => n⟩
def Tryz.laysM171_ren : Go.Shelf.Ren := ⟨fun | 171 => 67 | 243 => 116 | 246 => 169 | 283 => 207 | 284 => 208 | 285 => 209 | 286 => 210 | 129 => 239 | 317 => 238 | 318 => 240 | 319 => 241 | 320 => 242 | 337 => 258 | 338 => 259 | n => n, fun | 3 => 3 | 9 => 9 | 2 => 2 | 4 => 4 | 171 => 301 | 0 => 0 | 53 => 148 | 37 => 36 | 5 => 5 | 173 => 304 | 212 => 327 | 51 => 328 | 20 => 20 | 213 => 329 | 46 => 164 | 232 => 64 | 233 => 207 | n => n, fun | 17 => 8 | 18 => 11 | 19 => 12 | n => n⟩
def Tryz.lays171_ren : Go.Shelf.Ren := ⟨fun | 171 => 67 | 243 => 116 | 246 => 169 | 283 => 207 | 284 => 208 | 285 => 209 | 286 => 210 | 129 => 239 | 317 => 238 | 318 => 240 | 319 => 241 | 320 => 242 | 337 => 258 | 338 => 259 | n => n, fun | 3 => 3 | 9 => 9 | 2 => 2 | 4 => 4 | 171 => 301 | 0 => 0 | 53 => 148 | 37 => 36 | 5 => 5 | 173 => 304 | 212 => 327 | 51 => 328 | 20 => 20 | 213 => 329 | 46 => 164 | 232 => 64 | 233 => 207 | n => n, fun | 17 => 8 | 18 => 11 | 19 => 12 | n => n⟩
theorem Tryz.lays171 : Go.Proofs.Lays.n171 Tryz.prog Tryz.lays171_ren := {
  mixed := by kernel_rfl
  f129 := Tryz.func239.trans (congrArg some (by kernel_rfl))
  f171 := Tryz.func67.trans (congrArg some (by kernel_rfl))
  f243 := Tryz.func116.trans (congrArg some (by kernel_rfl))
  f246 := Tryz.func169.trans (congrArg some (by kernel_rfl))
  f283 := Tryz.func207.trans (congrArg some (by kernel_rfl))
  f284 := Tryz.func208.trans (congrArg some (by kernel_rfl))
  f285 := Tryz.func209.trans (congrArg some (by kernel_rfl))
  f286 := Tryz.func210.trans (congrArg some (by kernel_rfl))
  f317 := Tryz.func238.trans (congrArg some (by kernel_rfl))
  f318 := Tryz.func240.trans (congrArg some (by kernel_rfl))
  f319 := Tryz.func241.trans (congrArg some (by kernel_rfl))
  f320 := Tryz.func242.trans (congrArg some (by kernel_rfl))
  f337 := Tryz.func258.trans (congrArg some (by kernel_rfl))
  f338 := Tryz.func259.trans (congrArg some (by kernel_rfl))
  t0 := Tryz.underlying0
  a0 := Tryz.isAgg0
  z0 := Tryz.sizeOf0
  v0 := Tryz.zeroValue0
  t2 := Tryz.underlying2
  a2 := Tryz.isAgg2
  z2 := Tryz.sizeOf2
  v2 := Tryz.zeroValue2
  t3 := Tryz.underlying3
  a3 := Tryz.isAgg3
  z3 := Tryz.sizeOf3
  v3 := Tryz.zeroValue3
  t4 := Tryz.underlying4
  a4 := Tryz.isAgg4
  z4 := Tryz.sizeOf4
  v4 := Tryz.zeroValue4
  t5 := Tryz.underlying5
  a5 := Tryz.isAgg5
  z5 := Tryz.sizeOf5
  v5 := Tryz.zeroValue5
  t9 := Tryz.underlying9
  a9 := Tryz.isAgg9
  z9 := Tryz.sizeOf9
  v9 := Tryz.zeroValue9
  t20 := Tryz.underlying20
  a20 := Tryz.isAgg20
  z20 := Tryz.sizeOf20
  v20 := Tryz.zeroValue20
  t37 := Tryz.underlying36
  a37 := Tryz.isAgg36
  z37 := Tryz.sizeOf36
  v37 := Tryz.zeroValue36
  t46 := Tryz.underlying164
  a46 := Tryz.isAgg164
  z46 := Tryz.sizeOf164
  v46 := Tryz.zeroValue164
  t51 := Tryz.underlying328
  a51 := Tryz.isAgg328
  z51 := Tryz.sizeOf328
  v51 := Tryz.zeroValue328
  t53 := Tryz.underlying148
  a53 := Tryz.isAgg148
  z53 := Tryz.sizeOf148
  v53 := Tryz.zeroValue148
  t171 := Tryz.underlying301
  a171 := Tryz.isAgg301
  z171 := Tryz.sizeOf301
  v171 := Tryz.zeroValue301
  t173 := Tryz.underlying304
  a173 := Tryz.isAgg304
  z173 := Tryz.sizeOf304
  v173 := Tryz.zeroValue304
  t212 := Tryz.underlying327
  a212 := Tryz.isAgg327
  z212 := Tryz.sizeOf327
  v212 := Tryz.zeroValue327
  t213 := Tryz.underlying329
  a213 := Tryz.isAgg329
  z213 := Tryz.sizeOf329
  t232 := Tryz.underlying64
  a232 := Tryz.isAgg64
  z232 := Tryz.sizeOf64
  v232 := Tryz.zeroValue64
  t233 := Tryz.underlying207
  a233 := Tryz.isAgg207
  z233 := Tryz.sizeOf207
  v233 := Tryz.zeroValue207
  g17 := by kernel_rfl
  g18 := by kernel_rfl
  g19 := by kernel_rfl }
open Go.RowKit Go.Sort Go.Lib in
/-- THE ROAD WITHOUT THE TABLE: 0 <= i < 100: NO PREMISE ON THE WORLD, AND THE WORLD IS AS IT WAS: a row that keeps its argument in that range need list no table ('laid = []'). (LAID: no walk: one application.) -/
theorem Tryz.strconv_Itoa_small (i : Nat) (hi : i < 100) (w : World) :
    Calls Tryz.prog 67 #[.int .i64 i] w fun e w' => e = .returned (.string ⟨(Lib.decDigits i).toArray⟩) ∧ w' = w := Any.strconv_Itoa_small Tryz.lays171 i hi w
def Tryz.lays264_ren : Go.Shelf.Ren := ⟨fun | 264 => 263 | n => n, fun | 53 => 148 | 46 => 164 | n => n, fun | n => n⟩
theorem Tryz.lays264 : Go.Proofs.Lays.n264 Tryz.prog Tryz.lays264_ren := {
  mixed := by kernel_rfl
  f264 := Tryz.func263.trans (congrArg some (by kernel_rfl))
  t46 := Tryz.underlying164
  a46 := Tryz.isAgg164
  z46 := Tryz.sizeOf164
  v46 := Tryz.zeroValue164
  t53 := Tryz.underlying148
  a53 := Tryz.isAgg148
  z53 := Tryz.sizeOf148
  v53 := Tryz.zeroValue148 }
open Go.RowKit Go.Lib in
theorem Tryz.bits_Mul64 (x y : Nat) (hx : x < 18446744073709551616) (hy : y < 18446744073709551616) (w : World) :
    Calls Tryz.prog 263 #[.int .u64 x, .int .u64 y] w fun e w' => e = .returned (.tuple #[.int .u64 ((x * y / 18446744073709551616 : Nat) : Int), .int .u64 ((x * y % 18446744073709551616 : Nat) : Int)]) ∧ w' = w := Any.bits_Mul64 Tryz.lays264 x y hx hy w
end Go.Proofs

/-
  The walks of (*strings.Builder).copyCheck and WriteByte, at a builder of the call's own (after the kit's Shelf/Strings/Builder1, turned to this dump: its laying does not fit this Go release).
-/
namespace Go.Proofs.YtlgghcffmnofdaaGreatDoor.Bu
open Go.RowKit

theorem sizeBuilder : (Tryz.prog.info? 211).map (·.size) = some 2 := by kernel_rfl
theorem infoByte : (Tryz.prog.info? 5).map (fun i => (i.zero, i.size, i.bytes)) = some (some (.int .u8 0), 1, 1) := by kernel_rfl

set_option maxHeartbeats 1000000 in
set_option maxRecDepth 100000 in
theorem copyCheck_used (b : Nat) (w : World) (h0 : w.cell? ⟨b, 0, none⟩ = some (.pointer (some ⟨b, 0, none⟩))) :
    Calls Tryz.prog 186 #[.pointer (some ⟨b, 0, none⟩)] w fun e w' => e = .returned (.tuple #[]) ∧ w' = w := by
  obtain ⟨j, hj, _⟩ := Option.map_eq_some_iff.1 sizeBuilder
  go_enter Tryz.func186, Tryz.ntmps186
  go_wp2
  rw [Lib.run_neq_ptr_same w _ Tryz.underlying209 hj]
  go_wp2
  go_end0
  exact ⟨rfl, rfl⟩

set_option maxHeartbeats 1000000 in
set_option maxRecDepth 100000 in
theorem copyCheck_fresh (b : Nat) (w : World) (h0 : w.cell? ⟨b, 0, none⟩ = some (.pointer none)) (hsh : w.shape? b = some (211, 2)) (hfz : w.frozen? ⟨b, 0, none⟩ = false) :
    Calls Tryz.prog 186 #[.pointer (some ⟨b, 0, none⟩)] w fun e w' => e = .returned (.tuple #[]) ∧ w' = w.setCell ⟨b, 0, none⟩ (.pointer (some ⟨b, 0, none⟩)) := by
  obtain ⟨j, hj, hjs⟩ := Option.map_eq_some_iff.1 sizeBuilder
  go_enter Tryz.func186, Tryz.ntmps186
  go_wp2
  rw [Lib.run_to_unsafe w ⟨b, 0, none⟩ Tryz.underlying209 Tryz.underlying317 hj (by rw [hjs]; decide) hsh (Nat.zero_lt_succ 1)]
  simp only [Result.andThen]
  rw [Oper.upon_value]
  go_wp2
  rw [run_callFunc_extern Tryz.func223 (by kernel_rfl) (by kernel_rfl) (by kernel_rfl) (e := Extern.AbiNoEscape.same) (by kernel_rfl)]
  rw [Lib.run_noEscape]
  simp only [Result.andThen]
  rw [Oper.upon_value]
  go_wp2
  rw [Lib.run_from_unsafe w ⟨b, 0, none⟩ Tryz.underlying317 Tryz.underlying209 hj hsh (by kernel_rfl)]
  simp only [Result.andThen]
  rw [Oper.upon_value]
  go_wp2
  go_end0
  exact ⟨rfl, rfl⟩

theorem copyCheck (B b : Nat) (bs : List Value) (w : World) (h : Lib.IsBuilder 211 5 B b bs w) :
    Calls Tryz.prog 186 #[.pointer (some ⟨b, 0, none⟩)] w fun e w' => e = .returned (.tuple #[]) ∧ (Lib.BuilderAt 211 5 B b (.pointer (some ⟨b, 0, none⟩)) bs w' ∧ Below B w w') := by
  rcases h with h | h
  · refine (copyCheck_fresh b w h.cell0 h.shape h.frozen0).mono ?_
    rintro e w' ⟨rfl, rfl⟩
    exact ⟨rfl, h.used _, (Below.refl B w).setCell (p := ⟨b, 0, none⟩) h.1 _⟩
  · refine (copyCheck_used b w h.cell0).mono ?_
    rintro e w' ⟨rfl, rfl⟩
    exact ⟨rfl, h, Below.refl B _⟩

set_option maxHeartbeats 2000000 in
set_option maxRecDepth 100000 in
theorem writeByte (B b : Nat) (bs : List Value) (c : Int) (w : World) (h : Lib.IsBuilder 211 5 B b bs w) (hlen : bs.length + 1 ≤ 140737488355328) (hBw : B ≤ w.heap.size) :
    Calls Tryz.prog 130 #[.pointer (some ⟨b, 0, none⟩), .int .u8 c] w fun e w' => e = .returned .nilIface ∧ (Lib.BuilderAt 211 5 B b (.pointer (some ⟨b, 0, none⟩)) (bs ++ [.int .u8 c]) w' ∧ Below B w w') := by
  obtain ⟨i0, hi, hz0, hz1, hz2⟩ := info_parts infoByte
  go_enter Tryz.func130, Tryz.ntmps130
  go_wp2_with (go_at_call 186; refine (copyCheck B b bs _ h).mono ?_)
  rintro e w1 ⟨rfl, h1, hb1⟩
  obtain ⟨hB, v, hbk, hown, hne⟩ := h1
  have c0 : w1.cell? ⟨b, 0, none⟩ = some (.pointer (some ⟨b, 0, none⟩)) := by rw [Lib.cell_of_heap hbk]; rfl
  have c1 : w1.cell? ⟨b, 1, none⟩ = some v := by rw [Lib.cell_of_heap hbk]; rfl
  go_wp2_with (at_builtin; refine wpList_append_own _ rfl _ _ 36 rfl B 5 i0 (.int .u8 0) 1 1 Tryz.underlying36 hi hz0 hz1 hz2 rfl (by decide) _ _ _ rfl (hown.alloc _) ⟨w1.heap.size, 0, none⟩ 1 1 [.int .u8 c] rfl rfl ?c1 ?c2 ?c3 ?c4 ?c5 ?_)
  case c1 =>
    intro j u hj
    match j, hj with
    | 0, hj => simp at hj; subst hj; simp [Addr.add]
  case c2 => intro u hu; simp at hu; subst hu; rfl
  case c3 => unfold maxLen; omega
  case c4 => omega
  case c5 => have := hb1.size; simp; omega
  intro v' w2 hown' hgrow _
  have hlt : b < w1.heap.size := by
    rcases Nat.lt_or_ge b w1.heap.size with h' | h'
    · exact h'
    · simp [Array.getElem?_eq_none h'] at hbk
  have hb2 : w2.heap[b]? = some (.cells #[.pointer (some ⟨b, 0, none⟩), v] 211 (0, 0)) := by
    rw [hgrow.block b (by simp; omega) (fun e => hne e.symm), Lib.alloc_old w1 _ b hlt]
    exact hbk
  have d0 : w2.cell? ⟨b, 0, none⟩ = some (.pointer (some ⟨b, 0, none⟩)) := by rw [Lib.cell_of_heap hb2]; rfl
  have d1 : w2.cell? ⟨b, 1, none⟩ = some v := by rw [Lib.cell_of_heap hb2]; rfl
  have f1 : w2.frozen? ⟨b, 1, none⟩ = false := Lib.frozen_of_heap hb2 1
  obtain ⟨g, cap, rfl⟩ : ∃ g cap, v' = .slice (some ⟨g, 0, none⟩) (bs.length + 1) cap := by
    rcases hown'.2 with ⟨_, h0⟩ | ⟨g, cap, cur, hv, _⟩
    · omega
    · exact ⟨g, cap, hv⟩
  go_wp2
  go_ret
  refine ⟨rfl, ?_, ?_⟩
  · exact Lib.BuilderAt.put (T := 211) (e := 5) hB hb2 (bs' := bs ++ [.int .u8 c]) (by simpa using hown') (by decide)
  · exact ((hb1.alloc (by have := hb1.size; omega) _).grown hgrow (by have := hb1.size; simp; omega) (fun k hk => (hown.lt k hk).1)).setCell (p := ⟨b, 1, none⟩) hB _
end Go.Proofs.YtlgghcffmnofdaaGreatDoor.Bu

/-
  The walk of (coin.code).text at an alphabet of 6 bits: bytes in its signs.
-/
namespace Go.Proofs.YtlgghcffmnofdaaGreatDoor.Cn
open Go.RowKit

set_option maxHeartbeats 1600000 in
set_option maxRecDepth 100000 in
theorem text6_any (sg : ByteArray) (l : List UInt8) (v : Value) (w : World) (hv : Bsl w v l) (hl : l.length ≤ 1000000) (hsg : sg.size = 2 ^ 6) :
    Calls Tryz.prog 87 #[.agg #[.string sg, .int .i64 6], v] w fun e w' => e = .returned (.string ⟨(enc sg.data.toList 6 (4 * l.length + 1) l 0 0 []).toArray⟩) ∧ Below w.heap.size w w' := by
  obtain ⟨ad, cap, rfl, _, hc⟩ := hv
  have HC := Lib.hid hc; clear hc
  go_enter Tryz.func87, Tryz.ntmps87
  go_wp2
  go_loopw [6, 7, 12] (fun h n i wr => ∃ (k held m f : Nat) (out : List UInt8), k ≤ l.length ∧ i = .int .i64 k ∧ h = .int .i64 held ∧ n = .int .i64 m ∧ wr.heap[w.heap.size]? = some (.cells #[.string sg, .int .i64 6] 160 (0, 0)) ∧
        Lib.IsBuilder 211 5 (w.heap.size + 1) (w.heap.size + 1) (cs out) wr ∧ Below w.heap.size w wr ∧ m < 6 ∧ m % 2 = 0 ∧ held < 2 ^ m ∧ out.length + 3 * (l.length - k) < 4000000 ∧ 12 * (l.length - k) + m < 4 * f ∧ Hid (enc sg.data.toList 6 f (l.drop k) held m out = enc sg.data.toList 6 (4 * l.length + 1) l 0 0 [])) (fun _ _ i _ => l.length - (intOf i).toNat)
  case atStart =>
    refine ⟨0, 0, 0, 4 * l.length + 1, [], Nat.zero_le _, rfl, rfl, rfl, heap_alloc2_old w _ _, ?_, ((Below.refl _ _).alloc (Nat.le_refl _) _).alloc (by simp) _, by decide, rfl, by decide, by simp; omega, by omega, by simp [Hid]⟩
    exact .inl ⟨Nat.le_refl _, _, heap_alloc2_new w _ _, World.ownsRow_nil _ _ _ _, by simp [Value.ownBlock]⟩
  case round =>
    obtain ⟨k, held, m, f, out, hk, rfl, rfl, rfl, hb0, hB, hbel, hm, hmg, hheld, hout, hf, HD⟩ := hrel
    by_cases hp : k < l.length
    · obtain ⟨bb, off, rfl, hcell0⟩ := HC.out k hp
      have hcell : wr.cell? ⟨bb, off + k, none⟩ = some (.int .u8 (l[k]'hp).toNat) := (hbel.cell (p := ⟨bb, off + k, none⟩) (World.block_lt_of_cell? w _ hcell0)).trans hcell0
      have hby : (l[k]'hp).toNat < 256 := (l[k]'hp).toNat_lt
      clear hcell0
      have hst : l.drop k = l[k] :: l.drop (k + 1) := List.drop_eq_getElem_cons hp
      obtain ⟨f, rfl⟩ : ∃ f', f = f' + 1 := ⟨f - 1, by omega⟩
      have HD' : enc sg.data.toList 6 f (l.drop (k + 1)) (held * 256 + (l[k]'hp).toNat) (m + 8) out = enc sg.data.toList 6 (4 * l.length + 1) l 0 0 [] := by
        have h9 := HD.out
        rw [hst] at h9
        exact (enc_byte (by omega)).symm.trans h9
      clear HD hst
      have hh : held < 64 := Nat.lt_of_lt_of_le hheld (Nat.pow_le_pow_right (by decide) (show m ≤ 6 by omega))
      obtain ⟨x, hx⟩ : ∃ x, x = held * 256 + (l[k]'hp).toNat := ⟨_, rfl⟩
      have hor : bits .or .i64 ((held : Int) * 256) ((l[k]'hp).toNat : Int) = (x : Int) := by
        have := Vo.or_i64 8 (held * 256) (l[k]'hp).toNat (by omega) (by omega) (by omega) (by omega)
        rw [hx]; simpa using this
      have hxm : x < 2 ^ (m + 8) := by
        have : 2 ^ (m + 8) = 2 ^ m * 256 := by rw [Nat.pow_add]
        rw [this]
        have : held * 256 + 256 ≤ 2 ^ m * 256 := by have := Nat.mul_le_mul_right 256 (show held + 1 ≤ 2 ^ m from hheld); omega
        omega
      rw [← hx] at HD'
      have HD := Lib.hid HD'; clear HD' hx hheld
      have HXM := Lib.hid hxm; clear hxm
      go_wp2_with fail
      clear hcell hor
      go_loopw [6, 7] (fun h n wr => ∃ (held m f : Nat) (out : List UInt8), h = .int .i64 held ∧ n = .int .i64 m ∧ wr.heap[w.heap.size]? = some (.cells #[.string sg, .int .i64 6] 160 (0, 0)) ∧
        Lib.IsBuilder 211 5 (w.heap.size + 1) (w.heap.size + 1) (cs out) wr ∧ Below w.heap.size w wr ∧ m < 14 ∧ m % 2 = 0 ∧ Hid (held < 2 ^ m) ∧ out.length + 3 * (l.length - (k + 1)) + m / 6 < 4000000 ∧ 12 * (l.length - (k + 1)) + m < 4 * f ∧ Hid (enc sg.data.toList 6 f (l.drop (k + 1)) held m out = enc sg.data.toList 6 (4 * l.length + 1) l 0 0 [])) (fun _ n _ => (intOf n).toNat)
      case atStart => exact ⟨x, m + 8, f, out, rfl, by go_num, hb0, hB, hbel, by omega, by omega, HXM, by omega, by omega, HD⟩
      case round =>
        clear hb0 hB hbel HD HXM hm hmg hout hf hh
        obtain ⟨held, m, f, out, rfl, rfl, hb0, hB, hbel, hm, hmg, HXM, hout, hf, HD⟩ := hrel
        have c1 : wr.cell? ⟨w.heap.size, 1, none⟩ = some (.int .i64 6) := by rw [Lib.cell_of_heap hb0]; rfl
        by_cases hge : 6 ≤ m
        · have c0 : wr.cell? ⟨w.heap.size, 0, none⟩ = some (.string sg) := by rw [Lib.cell_of_heap hb0]; rfl
          have hgeb : decide ((6 : Int) ≤ (m : Int)) = true := decide_eq_true (by omega)
          obtain ⟨f, rfl⟩ : ∃ f', f = f' + 1 := ⟨f - 1, by omega⟩
          have HD' := (enc_emit hge).symm.trans HD.out; clear HD
          have hms : m = 6 ∨ m = 8 ∨ m = 10 ∨ m = 12 := by omega
          rcases hms with rfl | rfl | rfl | rfl
          · have hx8 : held < 64 := HXM.out
            have hand : bits .and .i64 (held : Int) 0 = ((held % 1 : Nat) : Int) := by have := Vo.and_i64 0 (by decide) held (by omega); simpa using this
            have HF := Lib.hid HD'; clear HD'
            have hix := fun w => Vo.run_index_string Tryz.underlying9 sg .i64 ((held : Int)) (by omega) (by omega) w
            have ec : ((held : Int)).toNat = held / 1 := by omega
            rw [ec] at hix
            generalize hcc : (sg.data.toList.getD (held / 1) 0) = cc at hix
            have HCC := Lib.hid hcc; clear hcc ec
            go_wp2_with fail
            go_still_tail 6, (by kernel_rfl)
            change wpList _ _ _ _ _ wr.drew
            go_wp2_with fail
            refine (Bu.writeByte (w.heap.size + 1) (w.heap.size + 1) (cs out) _ wr.drew hB (by rw [cs_length]; omega) (by simp; have := hbel.size; have := Vo.heap_lt hb0; omega)).mono ?_
            rintro e w1 ⟨rfl, hB1, hbe⟩
            have d0 : w1.heap[w.heap.size]? = some (.cells #[.string sg, .int .i64 6] 160 (0, 0)) := (hbe.block w.heap.size (by omega)).trans hb0
            have bel1 : Below w.heap.size w w1 := (Below.drew hbel).trans (hbe.mono (by omega))
            clear hb0 hB hbel hbe c0 c1 hix
            go_wp2_with fail
            go_roundw
            case rel => exact ⟨held % 1, 0, f, out ++ [cc], by go_num, by go_num, d0, by rw [cs_append]; exact .inr hB1, bel1, by omega, by omega, (Nat.mod_lt _ (by decide) : held % 1 < 1), by simp; omega, by omega, by have h9 := HF.out; rw [HCC.out] at h9; exact h9⟩
            case measure => simp [intOf]
          · have hx8 : held < 256 := HXM.out
            have hand : bits .and .i64 (held : Int) 3 = ((held % 4 : Nat) : Int) := by have := Vo.and_i64 2 (by decide) held (by omega); simpa using this
            have HF := Lib.hid HD'; clear HD'
            have hix := fun w => Vo.run_index_string Tryz.underlying9 sg .i64 ((held : Int) / 4) (by omega) (by omega) w
            have ec : ((held : Int) / 4).toNat = held / 4 := by omega
            rw [ec] at hix
            generalize hcc : (sg.data.toList.getD (held / 4) 0) = cc at hix
            have HCC := Lib.hid hcc; clear hcc ec
            go_wp2_with fail
            go_still_tail 6, (by kernel_rfl)
            change wpList _ _ _ _ _ wr.drew
            go_wp2_with fail
            refine (Bu.writeByte (w.heap.size + 1) (w.heap.size + 1) (cs out) _ wr.drew hB (by rw [cs_length]; omega) (by simp; have := hbel.size; have := Vo.heap_lt hb0; omega)).mono ?_
            rintro e w1 ⟨rfl, hB1, hbe⟩
            have d0 : w1.heap[w.heap.size]? = some (.cells #[.string sg, .int .i64 6] 160 (0, 0)) := (hbe.block w.heap.size (by omega)).trans hb0
            have bel1 : Below w.heap.size w w1 := (Below.drew hbel).trans (hbe.mono (by omega))
            clear hb0 hB hbel hbe c0 c1 hix
            go_wp2_with fail
            go_roundw
            case rel => exact ⟨held % 4, 2, f, out ++ [cc], by go_num, by go_num, d0, by rw [cs_append]; exact .inr hB1, bel1, by omega, by omega, (Nat.mod_lt _ (by decide) : held % 4 < 4), by simp; omega, by omega, by have h9 := HF.out; rw [HCC.out] at h9; exact h9⟩
            case measure => simp [intOf]
          · have hx8 : held < 1024 := HXM.out
            have hand : bits .and .i64 (held : Int) 15 = ((held % 16 : Nat) : Int) := by have := Vo.and_i64 4 (by decide) held (by omega); simpa using this
            have HF := Lib.hid HD'; clear HD'
            have hix := fun w => Vo.run_index_string Tryz.underlying9 sg .i64 ((held : Int) / 16) (by omega) (by omega) w
            have ec : ((held : Int) / 16).toNat = held / 16 := by omega
            rw [ec] at hix
            generalize hcc : (sg.data.toList.getD (held / 16) 0) = cc at hix
            have HCC := Lib.hid hcc; clear hcc ec
            go_wp2_with fail
            go_still_tail 6, (by kernel_rfl)
            change wpList _ _ _ _ _ wr.drew
            go_wp2_with fail
            refine (Bu.writeByte (w.heap.size + 1) (w.heap.size + 1) (cs out) _ wr.drew hB (by rw [cs_length]; omega) (by simp; have := hbel.size; have := Vo.heap_lt hb0; omega)).mono ?_
            rintro e w1 ⟨rfl, hB1, hbe⟩
            have d0 : w1.heap[w.heap.size]? = some (.cells #[.string sg, .int .i64 6] 160 (0, 0)) := (hbe.block w.heap.size (by omega)).trans hb0
            have bel1 : Below w.heap.size w w1 := (Below.drew hbel).trans (hbe.mono (by omega))
            clear hb0 hB hbel hbe c0 c1 hix
            go_wp2_with fail
            go_roundw
            case rel => exact ⟨held % 16, 4, f, out ++ [cc], by go_num, by go_num, d0, by rw [cs_append]; exact .inr hB1, bel1, by omega, by omega, (Nat.mod_lt _ (by decide) : held % 16 < 16), by simp; omega, by omega, by have h9 := HF.out; rw [HCC.out] at h9; exact h9⟩
            case measure => simp [intOf]
          · have hx8 : held < 4096 := HXM.out
            have hand : bits .and .i64 (held : Int) 63 = ((held % 64 : Nat) : Int) := by have := Vo.and_i64 6 (by decide) held (by omega); simpa using this
            have HF := Lib.hid HD'; clear HD'
            have hix := fun w => Vo.run_index_string Tryz.underlying9 sg .i64 ((held : Int) / 64) (by omega) (by omega) w
            have ec : ((held : Int) / 64).toNat = held / 64 := by omega
            rw [ec] at hix
            generalize hcc : (sg.data.toList.getD (held / 64) 0) = cc at hix
            have HCC := Lib.hid hcc; clear hcc ec
            go_wp2_with fail
            go_still_tail 6, (by kernel_rfl)
            change wpList _ _ _ _ _ wr.drew
            go_wp2_with fail
            refine (Bu.writeByte (w.heap.size + 1) (w.heap.size + 1) (cs out) _ wr.drew hB (by rw [cs_length]; omega) (by simp; have := hbel.size; have := Vo.heap_lt hb0; omega)).mono ?_
            rintro e w1 ⟨rfl, hB1, hbe⟩
            have d0 : w1.heap[w.heap.size]? = some (.cells #[.string sg, .int .i64 6] 160 (0, 0)) := (hbe.block w.heap.size (by omega)).trans hb0
            have bel1 : Below w.heap.size w w1 := (Below.drew hbel).trans (hbe.mono (by omega))
            clear hb0 hB hbel hbe c0 c1 hix
            go_wp2_with fail
            go_roundw
            case rel => exact ⟨held % 64, 6, f, out ++ [cc], by go_num, by go_num, d0, by rw [cs_append]; exact .inr hB1, bel1, by omega, by omega, (Nat.mod_lt _ (by decide) : held % 64 < 64), by simp; omega, by omega, by have h9 := HF.out; rw [HCC.out] at h9; exact h9⟩
            case measure => simp [intOf]
        · have hgeb : decide ((6 : Int) ≤ (m : Int)) = false := decide_eq_false (by omega)
          go_wp2_with fail
          go_roundw
          case rel => exact ⟨k + 1, held, m, f, out, by omega, by go_num, rfl, rfl, hb0, hB, hbel, by omega, hmg, HXM.out, by omega, by omega, HD⟩
          case measure => simp [intOf]; omega
    · obtain ⟨f, rfl⟩ : ∃ f', f = f' + 1 := ⟨f - 1, by omega⟩
      have hd : l.drop k = [] := List.drop_eq_nil_of_le (by omega)
      have HD' := HD.out; clear HD
      rw [hd, enc_nil (by omega)] at HD'
      by_cases hm0 : 0 < m
      · have hm0b : decide (0 < (m : Int)) = true := decide_eq_true (by omega)
        have c1 : wr.cell? ⟨w.heap.size, 1, none⟩ = some (.int .i64 6) := by rw [Lib.cell_of_heap hb0]; rfl
        have c0 : wr.cell? ⟨w.heap.size, 0, none⟩ = some (.string sg) := by rw [Lib.cell_of_heap hb0]; rfl
        rw [if_pos hm0] at HD'
        have hms : m = 2 ∨ m = 4 := by omega
        rcases hms with rfl | rfl
        · have hx8 : held < 4 := hheld
          have HF := Lib.hid HD'; clear HD' hd hheld
          have hix := fun w => Vo.run_index_string Tryz.underlying9 sg .i64 ((held : Int) * 16) (by omega) (by omega) w
          have ec : ((held : Int) * 16).toNat = held * 16 := by omega
          rw [ec] at hix
          generalize hcc : (sg.data.toList.getD (held * 16) 0) = cc at hix
          have HCC := Lib.hid hcc; clear hcc ec
          go_wp2_with fail
          have hw1 : IntKind.i64.wrap 4 = 4 := Vo.i64_wraps _ (by decide) (by decide)
          have hw2 : IntKind.i64.wrap ((held : Int) * 16) = (held : Int) * 16 := Vo.i64_wraps _ (by omega) (by omega)
          go_still_tail 9, (by kernel_rfl)
          clear hw1 hw2
          change wpList _ _ _ _ _ wr.drew
          go_wp2_with fail
          refine (Bu.writeByte (w.heap.size + 1) (w.heap.size + 1) (cs out) _ wr.drew hB (by rw [cs_length]; omega) (by simp; have := hbel.size; have := Vo.heap_lt hb0; omega)).mono ?_
          rintro e w1 ⟨rfl, hB1, hbe⟩
          have d0 : w1.heap[w.heap.size]? = some (.cells #[.string sg, .int .i64 6] 160 (0, 0)) := (hbe.block w.heap.size (by omega)).trans hb0
          have bel1 : Below w.heap.size w w1 := (Below.drew hbel).trans (hbe.mono (by omega))
          go_wp2_with fail
          refine (Tryz.Builder_String_any (w.heap.size + 1) (w.heap.size + 1) (out ++ [cc]) _ (by rw [show Lib.byteCells (out ++ [cc]) = cs (out ++ [cc]) from rfl, cs_append]; exact .inr hB1) (by have := bel1.size; have := Vo.heap_lt d0; omega)).mono ?_
          rintro e w2 ⟨rfl, hbe2⟩
          go_wp2_with fail
          go_ret
          exact ⟨by have h9 := HF.out; rw [HCC.out] at h9; rw [← h9]; rfl, bel1.trans (hbe2.mono (by omega))⟩
        · have hx8 : held < 16 := hheld
          have HF := Lib.hid HD'; clear HD' hd hheld
          have hix := fun w => Vo.run_index_string Tryz.underlying9 sg .i64 ((held : Int) * 4) (by omega) (by omega) w
          have ec : ((held : Int) * 4).toNat = held * 4 := by omega
          rw [ec] at hix
          generalize hcc : (sg.data.toList.getD (held * 4) 0) = cc at hix
          have HCC := Lib.hid hcc; clear hcc ec
          go_wp2_with fail
          have hw1 : IntKind.i64.wrap 2 = 2 := Vo.i64_wraps _ (by decide) (by decide)
          have hw2 : IntKind.i64.wrap ((held : Int) * 4) = (held : Int) * 4 := Vo.i64_wraps _ (by omega) (by omega)
          go_still_tail 9, (by kernel_rfl)
          clear hw1 hw2
          change wpList _ _ _ _ _ wr.drew
          go_wp2_with fail
          refine (Bu.writeByte (w.heap.size + 1) (w.heap.size + 1) (cs out) _ wr.drew hB (by rw [cs_length]; omega) (by simp; have := hbel.size; have := Vo.heap_lt hb0; omega)).mono ?_
          rintro e w1 ⟨rfl, hB1, hbe⟩
          have d0 : w1.heap[w.heap.size]? = some (.cells #[.string sg, .int .i64 6] 160 (0, 0)) := (hbe.block w.heap.size (by omega)).trans hb0
          have bel1 : Below w.heap.size w w1 := (Below.drew hbel).trans (hbe.mono (by omega))
          go_wp2_with fail
          refine (Tryz.Builder_String_any (w.heap.size + 1) (w.heap.size + 1) (out ++ [cc]) _ (by rw [show Lib.byteCells (out ++ [cc]) = cs (out ++ [cc]) from rfl, cs_append]; exact .inr hB1) (by have := bel1.size; have := Vo.heap_lt d0; omega)).mono ?_
          rintro e w2 ⟨rfl, hbe2⟩
          go_wp2_with fail
          go_ret
          exact ⟨by have h9 := HF.out; rw [HCC.out] at h9; rw [← h9]; rfl, bel1.trans (hbe2.mono (by omega))⟩
      · obtain rfl : m = 0 := by omega
        rw [if_neg (by decide)] at HD'
        have HF := Lib.hid HD'; clear HD' hd hheld
        go_wp2_with fail
        refine (Tryz.Builder_String_any (w.heap.size + 1) (w.heap.size + 1) out _ hB (by have := hbel.size; have := Vo.heap_lt hb0; omega)).mono ?_
        rintro e w1 ⟨rfl, hbe⟩
        go_wp2_with fail
        go_ret
        exact ⟨by rw [← HF.out]; rfl, hbel.trans (hbe.mono (by omega))⟩
end Go.Proofs.YtlgghcffmnofdaaGreatDoor.Cn

/-
  The walks of coin.Text, Hex, Bytes, Unhex, and (coin.code).read.
-/
namespace Go.Proofs.YtlgghcffmnofdaaGreatDoor.Cn
open Go.RowKit

def sg64 : ByteArray := ⟨#[65, 66, 67, 68, 69, 70, 71, 72, 73, 74, 75, 76, 77, 78, 79, 80, 81, 82, 83, 84, 85, 86, 87, 88, 89, 90, 97, 98, 99, 100, 101, 102, 103, 104, 105, 106, 107, 108, 109, 110, 111, 112, 113, 114, 115, 116, 117, 118, 119, 120, 121, 122, 48, 49, 50, 51, 52, 53, 54, 55, 56, 57, 45, 95]⟩
def sg16 : ByteArray := ⟨#[48, 49, 50, 51, 52, 53, 54, 55, 56, 57, 97, 98, 99, 100, 101, 102]⟩
theorem sg64_size : sg64.size = 2 ^ 6 := by decide +kernel
theorem sg16_size : sg16.size = 2 ^ 4 := by decide +kernel
theorem sg64_ascii : ∀ c ∈ sg64.data.toList, c.toNat < 128 := by decide +kernel
theorem sg16_ascii : ∀ c ∈ sg16.data.toList, c.toNat < 128 := by decide +kernel

/-- The alphabets lie in their variables. -/
def Base (w : World) : Prop := w.cell? ⟨1, 0, none⟩ = some (.string sg64) ∧ w.cell? ⟨1, 1, none⟩ = some (.int .i64 6)

theorem cell_below {w w' : World} {a : Addr} {v : Value} (h : w.cell? a = some v) (hb : Below w.heap.size w w') : w'.cell? a = some v :=
  (hb.cell (p := a) (World.block_lt_of_cell? w a h)).trans h
theorem Base.below {w w' : World} (h : Base w) (hb : Below w.heap.size w w') : Base w' := ⟨cell_below h.1 hb, cell_below h.2 hb⟩
theorem Bsl.below {w w' : World} {v : Value} {l : List UInt8} (h : Bsl w v l) (hb : Below w.heap.size w w') : Bsl w' v l := by
  obtain ⟨a, cap, rfl, hle, hc⟩ := h
  refine ⟨a, cap, rfl, hle, fun j hj => ?_⟩
  obtain ⟨b, off, rfl, h1⟩ := hc j hj
  exact ⟨b, off, rfl, cell_below h1 hb⟩
theorem Bsl.nil (w : World) : Bsl w (.slice none 0 0) [] := ⟨none, 0, rfl, Nat.le_refl _, fun j h => absurd h (Nat.not_lt_zero j)⟩
theorem Bsl.owns {w : World} {base : Nat} {v : Value} {l : List UInt8} (h : w.ownsRow base 5 1 v l.length (cs l)) : Bsl w v l := by
  rcases h.2 with ⟨rfl, h0⟩ | ⟨g, cap, cur, rfl, _, hg, hle, _, _, ht⟩
  · refine ⟨none, 0, by rw [h0], by omega, fun j hj => by omega⟩
  · refine ⟨_, _, rfl, hle, fun j hj => ⟨g, 0, rfl, ?_⟩⟩
    rw [cell_of_row w g (0 + j) cur 5 (0, 0) hg, Nat.zero_add]
    have h1 : (cur.toList.take (l.length * 1))[j]? = some (.int .u8 (l[j]'hj).toNat) := by
      rw [ht]; simp [cs, hj]
    rw [List.getElem?_take, if_pos (by omega)] at h1
    simpa using h1

/-- Bytes in an alphabet's signs. -/
def txt (sg : ByteArray) (b : Nat) (l : List UInt8) : List UInt8 := enc sg.data.toList b (4 * l.length + 1) l 0 0 []
/-- What a text in an alphabet's signs is read as: bytes and an error's number. -/
def rdOf (b : Nat) : Option (List UInt8 × Nat × Nat) → List UInt8 × Nat
  | none => ([], 2)
  | some (o, h, m) => if b ≤ m then ([], 3) else if h ≠ 0 then ([], 4) else (o, 0)
def rdv (sg : ByteArray) (b : Nat) (s : ByteArray) : List UInt8 × Nat := rdOf b (dec sg.data.toList b s.data.toList [] 0 0)

set_option maxHeartbeats 800000 in
set_option maxRecDepth 100000 in
theorem text_any (l : List UInt8) (v : Value) (w : World) (hg : Base w) (hv : Bsl w v l) (hl : l.length ≤ 1000000) :
    Calls Tryz.prog 47 #[v] w fun e w' => e = .returned (.string ⟨(txt sg64 6 l).toArray⟩) ∧ Below w.heap.size w w' := by
  obtain ⟨g0, g1⟩ := hg
  have HT := Lib.hid (text6_any sg64 l v w hv hl sg64_size)
  clear hv
  go_enter Tryz.func47, Tryz.ntmps47
  go_wp2_with fail
  refine HT.out.mono ?_
  rintro e w1 ⟨rfl, hb⟩
  go_wp2_with fail
  go_ret
  exact ⟨rfl, hb⟩

theorem rdOf_def (b : Nat) (R : Option (List UInt8 × Nat × Nat)) : rdOf b R = match R with | none => ([], 2) | some (o, h, m) => if b ≤ m then ([], 3) else if h ≠ 0 then ([], 4) else (o, 0) := by
  cases R <;> rfl

def ReadPost (r : List UInt8 × Nat) (w : World) (e : Ending) (w' : World) : Prop :=
  ∃ v, e = .returned (.tuple #[v, .int .i64 r.2]) ∧ Bsl w' v r.1 ∧ Below w.heap.size w w'

set_option maxHeartbeats 800000 in
set_option maxRecDepth 100000 in
theorem read6_any (sg s : ByteArray) (w : World) (ha : ∀ c ∈ sg.data.toList, c.toNat < 128) (hs : s.size ≤ 1000000) (hsg : sg.size ≤ 2 ^ 6) :
    Calls Tryz.prog 115 #[.agg #[.string sg, .int .i64 6], .string s, .int .i64 6] w (ReadPost (rdv sg 6 s) w) := by
  have HT := Lib.hid (fun w => bytes6_any sg s w ha hs hsg)
  have hr : rdv sg 6 s = rdOf 6 (dec sg.data.toList 6 s.data.toList [] 0 0) := rfl
  rw [hr]; clear hr
  generalize dec sg.data.toList 6 s.data.toList [] 0 0 = R at HT
  go_enter Tryz.func115, Tryz.ntmps115
  go_wp2_with fail
  refine (HT.out _).mono ?_
  rintro e w1 ⟨hb, hm⟩
  have bel : Below w.heap.size w w1 := ((Below.refl _ _).alloc (Nat.le_refl _) _).trans (hb.mono (by simp))
  clear hb
  rcases R with _ | ⟨o, h, m⟩
  · obtain rfl := hm
    go_wp2_with fail
    refine bodyPost_ret (v := .tuple #[.slice none 0 0, .int .i64 2]) (by simp [results, Tryz.results115, go_sem]) rfl ?_
    exact ⟨_, rfl, Bsl.nil _, bel⟩
  · obtain ⟨v, rfl, hown⟩ := hm
    by_cases h1 : 6 ≤ m
    · have h1b : decide ((6 : Int) ≤ (m : Int)) = true := decide_eq_true (by omega)
      have hr : rdOf 6 (some (o, h, m)) = ([], 3) := by simp only [rdOf, if_pos h1]
      have HR := Lib.hid hr; clear hr
      go_wp2_with fail
      refine bodyPost_ret (v := .tuple #[.slice none 0 0, .int .i64 3]) (by simp [results, Tryz.results115, go_sem]) rfl ?_
      exact ⟨_, by rw [HR.out]; rfl, by rw [HR.out]; exact Bsl.nil _, bel⟩
    · have h1b : decide ((6 : Int) ≤ (m : Int)) = false := decide_eq_false (by omega)
      by_cases h2 : h ≠ 0
      · have h2b : ((h : Int) != 0) = true := by simp; omega
        have hr : rdOf 6 (some (o, h, m)) = ([], 4) := by simp only [rdOf, if_neg h1, if_pos h2]
        have HR := Lib.hid hr; clear hr
        go_wp2_with fail
        refine bodyPost_ret (v := .tuple #[.slice none 0 0, .int .i64 4]) (by simp [results, Tryz.results115, go_sem]) rfl ?_
        exact ⟨_, by rw [HR.out]; rfl, by rw [HR.out]; exact Bsl.nil _, bel⟩
      · have h2b : ((h : Int) != 0) = false := by simp; omega
        have hr : rdOf 6 (some (o, h, m)) = (o, 0) := by simp only [rdOf, if_neg h1, if_neg h2]
        have HR := Lib.hid hr; clear hr
        go_wp2_with fail
        refine bodyPost_ret (v := .tuple #[v, .int .i64 0]) (by simp [results, Tryz.results115, go_sem]) rfl ?_
        exact ⟨_, by rw [HR.out]; rfl, by rw [HR.out]; exact Bsl.owns hown, bel⟩

set_option maxHeartbeats 800000 in
set_option maxRecDepth 100000 in
theorem bytes_any (s : ByteArray) (w : World) (hg : Base w) (hs : s.size ≤ 1000000) :
    Calls Tryz.prog 66 #[.string s] w (ReadPost (rdv sg64 6 s) w) := by
  obtain ⟨g0, g1⟩ := hg
  have HT := Lib.hid (read6_any sg64 s w sg64_ascii hs (Nat.le_of_eq sg64_size))
  go_enter Tryz.func66, Tryz.ntmps66
  go_wp2_with fail
  refine HT.out.mono ?_
  rintro e w1 ⟨v, rfl, hv, hb⟩
  go_wp2_with fail
  go_ret2
  exact ⟨_, rfl, hv, hb⟩






end Go.Proofs.YtlgghcffmnofdaaGreatDoor.Cn

/-
  Plain laws of the two alphabets: what is read has just that text; what is written is read as it was.
-/
namespace Go.Proofs.YtlgghcffmnofdaaGreatDoor.Cn

/-- An alphabet: b bits, 2^b signs, each at its place. -/
structure Alpha (sg : ByteArray) (b : Nat) : Prop where
  bits : b = 6 ∨ b = 4
  size : sg.data.toList.length = 2 ^ b
  place : ∀ d, d < 2 ^ b → at_ sg.data.toList ((sg.data.toList.getD d 0).toNat : Int) 0 = (d : Int)

theorem alpha64 : Alpha sg64 6 where
  bits := .inl rfl
  size := by decide +kernel
  place := by
    have h : ∀ d : Fin 64, at_ sg64.data.toList ((sg64.data.toList.getD d.val 0).toNat : Int) 0 = (d.val : Int) := by decide +kernel
    intro d hd
    exact h ⟨d, hd⟩
theorem alpha16 : Alpha sg16 4 where
  bits := .inr rfl
  size := by decide +kernel
  place := by
    have h : ∀ d : Fin 16, at_ sg16.data.toList ((sg16.data.toList.getD d.val 0).toNat : Int) 0 = (d.val : Int) := by decide +kernel
    intro d hd
    exact h ⟨d, hd⟩

variable {sg : ByteArray} {b : Nat}

/-- What a text of bytes is. -/
theorem txt_spec (A : Alpha sg b) (l : List UInt8) : ∃ ds z, txt sg b l = ds.map (sg.data.toList.getD · 0) ∧ (∀ d ∈ ds, d < 2 ^ b) ∧ z < b ∧ val (2 ^ b) ds = val 256 (by_ l) * 2 ^ z ∧ b * ds.length = 8 * l.length + z := by
  have h := enc_inv sg.data.toList b (by rcases A.bits with rfl | rfl <;> decide) (4 * l.length + 1) l 0 0 [] [] (by decide) (by omega) (by simp) (by simp [val]) (by simp)
  simpa [txt] using h

theorem txt_len (A : Alpha sg b) (l : List UInt8) : (txt sg b l).length ≤ 2 * l.length + 2 := by
  obtain ⟨ds, z, t1, t2, t3, t4, t5⟩ := txt_spec A l
  rw [t1, List.length_map]
  rcases A.bits with rfl | rfl <;> omega

/-- What bytes a text is read as. -/
theorem dec_spec (A : Alpha sg b) (s : List UInt8) :
    (dec sg.data.toList b s [] 0 0 = none ∧ ∃ c ∈ s, at_ sg.data.toList c.toNat 0 < 0) ∨
    ∃ o h m, dec sg.data.toList b s [] 0 0 = some (o, h, m) ∧ m < 8 ∧ h < 2 ^ m ∧ (∀ c ∈ s, 0 ≤ at_ sg.data.toList c.toNat 0) ∧ val (2 ^ b) (s.map (dg sg.data.toList)) = val 256 (by_ o) * 2 ^ m + h ∧ b * s.length = 8 * o.length + m := by
  have h := dec_inv sg.data.toList b (by rcases A.bits with rfl | rfl <;> decide) (Nat.le_of_eq A.size) s [] 0 0 (by decide) (by decide)
  rcases h with h | ⟨o, h, m, h1, h2, h3, h4, h5⟩
  · exact .inl h
  · have h6 := h5 [] (by simp [val, by_]) (by simp)
    exact .inr ⟨o, h, m, h1, h2, h3, h4, by simpa using h6⟩

theorem mul_gap (hb : b = 6 ∨ b = 4) {x y n z w : Nat} (h1 : b * x = n + z) (h2 : b * y = n + w) (hz : z < b) (hw : w < b) : x = y ∧ z = w := by
  rcases hb with rfl | rfl <;> omega

/-- What is read of a text that is right has just that text. -/
theorem read_text (A : Alpha sg b) (s : ByteArray) (h : (rdv sg b s).2 = 0) : txt sg b (rdv sg b s).1 = s.data.toList := by
  rcases dec_spec A s.data.toList with ⟨h1, _⟩ | ⟨o, hh, m, h1, h2, h3, h4, h5, h6⟩
  · simp [rdv, h1, rdOf] at h
  · simp only [rdv, h1, rdOf] at h ⊢
    by_cases hm : b ≤ m
    · simp [if_pos hm] at h
    · simp only [if_neg hm] at h ⊢
      by_cases h0 : hh ≠ 0
      · simp [if_pos h0] at h
      · simp only [if_neg h0]
        have h0' : hh = 0 := by omega
        subst h0'
        obtain ⟨ds, z, t1, t2, t3, t4, t5⟩ := txt_spec A o
        obtain ⟨hl, rfl⟩ := mul_gap A.bits t5 h6 t3 (by omega)
        have he : ds = s.data.toList.map (dg sg.data.toList) := val_inj (2 ^ b) _ _ (by simpa using hl) t2 (by
          intro d hd
          obtain ⟨c, hc, rfl⟩ := List.mem_map.1 hd
          rw [← A.size]
          exact dg_lt _ _ (h4 c hc)) (by rw [t4, h5]; rfl)
        rw [t1, he, List.map_map]
        conv => rhs; rw [← List.map_id s.data.toList]
        exact List.map_congr_left (fun c hc => dg_sign _ _ (h4 c hc))

/-- What is read is no longer than its text. -/
theorem rdv_len (A : Alpha sg b) (s : ByteArray) : (rdv sg b s).1.length ≤ s.size := by
  rcases dec_spec A s.data.toList with ⟨h1, _⟩ | ⟨o, hh, m, h1, h2, h3, h4, h5, h6⟩
  · simp [rdv, h1, rdOf]
  · have hb := A.bits
    have hsz : s.data.toList.length = s.size := by simp
    rw [hsz] at h6
    simp only [rdv, h1, rdOf]
    split
    · simp
    · split
      · simp
      · rcases hb with rfl | rfl <;> simp only <;> omega

/-- What is written is read as it was. -/
theorem text_read (A : Alpha sg b) (l : List UInt8) : rdv sg b ⟨(txt sg b l).toArray⟩ = (l, 0) := by
  obtain ⟨ds, z, t1, t2, t3, t4, t5⟩ := txt_spec A l
  have hpl : ∀ d ∈ ds, at_ sg.data.toList ((sg.data.toList.getD d 0).toNat : Int) 0 = (d : Int) := fun d hd => A.place d (t2 d hd)
  have hdg : (ds.map (sg.data.toList.getD · 0)).map (dg sg.data.toList) = ds := by
    rw [List.map_map]
    conv => rhs; rw [← List.map_id ds]
    refine List.map_congr_left (fun d hd => ?_)
    simp only [Function.comp, dg, hpl d hd, id]
    rfl
  simp only [rdv]
  rw [t1]
  rcases dec_spec A (ds.map (sg.data.toList.getD · 0)) with ⟨_, c, hc, h2⟩ | ⟨o, hh, m, h1, h2, h3, h4, h5, h6⟩
  · obtain ⟨d, hd, rfl⟩ := List.mem_map.1 hc
    rw [hpl d hd] at h2
    omega
  · rw [hdg, t4] at h5
    rw [List.length_map] at h6
    have hb := A.bits
    have hmz : o.length = l.length ∧ m = z := by rcases hb with rfl | rfl <;> omega
    obtain ⟨hol, rfl⟩ := hmz
    have hpos : 0 < 2 ^ m := Nat.two_pow_pos _
    have e1 : val 256 (by_ l) = val 256 (by_ o) := by
      have := congrArg (· / 2 ^ m) h5
      simp only [Nat.mul_div_cancel _ hpos] at this
      rw [this, Nat.add_comm, Nat.add_mul_div_right _ _ hpos, Nat.div_eq_of_lt h3, Nat.zero_add]
    have e2 : hh = 0 := by rw [e1] at h5; omega
    have e3 : o = l := by_inj (val_inj 256 _ _ (by simp [by_length, hol]) (by_lt _) (by_lt _) e1.symm)
    rw [h1, e2, e3]
    simp only [rdOf]
    rw [if_neg (by omega), if_neg (by simp)]
end Go.Proofs.YtlgghcffmnofdaaGreatDoor.Cn

/-
  Slices of bytes as texts; the law's fixed fact.
-/
namespace Go.Proofs.YtlgghcffmnofdaaGreatDoor.Cn
open Go.RowKit

theorem strOf (l : List UInt8) : strOfNums (l.map fun c => (c.toNat : Int)) = ⟨l.toArray⟩ := by
  unfold strOfNums
  congr 1
  rw [List.map_map]
  congr 1
  conv => rhs; rw [← List.map_id l]
  refine List.map_congr_left (fun c _ => ?_)
  simp

/-- string(b). -/
theorem conv_bsl {w : World} {v : Value} {l : List UInt8} (h : Bsl w v l) : (convert 36 9 v).run Tryz.prog w = .ok (.string ⟨l.toArray⟩) w := by
  obtain ⟨a, cap, rfl, _, hc⟩ := h
  rcases a with _ | ad
  · have hl : l = [] := by
      rcases l with _ | ⟨c, t⟩
      · rfl
      · obtain ⟨_, _, h1, _⟩ := hc 0 (by simp)
        cases h1
    subst hl
    exact run_convert_bytes_nil w 36 5 Tryz.underlying36 Tryz.underlying5 _ _ 9 Tryz.underlying9
  · rw [run_convert_bytes_string w 36 9 5 _ l.length cap Tryz.underlying36 Tryz.underlying5 Tryz.underlying9]
    have hl : (loadCells ad l.length).run Tryz.prog w = .ok ((l.map fun c => (c.toNat : Int)).map (Value.int .u8)).toArray w := by
      have := run_loadCells_list (P := Tryz.prog) w ad ((l.map fun c => (c.toNat : Int)).map (Value.int .u8)) (fun j v hj => by
        have hjl : j < l.length := by
          rcases Nat.lt_or_ge j l.length with h | h
          · exact h
          · simp [List.getElem?_eq_none h] at hj
        obtain ⟨b, off, h1, h2⟩ := hc j hjl
        obtain rfl := Option.some.inj h1
        have hplain : (⟨b, off, none⟩ : Addr).add j = ⟨b, off + j, none⟩ := by unfold Addr.add; split <;> simp_all
        rw [hplain, h2]
        simpa [List.getElem?_eq_getElem hjl] using hj)
      simpa using this
    rw [run_bytesToString w _ l.length cap _ hl, foldl_push_bytes]
    have := strOf l
    unfold strOfNums at this
    rw [show ByteArray.empty.data = #[] from rfl, Array.empty_append]
    exact congrArg (fun s => Result.ok (Value.string s) w) this

theorem bsl_build (w : World) (l : List UInt8) : Bsl (w.alloc (.cells (cs l).toArray 5)) (.slice (some ⟨w.heap.size, 0, none⟩) l.length l.length) l := by
  refine ⟨_, _, rfl, Nat.le_refl _, fun j hj => ⟨w.heap.size, 0, rfl, ?_⟩⟩
  rw [cell_of_row _ w.heap.size (0 + j) (cs l).toArray 5 (0, 0) (heap_alloc_new w _), Nat.zero_add]
  simp [cs, hj]

end Go.Proofs.YtlgghcffmnofdaaGreatDoor.Cn

/-
  An argument of type []byte: what its cells hold.
-/
namespace Go.Proofs.YtlgghcffmnofdaaGreatDoor.Cn
open Go.ChangeShapes Go.WideShapes Go.ChangeAt Go.RowKit Go.ChangeMaps

theorem cellsByte : Tryz.prog.cellsOf 5 = 1 := by kernel_rfl

theorem add_plain (b off j : Nat) : (⟨b, off, none⟩ : Addr).add j = ⟨b, off + j, none⟩ := by unfold Addr.add; split <;> simp_all

theorem spot_none {w : World} {a : Addr} {v : Value} (h : w.cell? a = some v) : a.spot = none := by
  unfold World.cell? at h
  split at h
  · split at h
    · cases h
    · rename_i h1
      cases hs : a.spot with
      | none => rfl
      | some x => simp [hs] at h1
  · cases h

set_option maxRecDepth 100000 in
theorem arg_bsl {H : Type} {enc : TypeId × Value → H} {W : World} {r : Reach} {base : Nat} {v : Value} {d : DataW H} {ps : List MemPlace} {sp : Nat → Bool} {held : Bool}
    (hv : Value.okWide Tryz.prog W r base 36 v) (h : DataW.Trod enc Tryz.prog W 0 sp held 36 v d ps) : ∃ l, Bsl W v l ∧ l.length ≤ maxLen := by
  obtain ⟨a0, len, cap, rfl⟩ := okWide_slice Tryz.underlying36 hv
  obtain ⟨fuel, hf⟩ := h
  rcases open_ints Tryz.underlying36 Tryz.underlying5 cellsByte hf with ⟨hcs, hx⟩ | ⟨a, len', cap', zs, hcs, _, hl, hm, hz, hx, hcell, hwz⟩
  · simp only [Value.cells, List.cons.injEq, and_true] at hcs
    rw [hcs]
    exact ⟨[], Bsl.nil W, by simp⟩
  · simp only [Value.cells, List.cons.injEq, and_true] at hcs
    injection hcs with h1 h2 h3
    subst h1 h2 h3
    have hzl : len ≤ zs.length := by rw [hz]; split <;> omega
    have hlen : ((zs.take len).map fun n => UInt8.ofNat n.toNat).length = len := by simp; omega
    refine ⟨(zs.take len).map fun n => UInt8.ofNat n.toNat, ⟨some a, cap, by rw [hlen], by omega, fun j hj => ?_⟩, by rw [hlen]; omega⟩
    rw [hlen] at hj
    have hc := hcell j (by omega)
    have hw := hwz zs[j] (List.getElem_mem _)
    have hrange : 0 ≤ zs[j] ∧ zs[j] < 256 := by
      simp [Lit.wf, IntKind.min, IntKind.max, IntKind.signed, IntKind.bits] at hw
      omega
    have hs := spot_none (hcell 0 (by omega))
    rw [show a.add 0 = a from rfl] at hs
    obtain ⟨b, off, spot⟩ := a
    simp only at hs
    subst hs
    refine ⟨b, off, rfl, ?_⟩
    rw [← add_plain, hc]
    have e1 : zs.getD j 0 = zs[j] := by simp [show j < zs.length by omega]
    rw [e1, List.getElem_map, List.getElem_take]
    congr 2
    rw [UInt8.toNat_ofNat']
    omega
end Go.Proofs.YtlgghcffmnofdaaGreatDoor.Cn

/-
  The walk of coin.Same.
-/
namespace Go.Proofs.YtlgghcffmnofdaaGreatDoor.Cn
open Go Go.RowKit
set_option maxRecDepth 100000

theorem xor_u8 (a b : Nat) (ha : a < 256) (hb : b < 256) : bits .xor .u8 (a : Int) (b : Int) = ((a ^^^ b : Nat) : Int) := by
  have hx : a ^^^ b < 2 ^ 8 := Nat.xor_lt_two_pow (by omega) (by omega)
  have h1 : (BitVec.ofInt 8 (a : Int)).toNat = a := by
    rw [BitVec.ofInt_natCast, BitVec.toNat_ofNat]; exact Nat.mod_eq_of_lt (by omega)
  have h2 : (BitVec.ofInt 8 (b : Int)).toNat = b := by
    rw [BitVec.ofInt_natCast, BitVec.toNat_ofNat]; exact Nat.mod_eq_of_lt (by omega)
  show IntKind.u8.wrap ((BitVec.ofInt 8 (a : Int) ^^^ BitVec.ofInt 8 (b : Int)).toNat : Int) = _
  rw [BitVec.toNat_xor, h1, h2, IntKind.wrap_u8]
  omega
theorem or_u8 (a b : Nat) (ha : a < 256) (hb : b < 256) : bits .or .u8 (a : Int) (b : Int) = ((a ||| b : Nat) : Int) :=
  (bits_nat .u8 8 (by decide) wraps_u8 a b (by omega) (by omega)).2
theorem or_zero {a b : Nat} : a ||| b = 0 ↔ a = 0 ∧ b = 0 := by
  constructor
  · intro h
    have h1 := Nat.left_le_or (n := a) (m := b)
    have h2 := Nat.right_le_or (n := a) (m := b)
    omega
  · rintro ⟨rfl, rfl⟩; rfl
theorem xor_zero {a b : Nat} : a ^^^ b = 0 ↔ a = b := by
  constructor
  · intro h
    have h1 : (a ^^^ b) ^^^ b = 0 ^^^ b := by rw [h]
    rw [Nat.xor_assoc, Nat.xor_self, Nat.xor_zero, Nat.zero_xor] at h1
    exact h1
  · rintro rfl; exact Nat.xor_self a

set_option maxHeartbeats 4000000 in
theorem same_any (a b : List UInt8) (va vb : Value) (w : World) (ha : Bsl w va a) (hb : Bsl w vb b) (hl : a.length < 1000000000) :
    Calls Tryz.prog 44 #[va, vb] w fun e w' => e = .returned (.bool (decide (a = b))) ∧ Below w.heap.size w w' := by
  obtain ⟨aa, ca, rfl, hca, hac⟩ := ha
  obtain ⟨ab, cb, rfl, hcb, hbc⟩ := hb
  have HL := Lib.hid hl
  have HAC := Lib.hid hac
  have HBC := Lib.hid hbc
  clear hl hac hbc hca hcb
  by_cases hne : a.length = b.length
  · have hE := Lib.hid hne
    rw [← hne]
    have hlb : ((a.length : Int) != (a.length : Int)) = false := by simp
    obtain ⟨n, hn⟩ : ∃ n, n = a.length := ⟨_, rfl⟩
    have HN := Lib.hid hn
    rw [← hn] at hlb ⊢
    clear hne hn
    go_enter Tryz.func44, Tryz.ntmps44
    go_wp2_with fail
    go_loopw [5, 14] (fun o c wr => ∃ k x : Nat, k ≤ n ∧ c = .int .i64 k ∧ o = .int .u8 x ∧ x < 256 ∧ (x = 0 ↔ a.take k = b.take k) ∧ Below w.heap.size w wr) (fun _ c _ => n - (intOf c).toNat)
    case atStart => exact ⟨0, 0, by omega, rfl, rfl, by omega, by simp, Below.refl _ _⟩
    case round =>
      obtain ⟨k, x, hk, rfl, rfl, hx, hx0, bel⟩ := hrel
      by_cases hkn : k < n
      · have hlt : decide ((k : Int) < (n : Int)) = true := decide_eq_true (by omega)
        have hk0 : (0 : Int) ≤ (k : Int) := by omega
        have hk2 : (k : Int) < (n : Int) := by omega
        have hk1 : IntKind.i64.wrap ((k : Int) + 1) = (k : Int) + 1 := by have := HL.out; have := HN.out; rw [IntKind.wrap_i64]; omega
        have hka : k < a.length := by rw [← HN.out]; exact hkn
        have hkb : k < b.length := by rw [← hE.out]; exact hka
        obtain ⟨ba, oa, rfl, ha2⟩ := HAC.out k hka
        obtain ⟨bb, ob, rfl, hb2⟩ := HBC.out k hkb
        have c1 := cell_below ha2 bel
        have c2 := cell_below hb2 bel
        have hyl := (a[k]).toNat_lt
        have hzl := (b[k]).toNat_lt
        have HST : Hid (∀ o : Nat, o = x ||| ((a[k]).toNat ^^^ (b[k]).toNat) → (o = 0 ↔ a.take (k + 1) = b.take (k + 1))) := Lib.hid (fun o ho => by
          rw [ho, or_zero, xor_zero, hx0, List.take_succ_eq_append_getElem hka, List.take_succ_eq_append_getElem hkb]
          constructor
          · rintro ⟨h1, h2⟩
            rw [h1, UInt8.toNat.inj h2]
          · intro h
            have h3 := List.append_inj h (by simp; omega)
            refine ⟨h3.1, ?_⟩
            have h4 := h3.2
            simp only [List.cons.injEq, and_true] at h4
            rw [h4])
        generalize (a[k]).toNat = y at *
        generalize (b[k]).toNat = z at *
        obtain ⟨yz, hyz⟩ : ∃ q, q = y ^^^ z := ⟨_, rfl⟩
        obtain ⟨o, ho⟩ : ∃ q, q = x ||| yz := ⟨_, rfl⟩
        have e1 : bits .xor .u8 (y : Int) (z : Int) = (yz : Int) := by rw [xor_u8 y z (by omega) (by omega), hyz]
        have e2 : bits .or .u8 (x : Int) (yz : Int) = (o : Int) := by
          rw [or_u8 x yz hx (by rw [hyz]; exact Nat.xor_lt_two_pow (n := 8) (by omega) (by omega)), ho]
        have HO := Lib.hid (HST.out o (by rw [ho, hyz]))
        have HOL : Hid (o < 256) := Lib.hid (by rw [ho]; exact Nat.or_lt_two_pow (n := 8) (by omega) (by rw [hyz]; exact Nat.xor_lt_two_pow (n := 8) (by omega) (by omega)))
        have HK := Lib.hid hkn
        have HB := Lib.hid bel
        clear hyz ho hx hx0 hyl hzl ha2 hb2 hka hkb hk hkn HST bel
        go_wp2_with fail
        go_quiet (fail)
        go_wp2_with fail
        go_roundw
        case rel => exact ⟨k + 1, o, by have := HK.out; omega, by simp, rfl, HOL.out, HO.out, Vo.below_drewN HB.out _⟩
        case measure => have := HK.out; simp [intOf]; omega
      · obtain rfl : k = n := by omega
        have hlt : decide ((k : Int) < (k : Int)) = false := by simp
        have HX : Hid ((x == 0) = decide (a = b)) := Lib.hid (by
          rw [Bool.eq_iff_iff, beq_iff_eq, hx0, decide_eq_true_iff]
          have e1 : a.take k = a := List.take_of_length_le (by rw [HN.out]; exact Nat.le_refl _)
          have e2 : b.take k = b := List.take_of_length_le (by rw [HN.out, hE.out]; exact Nat.le_refl _)
          rw [e1, e2])
        have hxb : (((x : Nat) : Int) == 0) = decide (a = b) := by
          rw [← HX.out, Bool.eq_iff_iff]
          simp
        have hzs := bel.size
        obtain ⟨r, hr⟩ : ∃ r, r = decide (a = b) := ⟨_, rfl⟩
        have HR := Lib.hid hr
        rw [← hr] at hxb
        clear hx hx0 hk hkn HX hr
        go_wp2
        refine bodyPost_ret (by simp [results, Tryz.results44, go_sem]; try rfl) rfl ?_
        exact ⟨by rw [HR.out], bel⟩
  · have hlb : ((a.length : Int) != (b.length : Int)) = true := by simp; omega
    have hd : decide (a = b) = false := decide_eq_false (by rintro rfl; exact hne rfl)
    rw [hd]
    clear hne hd
    go_enter Tryz.func44, Tryz.ntmps44
    go_wp2
    refine bodyPost_ret (by simp [results, Tryz.results44, go_sem]; try rfl) rfl ?_
    exact ⟨rfl, Below.refl _ _⟩
end Go.Proofs.YtlgghcffmnofdaaGreatDoor.Cn

/-
  Appends whose source holds nothing.
-/
namespace Go.Proofs.YtlgghcffmnofdaaGreatDoor.Vo
open Go.RowKit

theorem run_append_zero {P : Program} (w : World) (t ty e : TypeId) (i : TypeInfo) (ht : P.underlying t = some (.slice e)) (hi : P.info? e = some i) (B A : Option Addr) (n cap c : Nat) (h : n ≤ cap) :
    (Builtin.append_ #[t, t] ty #[.slice B n cap, .slice A 0 c]).run P w = .ok (.slice B n cap) w := by
  cases B with
  | none => cases A <;> simp [Builtin.append_, run_underlying ht, sizeOf, typeInfo, hi, Builtin.lenOf, Builtin.firstCells, loadCells, loadCellsFrom, h]
  | some b => cases A <;> simp [Builtin.append_, run_underlying ht, sizeOf, typeInfo, hi, Builtin.lenOf, Builtin.firstCells, loadCells, loadCellsFrom, storeCells, h]

theorem wpList_append_zero {P : Program} (w : World) {ops : Array Oper} {rest : List Oper} {o : Oper} {a : Act} {Q : Exit → Act → World → Prop} (hg : o.guard = none) (s x : Operand) (t : TypeId)
    (hop : o.op = .call { callee := .builtin .append, args := #[s, x], argTypes := #[t, t] }) (e : TypeId) (i : TypeInfo) (ht : P.underlying t = some (.slice e)) (hi : P.info? e = some i)
    (B A : Option Addr) (n cap c : Nat) (hs : a.eval s = .slice B n cap) (hx : a.eval x = .slice A 0 c) (h : n ≤ cap)
    (hK : wpList P ops Q rest (a.put o.dst (.slice B n cap)) w) : wpList P ops Q (o :: rest) a w := by
  refine wpList_plain hg fun K hK' => ?_
  have hrun := run_append_zero (P := P) w t o.type e i ht hi B A n cap c h
  unfold Oper.wp
  simp [execOp, hop, resolve, invoke, builtin, hs, hx, hrun, Result.andThen]
  exact hK' _ _ hK
end Go.Proofs.YtlgghcffmnofdaaGreatDoor.Vo
