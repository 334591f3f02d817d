/-
  Plain numbers: what digits of a base are together, that they are told by it; what enc and dec keep.
-/
import Derived.Test.YtlgghcffmnofdaaGreatDoorCoinPlain
namespace Go.Proofs.YtlgghcffmnofdaaGreatDoor.Cn

/-- Digits of a base, together. -/
def val (B : Nat) : List Nat → Nat
  | [] => 0
  | d :: t => d * B ^ t.length + val B t

theorem val_append (B : Nat) (x y : List Nat) : val B (x ++ y) = val B x * B ^ y.length + val B y := by
  induction x with
  | nil => simp [val]
  | cons d t ih =>
    simp only [List.cons_append, val, ih, List.length_append, Nat.pow_add]
    rw [Nat.add_mul, Nat.mul_assoc, Nat.add_assoc]

theorem val_snoc (B : Nat) (x : List Nat) (d : Nat) : val B (x ++ [d]) = val B x * B + d := by
  rw [val_append]; simp [val]

theorem val_lt (B : Nat) (x : List Nat) (h : ∀ d ∈ x, d < B) : val B x < B ^ x.length := by
  induction x with
  | nil => simp [val]
  | cons d t ih =>
    have h1 := h d (by simp)
    have h2 := ih (fun c hc => h c (by simp [hc]))
    simp only [val, List.length_cons, Nat.pow_succ]
    have h3 : (d + 1) * B ^ t.length ≤ B * B ^ t.length := Nat.mul_le_mul_right _ h1
    rw [Nat.add_mul] at h3
    rw [Nat.mul_comm (B ^ t.length) B]
    omega

theorem val_inj (B : Nat) (x y : List Nat) (hl : x.length = y.length) (hx : ∀ d ∈ x, d < B) (hy : ∀ d ∈ y, d < B) (h : val B x = val B y) : x = y := by
  induction x generalizing y with
  | nil => exact (List.eq_nil_of_length_eq_zero hl.symm).symm
  | cons d t ih =>
    cases y with
    | nil => simp at hl
    | cons e u =>
      have hl' : t.length = u.length := by simpa using hl
      simp only [val, hl'] at h
      have h1 := val_lt B t (fun c hc => hx c (by simp [hc]))
      have h2 := val_lt B u (fun c hc => hy c (by simp [hc]))
      rw [hl'] at h1
      have hpos : 0 < B ^ u.length := by omega
      have e1 : (d * B ^ u.length + val B t) / B ^ u.length = d := by
        rw [Nat.add_comm, Nat.add_mul_div_right _ _ hpos, Nat.div_eq_of_lt h1, Nat.zero_add]
      have e2 : (e * B ^ u.length + val B u) / B ^ u.length = e := by
        rw [Nat.add_comm, Nat.add_mul_div_right _ _ hpos, Nat.div_eq_of_lt h2, Nat.zero_add]
      have hde : d = e := by rw [← e1, ← e2, h]
      subst hde
      rw [ih u hl' (fun c hc => hx c (by simp [hc])) (fun c hc => hy c (by simp [hc])) (by omega)]

/-- Bytes as digits. -/
def by_ (l : List UInt8) : List Nat := l.map UInt8.toNat
theorem by_lt (l : List UInt8) : ∀ d ∈ by_ l, d < 256 := by
  intro d hd
  obtain ⟨c, _, rfl⟩ := List.mem_map.1 hd
  exact c.toNat_lt
theorem by_inj {l m : List UInt8} (h : by_ l = by_ m) : l = m :=
  (List.map_inj_right (f := UInt8.toNat) (fun _ _ h => UInt8.toNat_inj.1 h)).1 h
theorem by_append (l m : List UInt8) : by_ (l ++ m) = by_ l ++ by_ m := by simp [by_]
theorem by_length (l : List UInt8) : (by_ l).length = l.length := by simp [by_]

/-- A sign's digit. -/
def dg (sg : List UInt8) (c : UInt8) : Nat := (at_ sg c.toNat 0).toNat

theorem at_get (l : List UInt8) (r : Int) (k : Nat) (h : 0 ≤ at_ l r k) : (k : Int) ≤ at_ l r k ∧ ∃ hi : (at_ l r k).toNat - k < l.length, ((l[(at_ l r k).toNat - k]'hi).toNat : Int) = r := by
  induction l generalizing k with
  | nil => simp [at_] at h
  | cons c t ih =>
    simp only [at_] at h ⊢
    by_cases hc : (c.toNat : Int) = r
    · simp only [if_pos hc]
      refine ⟨Int.le_refl _, by simp, ?_⟩
      simpa using hc
    · simp only [if_neg hc] at h ⊢
      obtain ⟨h1, h2, h3⟩ := ih (k + 1) h
      have e : (at_ t r (k + 1)).toNat - k = ((at_ t r (k + 1)).toNat - (k + 1)) + 1 := by omega
      refine ⟨by omega, by simp; omega, ?_⟩
      simp only [e, List.getElem_cons_succ]
      exact h3

/-- A sign is told by its digit. -/
theorem dg_sign (sg : List UInt8) (c : UInt8) (h : 0 ≤ at_ sg c.toNat 0) : sg.getD (dg sg c) 0 = c := by
  obtain ⟨_, h2, h3⟩ := at_get sg c.toNat 0 h
  rw [Nat.sub_zero] at h2
  simp only [Nat.sub_zero] at h3
  unfold dg
  rw [List.getD_eq_getElem?_getD, List.getElem?_eq_getElem h2]
  exact UInt8.toNat_inj.1 (Int.ofNat_inj.1 (by simpa using h3))

theorem dg_lt (sg : List UInt8) (c : UInt8) (h : 0 ≤ at_ sg c.toNat 0) : dg sg c < sg.length := by
  have := at_lt sg c.toNat 0
  unfold dg
  omega

/-- What dec keeps. -/
theorem dec_inv (sg : List UInt8) (b : Nat) (hb : b ≤ 8) (hsg : sg.length ≤ 2 ^ b) (t : List UInt8) : ∀ (out : List UInt8) (h m : Nat), m < 8 → h < 2 ^ m →
    (dec sg b t out h m = none ∧ ∃ c ∈ t, at_ sg c.toNat 0 < 0) ∨
    ∃ o h' m', dec sg b t out h m = some (o, h', m') ∧ m' < 8 ∧ h' < 2 ^ m' ∧ (∀ c ∈ t, 0 ≤ at_ sg c.toNat 0) ∧
      ∀ ps, val (2 ^ b) ps = val 256 (by_ out) * 2 ^ m + h → b * ps.length = 8 * out.length + m →
        val (2 ^ b) (ps ++ t.map (dg sg)) = val 256 (by_ o) * 2 ^ m' + h' ∧ b * (ps.length + t.length) = 8 * o.length + m' := by
  induction t with
  | nil =>
    intro out h m hm hh
    exact .inr ⟨out, h, m, rfl, hm, hh, by simp, fun ps h1 h2 => ⟨by simpa using h1, by simpa using h2⟩⟩
  | cons c t ih =>
    intro out h m hm hh
    simp only [dec]
    by_cases hc : at_ sg c.toNat 0 < 0
    · rw [if_pos hc]
      exact .inl ⟨rfl, c, by simp, hc⟩
    · rw [if_neg hc]
      have hq : dg sg c < 2 ^ b := Nat.lt_of_lt_of_le (dg_lt sg c (by omega)) hsg
      have hdg : (at_ sg c.toNat 0).toNat = dg sg c := rfl
      rw [hdg]
      generalize hx : h * 2 ^ b + dg sg c = x
      have hxlt : x < 2 ^ (m + b) := by
        have h1 : (h + 1) * 2 ^ b ≤ 2 ^ m * 2 ^ b := Nat.mul_le_mul_right _ hh
        rw [Nat.add_mul] at h1
        rw [Nat.pow_add]
        omega
      by_cases h8 : 8 ≤ m + b
      · rw [if_pos h8]
        have hp : 2 ^ (m + b) = 2 ^ (m + b - 8) * 256 := by
          rw [show m + b = (m + b - 8) + 8 from by omega, Nat.pow_add]; simp
        have hpos : 0 < 2 ^ (m + b - 8) := Nat.two_pow_pos _
        have hdiv : x / 2 ^ (m + b - 8) < 256 := by
          rw [Nat.div_lt_iff_lt_mul hpos, Nat.mul_comm]; rw [← hp]; exact hxlt
        rcases ih (out ++ [UInt8.ofNat (x / 2 ^ (m + b - 8))]) (x % 2 ^ (m + b - 8)) (m + b - 8) (by omega) (Nat.mod_lt _ hpos) with ⟨h1, c', hc', h2⟩ | ⟨o, h', m', h1, h2, h3, h4, h5⟩
        · exact .inl ⟨h1, c', by simp [hc'], h2⟩
        · refine .inr ⟨o, h', m', h1, h2, h3, ?_, ?_⟩
          · intro c' hc'
            rcases List.mem_cons.1 hc' with rfl | hc'
            · omega
            · exact h4 c' hc'
          · intro ps hv hl
            have h6 := h5 (ps ++ [dg sg c]) (by
              rw [val_snoc, hv, by_append, show by_ [UInt8.ofNat (x / 2 ^ (m + b - 8))] = [x / 2 ^ (m + b - 8)] from by simp [by_, UInt8.toNat_ofNat']; omega, val_snoc]
              have e1 : (val 256 (by_ out) * 2 ^ m + h) * 2 ^ b + dg sg c = val 256 (by_ out) * 2 ^ (m + b) + x := by
                rw [Nat.add_mul, Nat.mul_assoc, ← Nat.pow_add]; omega
              rw [e1, hp, Nat.add_mul, Nat.mul_assoc, Nat.mul_comm 256, Nat.add_assoc, Nat.mul_comm (x / _), Nat.div_add_mod]) (by simp only [List.length_append, List.length_cons, List.length_nil, Nat.mul_add]; omega)
            obtain ⟨h7, h8'⟩ := h6
            refine ⟨by simpa using h7, ?_⟩
            simp only [List.length_append, List.length_cons, List.length_nil] at h8' ⊢
            rw [← h8']; congr 1; omega
      · rw [if_neg h8]
        rcases ih out x (m + b) (by omega) hxlt with ⟨h1, c', hc', h2⟩ | ⟨o, h', m', h1, h2, h3, h4, h5⟩
        · exact .inl ⟨h1, c', by simp [hc'], h2⟩
        · refine .inr ⟨o, h', m', h1, h2, h3, ?_, ?_⟩
          · intro c' hc'
            rcases List.mem_cons.1 hc' with rfl | hc'
            · omega
            · exact h4 c' hc'
          · intro ps hv hl
            have h6 := h5 (ps ++ [dg sg c]) (by
              rw [val_snoc, hv, Nat.add_mul, Nat.mul_assoc, ← Nat.pow_add]; omega) (by simp only [List.length_append, List.length_cons, List.length_nil, Nat.mul_add]; omega)
            obtain ⟨h7, h8'⟩ := h6
            refine ⟨by simpa using h7, ?_⟩
            simp only [List.length_append, List.length_cons, List.length_nil] at h8' ⊢
            rw [← h8']; congr 1; omega

/-- What enc keeps. -/
theorem enc_inv (sg : List UInt8) (b : Nat) (hb4 : 4 ≤ b) (f : Nat) : ∀ (l : List UInt8) (h n : Nat) (ds ps : List Nat), h < 2 ^ n → 12 * l.length + n < 4 * f → (∀ d ∈ ds, d < 2 ^ b) →
    val 256 ps = val (2 ^ b) ds * 2 ^ n + h → 8 * ps.length = b * ds.length + n →
    ∃ ds' z, enc sg b f l h n (ds.map (sg.getD · 0)) = ds'.map (sg.getD · 0) ∧ (∀ d ∈ ds', d < 2 ^ b) ∧ z < b ∧ val (2 ^ b) ds' = val 256 (ps ++ by_ l) * 2 ^ z ∧ b * ds'.length = 8 * (ps.length + l.length) + z := by
  induction f with
  | zero => intro l h n ds ps _ hf; omega
  | succ f ih =>
    intro l h n ds ps hh hf hds hv hl
    by_cases hn : b ≤ n
    · rw [enc_emit hn]
      have hpos : 0 < 2 ^ (n - b) := Nat.two_pow_pos _
      have hp : 2 ^ n = 2 ^ b * 2 ^ (n - b) := by rw [← Nat.pow_add]; congr 1; omega
      have hdiv : h / 2 ^ (n - b) < 2 ^ b := by rw [Nat.div_lt_iff_lt_mul hpos, ← hp]; exact hh
      have h1 := ih l (h % 2 ^ (n - b)) (n - b) (ds ++ [h / 2 ^ (n - b)]) ps (Nat.mod_lt _ hpos) (by omega) (by
        intro d hd
        rcases List.mem_append.1 hd with hd | hd
        · exact hds d hd
        · obtain rfl := List.mem_singleton.1 hd
          exact hdiv) (by
        rw [hv, val_snoc, hp, Nat.add_mul, Nat.mul_assoc, Nat.add_assoc, Nat.mul_comm (h / _), Nat.div_add_mod]) (by
        simp only [List.length_append, List.length_cons, List.length_nil, Nat.mul_add]; omega)
      simpa using h1
    · cases l with
      | nil =>
        rw [enc_nil hn]
        by_cases h0 : 0 < n
        · rw [if_pos h0]
          refine ⟨ds ++ [h * 2 ^ (b - n)], b - n, by simp, ?_, by omega, ?_, ?_⟩
          · intro d hd
            rcases List.mem_append.1 hd with hd | hd
            · exact hds d hd
            · obtain rfl := List.mem_singleton.1 hd
              have : 2 ^ b = 2 ^ n * 2 ^ (b - n) := by rw [← Nat.pow_add]; congr 1; omega
              rw [this]
              exact Nat.mul_lt_mul_of_pos_right hh (Nat.two_pow_pos _)
          · rw [val_snoc]
            simp only [by_, List.map_nil, List.append_nil]
            rw [hv, Nat.add_mul, Nat.mul_assoc, ← Nat.pow_add, show n + (b - n) = b from by omega]
          · simp only [List.length_append, List.length_cons, List.length_nil, Nat.mul_add]; omega
        · rw [if_neg h0]
          obtain rfl : n = 0 := by omega
          refine ⟨ds, 0, rfl, hds, by omega, ?_, ?_⟩
          · simp only [by_, List.map_nil, List.append_nil]
            rw [hv]
            have : h = 0 := by simpa using hh
            simp [this]
          · simp; omega
      | cons c t =>
        rw [enc_byte hn]
        have hc := c.toNat_lt
        have h1 := ih t (h * 256 + c.toNat) (n + 8) ds (ps ++ [c.toNat]) (by
          rw [Nat.pow_add]
          have : (h + 1) * 256 ≤ 2 ^ n * 256 := Nat.mul_le_mul_right _ hh
          have e : (2 : Nat) ^ 8 = 256 := by decide
          rw [e]
          have hc' : c.toNat < 256 := hc
          omega) (by simp only [List.length_cons] at hf; omega) hds (by
          rw [val_snoc, hv, Nat.pow_add, Nat.add_mul, Nat.mul_assoc]
          have e : (2 : Nat) ^ 8 = 256 := by decide
          rw [e]; omega) (by simp only [List.length_append, List.length_cons, List.length_nil]; omega)
        obtain ⟨ds', z, h2, h3, h4, h5, h6⟩ := h1
        refine ⟨ds', z, h2, h3, h4, ?_, ?_⟩
        · rw [h5]; simp [by_]
        · rw [h6]; simp; omega
end Go.Proofs.YtlgghcffmnofdaaGreatDoor.Cn
