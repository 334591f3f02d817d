/-
  Plain laws of the two alphabets: what is read has just that text; what is written is read as it was.
-/
import Derived.Test.YtlgghcffmnofdaaGreatDoorCoinMath
import Derived.Test.YtlgghcffmnofdaaGreatDoorCoinRead
namespace Go.Proofs.YtlgghcffmnofdaaGreatDoor.Cn

/-- An alphabet: b bits, 2^b signs, each at its place. -/
structure Alpha (sg : ByteArray) (b : Nat) : Prop where
  bits : b = 6 ∨ b = 4
  size : sg.data.toList.length = 2 ^ b
  place : ∀ d, d < 2 ^ b → at_ sg.data.toList ((sg.data.toList.getD d 0).toNat : Int) 0 = (d : Int)

theorem alpha64 : Alpha sg64 6 where
  bits := .inl rfl
  size := by decide +kernel
  place := by
    have h : ∀ d : Fin 64, at_ sg64.data.toList ((sg64.data.toList.getD d.val 0).toNat : Int) 0 = (d.val : Int) := by decide +kernel
    intro d hd
    exact h ⟨d, hd⟩
theorem alpha16 : Alpha sg16 4 where
  bits := .inr rfl
  size := by decide +kernel
  place := by
    have h : ∀ d : Fin 16, at_ sg16.data.toList ((sg16.data.toList.getD d.val 0).toNat : Int) 0 = (d.val : Int) := by decide +kernel
    intro d hd
    exact h ⟨d, hd⟩

variable {sg : ByteArray} {b : Nat}

/-- What a text of bytes is. -/
theorem txt_spec (A : Alpha sg b) (l : List UInt8) : ∃ ds z, txt sg b l = ds.map (sg.data.toList.getD · 0) ∧ (∀ d ∈ ds, d < 2 ^ b) ∧ z < b ∧ val (2 ^ b) ds = val 256 (by_ l) * 2 ^ z ∧ b * ds.length = 8 * l.length + z := by
  have h := enc_inv sg.data.toList b (by rcases A.bits with rfl | rfl <;> decide) (4 * l.length + 1) l 0 0 [] [] (by decide) (by omega) (by simp) (by simp [val]) (by simp)
  simpa [txt] using h

theorem txt_len (A : Alpha sg b) (l : List UInt8) : (txt sg b l).length ≤ 2 * l.length + 2 := by
  obtain ⟨ds, z, t1, t2, t3, t4, t5⟩ := txt_spec A l
  rw [t1, List.length_map]
  rcases A.bits with rfl | rfl <;> omega

/-- What bytes a text is read as. -/
theorem dec_spec (A : Alpha sg b) (s : List UInt8) :
    (dec sg.data.toList b s [] 0 0 = none ∧ ∃ c ∈ s, at_ sg.data.toList c.toNat 0 < 0) ∨
    ∃ o h m, dec sg.data.toList b s [] 0 0 = some (o, h, m) ∧ m < 8 ∧ h < 2 ^ m ∧ (∀ c ∈ s, 0 ≤ at_ sg.data.toList c.toNat 0) ∧ val (2 ^ b) (s.map (dg sg.data.toList)) = val 256 (by_ o) * 2 ^ m + h ∧ b * s.length = 8 * o.length + m := by
  have h := dec_inv sg.data.toList b (by rcases A.bits with rfl | rfl <;> decide) (Nat.le_of_eq A.size) s [] 0 0 (by decide) (by decide)
  rcases h with h | ⟨o, h, m, h1, h2, h3, h4, h5⟩
  · exact .inl h
  · have h6 := h5 [] (by simp [val, by_]) (by simp)
    exact .inr ⟨o, h, m, h1, h2, h3, h4, by simpa using h6⟩

theorem mul_gap (hb : b = 6 ∨ b = 4) {x y n z w : Nat} (h1 : b * x = n + z) (h2 : b * y = n + w) (hz : z < b) (hw : w < b) : x = y ∧ z = w := by
  rcases hb with rfl | rfl <;> omega

/-- What is read of a text that is right has just that text. -/
theorem read_text (A : Alpha sg b) (s : ByteArray) (h : (rdv sg b s).2 = 0) : txt sg b (rdv sg b s).1 = s.data.toList := by
  rcases dec_spec A s.data.toList with ⟨h1, _⟩ | ⟨o, hh, m, h1, h2, h3, h4, h5, h6⟩
  · simp [rdv, h1, rdOf] at h
  · simp only [rdv, h1, rdOf] at h ⊢
    by_cases hm : b ≤ m
    · simp [if_pos hm] at h
    · simp only [if_neg hm] at h ⊢
      by_cases h0 : hh ≠ 0
      · simp [if_pos h0] at h
      · simp only [if_neg h0]
        have h0' : hh = 0 := by omega
        subst h0'
        obtain ⟨ds, z, t1, t2, t3, t4, t5⟩ := txt_spec A o
        obtain ⟨hl, rfl⟩ := mul_gap A.bits t5 h6 t3 (by omega)
        have he : ds = s.data.toList.map (dg sg.data.toList) := val_inj (2 ^ b) _ _ (by simpa using hl) t2 (by
          intro d hd
          obtain ⟨c, hc, rfl⟩ := List.mem_map.1 hd
          rw [← A.size]
          exact dg_lt _ _ (h4 c hc)) (by rw [t4, h5]; rfl)
        rw [t1, he, List.map_map]
        conv => rhs; rw [← List.map_id s.data.toList]
        exact List.map_congr_left (fun c hc => dg_sign _ _ (h4 c hc))

/-- What is read is no longer than its text. -/
theorem rdv_len (A : Alpha sg b) (s : ByteArray) : (rdv sg b s).1.length ≤ s.size := by
  rcases dec_spec A s.data.toList with ⟨h1, _⟩ | ⟨o, hh, m, h1, h2, h3, h4, h5, h6⟩
  · simp [rdv, h1, rdOf]
  · have hb := A.bits
    have hsz : s.data.toList.length = s.size := by simp
    rw [hsz] at h6
    simp only [rdv, h1, rdOf]
    split
    · simp
    · split
      · simp
      · rcases hb with rfl | rfl <;> simp only <;> omega

/-- What is written is read as it was. -/
theorem text_read (A : Alpha sg b) (l : List UInt8) : rdv sg b ⟨(txt sg b l).toArray⟩ = (l, 0) := by
  obtain ⟨ds, z, t1, t2, t3, t4, t5⟩ := txt_spec A l
  have hpl : ∀ d ∈ ds, at_ sg.data.toList ((sg.data.toList.getD d 0).toNat : Int) 0 = (d : Int) := fun d hd => A.place d (t2 d hd)
  have hdg : (ds.map (sg.data.toList.getD · 0)).map (dg sg.data.toList) = ds := by
    rw [List.map_map]
    conv => rhs; rw [← List.map_id ds]
    refine List.map_congr_left (fun d hd => ?_)
    simp only [Function.comp, dg, hpl d hd, id]
    rfl
  simp only [rdv]
  rw [t1]
  rcases dec_spec A (ds.map (sg.data.toList.getD · 0)) with ⟨_, c, hc, h2⟩ | ⟨o, hh, m, h1, h2, h3, h4, h5, h6⟩
  · obtain ⟨d, hd, rfl⟩ := List.mem_map.1 hc
    rw [hpl d hd] at h2
    omega
  · rw [hdg, t4] at h5
    rw [List.length_map] at h6
    have hb := A.bits
    have hmz : o.length = l.length ∧ m = z := by rcases hb with rfl | rfl <;> omega
    obtain ⟨hol, rfl⟩ := hmz
    have hpos : 0 < 2 ^ m := Nat.two_pow_pos _
    have e1 : val 256 (by_ l) = val 256 (by_ o) := by
      have := congrArg (· / 2 ^ m) h5
      simp only [Nat.mul_div_cancel _ hpos] at this
      rw [this, Nat.add_comm, Nat.add_mul_div_right _ _ hpos, Nat.div_eq_of_lt h3, Nat.zero_add]
    have e2 : hh = 0 := by rw [e1] at h5; omega
    have e3 : o = l := by_inj (val_inj 256 _ _ (by simp [by_length, hol]) (by_lt _) (by_lt _) e1.symm)
    rw [h1, e2, e3]
    simp only [rdOf]
    rw [if_neg (by omega), if_neg (by simp)]
end Go.Proofs.YtlgghcffmnofdaaGreatDoor.Cn
