/-
  What a row's list of variables gives a walk.
-/
import Derived.Lib.LaidTab
import Derived.WalkKit
import Derived.ProofKit
namespace Go.Proofs.YtlgghcffmnofdaaGreatDoor.La
open Go Go.Lib

/-- One of the variables on the list. -/
theorem laid_at {P : Program} {w : World} {n : String} {d : DataW Unit} : ∀ {laid : List (String × DataW Unit)} {ps : List MemPlace}, DataW.LaidVars P w laid ps → (n, d) ∈ laid →
    ∃ g t cs fuel p, P.globalNamed n = some g ∧ (P.globals[g]?).map (·.type) = some t ∧ w.var? P n = some cs ∧ DataW.trod (fun _ => ()) P w 0 (fun _ => true) false fuel t cs.toList = some (d, p)
  | [], _, _, h => by cases h
  | (n', d') :: r, ps, h, hm => by
    obtain ⟨g, t, cs, fuel, p, q, hg, ht, hv, hd, hr, _⟩ := h
    rcases List.mem_cons.1 hm with he | hm
    · obtain ⟨rfl, rfl⟩ := Prod.mk.inj he
      exact ⟨g, t, cs, fuel, p, hg, ht, hv, hd⟩
    · exact laid_at hr hm

section
variable {H : Type} {enc : TypeId × Value → H} {P : Program} {w : World} {base : Nat} {sp : Nat → Bool} {held : Bool} {fuel : Nat}

/-- The pieces of an array. -/
theorem pieces {t e : TypeId} {n c : Nat} {cs : List Value} {ds : List (DataW H)} {p : List MemPlace} (ht : P.underlying t = some (.array n e)) (hce : P.cellsOf e = c)
    (h : DataW.trod enc P w base sp held fuel t cs = some (.agg ds, p)) : ds.length = n ∧ ∀ i, i < n → ∃ fuel' d p', ds[i]? = some d ∧ DataW.trod enc P w base sp held fuel' e ((cs.drop (i * c)).take c) = some (d, p') := by
  cases fuel with
  | zero => simp [DataW.trod] at h
  | succ fuel =>
    simp only [DataW.trod, ht, hce] at h
    split at h
    · obtain ⟨xs, hm, hx⟩ := Option.map_eq_some_iff.1 h
      have hxs : xs.map (·.1) = ds := by
        have := congrArg Prod.fst hx
        simpa using this
      have hxl : xs.length = n := by simpa using mapM_length hm
      refine ⟨by rw [← hxs]; simp [hxl], fun i hi => ?_⟩
      obtain ⟨b, hb, hf⟩ := mapM_at hm i i (by simp [hi])
      exact ⟨fuel, b.1, b.2, by rw [← hxs]; simp [hb], hf⟩
    · cases h

theorem ints_of {t e : TypeId} {n : Nat} {k : IntKind} {cs : List Value} {zs : List Int} {p : List MemPlace} (ht : P.underlying t = some (.array n e)) (he : P.underlying e = some (.int k)) (hce : P.cellsOf e = 1) (hct : P.cellsOf t = n)
    (h : DataW.trod enc P w base sp held fuel t cs = some (.agg (zs.map fun z => .lit (.int k z)), p)) : cs = zs.map fun z => Value.int k z := cells_of_tab ht he hce hct h

theorem strs_of {t e : TypeId} {n : Nat} {cs : List Value} {zs : List (List UInt8)} {p : List MemPlace} (ht : P.underlying t = some (.array n e)) (he : P.underlying e = some .string) (hce : P.cellsOf e = 1)
    (h : DataW.trod enc P w base sp held fuel t cs = some (.agg (zs.map fun z => .lit (.string z)), p)) (hl : cs.length = n) : cs = zs.map fun z => Value.string ⟨z.toArray⟩ := by
  obtain ⟨h1, h2⟩ := pieces ht hce h
  have hzl : zs.length = n := by simpa using h1
  apply List.ext_getElem?
  intro i
  by_cases hi : i < n
  · obtain ⟨f, d, p', hd, htr⟩ := h2 i hi
    obtain ⟨s, hc, hs, _⟩ := DataW.trod_string he htr
    have h3 : cs[i]? = some (.string s) := by
      have := congrArg (·[0]?) hc
      simpa [List.getElem?_take, List.getElem?_drop] using this
    replace hs := (Prod.mk.inj hs).1
    rw [hs, List.getElem?_map] at hd
    obtain ⟨z, hz, hzs⟩ := Option.map_eq_some_iff.1 hd
    simp only [DataW.lit.injEq, Lit.string.injEq] at hzs
    rw [h3, List.getElem?_map, hz, hzs]
    simp
  · rw [List.getElem?_eq_none (by omega), List.getElem?_eq_none (by simp; omega)]

/-- An array of arrays of integers. -/
theorem ints2_of {t e i : TypeId} {n m : Nat} {k : IntKind} {cs : List Value} {zs : List (List Int)} {p : List MemPlace} (ht : P.underlying t = some (.array n e)) (he : P.underlying e = some (.array m i)) (hi : P.underlying i = some (.int k)) (hci : P.cellsOf i = 1) (hce : P.cellsOf e = m)
    (h : DataW.trod enc P w base sp held fuel t cs = some (.agg (zs.map fun z => .agg (z.map fun y => .lit (.int k y))), p)) (j : Nat) (z : List Int) (hz : zs[j]? = some z) : (cs.drop (j * m)).take m = z.map fun y => Value.int k y := by
  obtain ⟨h1, h2⟩ := pieces ht hce h
  have hj : j < n := by
    have : zs.length = n := by simpa using h1
    rw [← this]; exact (List.getElem?_eq_some_iff.1 hz).1
  obtain ⟨f, d, p', hd, htr⟩ := h2 j hj
  rw [List.getElem?_map, hz] at hd
  obtain rfl := Option.some.inj hd
  exact ints_of he hi hci hce htr

theorem strs2_of {t e i : TypeId} {n m : Nat} {cs : List Value} {zs : List (List (List UInt8))} {p : List MemPlace} (ht : P.underlying t = some (.array n e)) (he : P.underlying e = some (.array m i)) (hi : P.underlying i = some .string) (hci : P.cellsOf i = 1) (hce : P.cellsOf e = m) (hl : cs.length = n * m)
    (h : DataW.trod enc P w base sp held fuel t cs = some (.agg (zs.map fun z => .agg (z.map fun y => .lit (.string y))), p)) (j : Nat) (z : List (List UInt8)) (hz : zs[j]? = some z) : (cs.drop (j * m)).take m = z.map fun y => Value.string ⟨y.toArray⟩ := by
  obtain ⟨h1, h2⟩ := pieces ht hce h
  have hj : j < n := by
    have : zs.length = n := by simpa using h1
    rw [← this]; exact (List.getElem?_eq_some_iff.1 hz).1
  obtain ⟨f, d, p', hd, htr⟩ := h2 j hj
  rw [List.getElem?_map, hz] at hd
  obtain rfl := Option.some.inj hd
  refine strs_of he hi hci htr ?_
  have : (j + 1) * m ≤ n * m := Nat.mul_le_mul_right m hj
  rw [Nat.succ_mul] at this
  simp [hl]
  omega

theorem len_of {t e : TypeId} {n : Nat} {cs : List Value} {d : DataW H} {p : List MemPlace} (ht : P.underlying t = some (.array n e)) (h : DataW.trod enc P w base sp held fuel t cs = some (d, p)) : cs.length = P.cellsOf t := by
  cases fuel with
  | zero => simp [DataW.trod] at h
  | succ fuel =>
    simp only [DataW.trod, ht] at h
    split at h
    · assumption
    · cases h
end

/-- The cells of what is laid. -/
def flatN : Nat → DataW Unit → List Value
  | 0, _ => []
  | _ + 1, .lit (.int k n) => [.int k n]
  | _ + 1, .lit (.string s) => [.string ⟨s.toArray⟩]
  | _ + 1, .lit (.bool b) => [.bool b]
  | n + 1, .agg ds => ds.flatMap (flatN n)
  | _, _ => []
def layIn (l : List Value) : Obj → Obj
  | .cells _ t frozen => .cells l.toArray t frozen
  | o => o
def layAt (P : Program) (h : Array Obj) (x : String × DataW Unit) : Array Obj :=
  match P.globalNamed x.1 with
  | some g => h.modify g (layIn (flatN 6 x.2))
  | none => h
/-- A world for a witness: the variables on the list hold what is laid. -/
noncomputable def laidWorld (P : Program) (laid : List (String × DataW Unit)) (os : Os) : World :=
  { World.holding P os ⟨#[], #[], []⟩ with heap := laid.foldl (layAt P) (World.holding P os ⟨#[], #[], []⟩).heap }
end Go.Proofs.YtlgghcffmnofdaaGreatDoor.La
