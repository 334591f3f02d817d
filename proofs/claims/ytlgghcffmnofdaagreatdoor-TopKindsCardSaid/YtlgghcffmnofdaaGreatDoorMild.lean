/-
  REGIONS THAT DRAW THEIR ORDER AND WHOSE OPERATIONS ONLY READ, OR MAKE MEMORY: one walk in the text's order serves all orders. Each operation has a word on its value, that stays true while memory is made; an operation is shown under the words of those whose values it looks at, in every world that lies over the first.
-/
import Derived.StillTail
import Derived.Below
import Derived.Tactics2
import Derived.KernelRfl
import Derived.Handy
open Go.RowKit
namespace Go

abbrev MWord := Value → World → Prop
def MWord.Stays (S : MWord) : Prop := ∀ v w w', S v w → Below w.heap.size w w' → S v w'

section
variable {P : Program} {ops : Array Oper}

def Oper.mildUpon (P : Program) (w : World) (S : MWord) : Result Next → Prop
  | .ok (.value u) w' => Below w.heap.size w w' ∧ S u w'
  | .ok .skip w' => Below w.heap.size w w' ∧ S undef w'
  | .ok (.enter f args) w' => Below w.heap.size w w' ∧ Calls P f args w' (fun e w'' => ∃ v, e = .returned v ∧ Below w'.heap.size w' w'' ∧ S v w'')
  | _ => False

def Oper.mildAt (P : Program) (ops : Array Oper) (o : Oper) (a : Act) (w : World) (S : MWord) : Prop :=
  if Region.wanted o (yielded ops a.tmps) then Oper.mildUpon P w S ((execOp a.eval o).run P w) else S undef w

abbrev MList := List (Option Tmp × MWord)

def md_looked (looks : List Tmp) : Option Tmp → Bool
  | none => false
  | some t => looks.contains t

/-- Under the words of those that are md_looked at. -/
def mildDeps (looks : List Tmp) : MList → Act → World → (Act → Prop) → Prop
  | [], a, _, K => K a
  | (d, S) :: rest, a, w, K => if md_looked looks d then ∀ v, S v w → mildDeps looks rest (a.put d v) w K else mildDeps looks rest a w K

/-- Under all words. -/
def mildAll : MList → Act → World → (Act → Prop) → Prop
  | [], a, _, K => K a
  | (d, S) :: rest, a, w, K => ∀ v, S v w → mildAll rest (a.put d v) w K

def wpMild (P : Program) (ops : Array Oper) (w0 : World) (a : Act) (F : MList → Prop) : List Oper → MList → Prop
  | [], SS => F SS
  | o :: l, SS => ∃ S : MWord, (∀ w, Below w0.heap.size w0 w → mildDeps (o.looksAt ops) SS a w (fun a' => o.mildAt P ops a' w S)) ∧ S.Stays ∧ wpMild P ops w0 a F l (SS ++ [(o.dst, S)])

theorem wpMild_out {w0 : World} {a : Act} {F : MList → Prop} : ∀ (l : List Oper) (SS : MList), wpMild P ops w0 a F l SS →
    ∃ TT : MList, F (SS ++ TT) ∧ TT.length = l.length ∧ ∀ i o, l[i]? = some o → ∃ S : MWord, TT[i]? = some (o.dst, S) ∧ S.Stays ∧
      ∀ w, Below w0.heap.size w0 w → mildDeps (o.looksAt ops) ((SS ++ TT).take (SS.length + i)) a w (fun a' => o.mildAt P ops a' w S)
  | [], SS, h => ⟨[], by simpa [wpMild] using h, rfl, fun i o hi => by simp at hi⟩
  | o :: l, SS, h => by
    obtain ⟨S, h1, h2, h3⟩ := h
    obtain ⟨TT, hF, hlen, hall⟩ := wpMild_out l _ h3
    refine ⟨(o.dst, S) :: TT, by simpa using hF, by simp [hlen], fun i o' hi => ?_⟩
    rcases i with _ | i
    · simp only [List.getElem?_cons_zero, Option.some.injEq] at hi
      subst hi
      exact ⟨S, rfl, h2, fun w hw => by simpa using h1 w hw⟩
    · obtain ⟨S', h4, h5, h6⟩ := hall i o' (by simpa using hi)
      refine ⟨S', by simpa using h4, h5, fun w hw => ?_⟩
      have := h6 w hw
      simp only [List.length_append, List.length_cons, List.length_nil, List.append_assoc, List.cons_append, List.nil_append] at this
      rwa [show SS.length + (i + 1) = SS.length + (0 + 1) + i by omega]

def md_putIf (b : Nat → Bool) (vals : Nat → Value) : MList → Nat → Act → Act
  | [], _, a => a
  | (d, _) :: r, k, a => md_putIf b vals r (k + 1) (if b k then a.put d (vals k) else a)

def md_putDep (looks : List Tmp) (vals : Nat → Value) : MList → Nat → Act → Act
  | [], _, a => a
  | (d, _) :: r, k, a => md_putDep looks vals r (k + 1) (if md_looked looks d then a.put d (vals k) else a)

theorem mildDeps_use {looks : List Tmp} {vals : Nat → Value} {w : World} {K : Act → Prop} : ∀ (l : MList) (k : Nat) (a : Act), mildDeps looks l a w K →
    (∀ (i : Nat) (d : Option Tmp) (S : MWord), l[i]? = some (d, S) → md_looked looks d = true → S (vals (k + i)) w) → K (md_putDep looks vals l k a)
  | [], _, _, h, _ => h
  | (d, S) :: r, k, a, h, hv => by
    unfold mildDeps at h
    unfold md_putDep
    have hr : ∀ (i : Nat) (d : Option Tmp) (S : MWord), r[i]? = some (d, S) → md_looked looks d = true → S (vals (k + 1 + i)) w := fun i d' S' hi hl => by
      have := hv (i + 1) d' S' (by simpa using hi) hl
      rwa [show k + (i + 1) = k + 1 + i by omega] at this
    by_cases hl : md_looked looks d = true
    · rw [if_pos hl] at h ⊢
      exact mildDeps_use r (k + 1) _ (h _ (hv 0 d S rfl hl)) hr
    · rw [if_neg hl] at h ⊢
      exact mildDeps_use r (k + 1) _ h hr

theorem mildAll_use {vals : Nat → Value} {w : World} {K : Act → Prop} : ∀ (l : MList) (k : Nat) (a : Act), mildAll l a w K →
    (∀ (i : Nat) (d : Option Tmp) (S : MWord), l[i]? = some (d, S) → S (vals (k + i)) w) → K (md_putIf (fun _ => true) vals l k a)
  | [], _, _, h, _ => h
  | (d, S) :: r, k, a, h, hv => by
    unfold mildAll at h
    unfold md_putIf
    refine mildAll_use r (k + 1) _ (h _ (hv 0 d S rfl)) fun i d' S' hi => ?_
    have := hv (i + 1) d' S' (by simpa using hi)
    rwa [show k + (i + 1) = k + 1 + i by omega] at this

theorem md_put_at (a : Act) (t : Tmp) (v : Value) : (a.put (some t) v).tmps[t]? = a.tmps[t]?.map fun _ => v := by
  simp only [Act.put]
  by_cases h : t < a.tmps.size
  · simp [h]
  · have h' : a.tmps.size ≤ t := Nat.le_of_not_lt h
    simp [Array.getElem?_eq_none h', Array.getElem?_eq_none (show (a.tmps.setIfInBounds t v).size ≤ t by simpa using h')]

theorem md_put_off (a : Act) (d : Option Tmp) (t : Tmp) (v : Value) (h : d ≠ some t) : (a.put d v).tmps[t]? = a.tmps[t]? := by
  cases d with
  | none => rfl
  | some e =>
    have : e ≠ t := fun he => h (he ▸ rfl)
    simp [Act.put, Array.getElem?_setIfInBounds_ne this]

theorem md_slot_dep {b : Nat → Bool} {vals : Nat → Value} {looks : List Tmp} {t : Tmp} (ht : looks.contains t = true) : ∀ (l : MList) (k : Nat) (A B : Act), A.tmps[t]? = B.tmps[t]? →
    (∀ (i : Nat) (d : Option Tmp) (S : MWord), l[i]? = some (d, S) → d = some t → b (k + i) = true) → (md_putIf b vals l k A).tmps[t]? = (md_putDep looks vals l k B).tmps[t]?
  | [], _, _, _, h, _ => h
  | (d, S) :: r, k, A, B, h, hb => by
    unfold md_putIf md_putDep
    refine md_slot_dep ht r (k + 1) _ _ ?_ fun i d' S' hi hd => ?_
    · by_cases hd : d = some t
      · have h1 : b k = true := hb 0 d S rfl hd
        have h2 : md_looked looks d = true := by rw [hd]; exact ht
        rw [if_pos h1, if_pos h2, hd, md_put_at, md_put_at, h]
      · split <;> split <;> simp only [md_put_off _ _ _ _ hd, h]
    · have := hb (i + 1) d' S' (by simpa using hi) hd
      rwa [show k + (i + 1) = k + 1 + i by omega] at this

theorem md_slot_off {b : Nat → Bool} {vals : Nat → Value} {t : Tmp} : ∀ (l : MList) (k : Nat) (A : Act), (∀ (i : Nat) (d : Option Tmp) (S : MWord), l[i]? = some (d, S) → d ≠ some t) → (md_putIf b vals l k A).tmps[t]? = A.tmps[t]?
  | [], _, _, _ => rfl
  | (d, S) :: r, k, A, hd => by
    unfold md_putIf
    rw [md_slot_off r (k + 1) _ fun i d' S' hi => hd (i + 1) d' S' (by simpa using hi)]
    split
    · exact md_put_off _ _ _ _ (hd 0 d S rfl)
    · rfl

theorem md_putIf_append {b : Nat → Bool} {vals : Nat → Value} : ∀ (l m : MList) (k : Nat) (A : Act), md_putIf b vals (l ++ m) k A = md_putIf b vals m (k + l.length) (md_putIf b vals l k A)
  | [], m, k, A => rfl
  | (d, S) :: r, m, k, A => by
    simp only [List.cons_append, md_putIf, List.length_cons]
    rw [md_putIf_append r m (k + 1), show k + 1 + r.length = k + (r.length + 1) by omega]

theorem md_putIf_congr {b b' : Nat → Bool} {vals vals' : Nat → Value} : ∀ (l : MList) (k : Nat) (A : Act), (∀ i, k ≤ i → b i = b' i) → (∀ i, k ≤ i → vals i = vals' i) → md_putIf b vals l k A = md_putIf b' vals' l k A
  | [], _, _, _, _ => rfl
  | (d, S) :: r, k, A, hb, hv => by
    unfold md_putIf
    rw [hb k (Nat.le_refl _), hv k (Nat.le_refl _)]
    exact md_putIf_congr r (k + 1) _ (fun i hi => hb i (by omega)) (fun i hi => hv i (by omega))

theorem md_putIf_put {b : Nat → Bool} {vals : Nat → Value} (e : Option Tmp) (v : Value) : ∀ (l : MList) (k : Nat) (A : Act), (∀ (i : Nat) (d : Option Tmp) (S : MWord), l[i]? = some (d, S) → ∀ t, e = some t → d ≠ some t) →
    (md_putIf b vals l k A).put e v = md_putIf b vals l k (A.put e v)
  | [], _, _, _ => rfl
  | (d, S) :: r, k, A, hd => by
    unfold md_putIf
    rw [md_putIf_put e v r (k + 1) _ fun i d' S' hi => hd (i + 1) d' S' (by simpa using hi)]
    congr 1
    split
    · exact (Act.put_comm A v (vals k) (fun t ht => hd 0 d S rfl t ht)).symm
    · rfl

/-- One more is put. -/
theorem md_putIf_set {b : Nat → Bool} {vals : Nat → Value} {v : Value} {j : Nat} {e : Option Tmp} : ∀ (l : MList) (k : Nat) (A : Act), k ≤ j → (∃ S, l[j - k]? = some (e, S)) → b j = false →
    (∀ (i : Nat) (d : Option Tmp) (S : MWord), l[i]? = some (d, S) → k + i ≠ j → ∀ t, e = some t → d ≠ some t) →
    (md_putIf b vals l k A).put e v = md_putIf (fun i => if i = j then true else b i) (fun i => if i = j then v else vals i) l k A
  | [], _, _, _, ⟨S, h⟩, _, _ => by simp at h
  | (d, S) :: r, k, A, hk, hj, hb, hd => by
    by_cases hkj : k = j
    · subst hkj
      obtain ⟨S', hS⟩ := hj
      simp only [Nat.sub_self, List.getElem?_cons_zero, Option.some.injEq, Prod.mk.injEq] at hS
      unfold md_putIf
      simp only [hb, Bool.false_eq_true, if_false, if_true, hS.1]
      rw [md_putIf_put e v r (k + 1) A fun i d' S' hi => hd (i + 1) d' S' (by simpa using hi) (by omega)]
      exact md_putIf_congr r (k + 1) _ (fun i hi => by simp [show i ≠ k by omega]) (fun i hi => by simp [show i ≠ k by omega])
    · unfold md_putIf
      simp only [hkj, if_false]
      refine md_putIf_set r (k + 1) _ (by omega) ?_ hb fun i d' S' hi hne => hd (i + 1) d' S' (by simpa using hi) (by omega)
      obtain ⟨S', hS⟩ := hj
      rw [show j - k = (j - (k + 1)) + 1 by omega] at hS
      exact ⟨S', by simpa using hS⟩

/-! ### What is checked of a region -/

/-- Who looks at a value comes behind who made it, and waits for it; two operations make two slots. -/
def Region.mdApartB (ops : Array Oper) (n : Nat) : Bool :=
  (List.range n).all fun j => match ops[j]? with
    | none => false
    | some oj => (oj.after.all fun e => !Region.binds .any e || decide (e.on < j)) && (List.range n).all fun i => match ops[i]? with
      | none => false
      | some oi => match oi.dst with
        | none => true
        | some t => (!(oj.looksAt ops).contains t || (decide (i < j) && Region.waitsFor .any ops j i)) && (i == j || oj.dst != some t)

def Region.mdTailB (ops : Array Oper) (n : Nat) : Bool :=
  if n = ops.size then true else decide (n < ops.size) && Region.sinkB .any ops n && Region.chainB .any ops n

def Region.mildB (ops : Array Oper) (n : Nat) : Bool :=
  Region.noSelect ops && decide (n ≤ ops.size) && Region.mdApartB ops n && Region.mdTailB ops n && Region.seqB .any ops (ops.size - n) n (Array.replicate n true ++ Array.replicate (ops.size - n) false)

/-- How many of the first are still to come. -/
def md_toCome (listed : Array Bool) : Nat → Nat
  | 0 => 0
  | k + 1 => md_toCome listed k + if listed.getD k false then 0 else 1

theorem md_toCome_set_ge {listed : Array Bool} {i : Nat} : ∀ m, m ≤ i → md_toCome (listed.setIfInBounds i true) m = md_toCome listed m
  | 0, _ => rfl
  | k + 1, h => by
    have h1 : i ≠ k := by omega
    simp only [md_toCome, getD_set_ne (listed := listed) false h1]
    rw [md_toCome_set_ge k (by omega)]

theorem md_getD_set_self {listed : Array Bool} {i : Nat} (h : i < listed.size) : (listed.setIfInBounds i true).getD i false = true := by simp [h]

theorem md_toCome_set {listed : Array Bool} {i : Nat} (hi : i < listed.size) (hun : listed.getD i false = false) : ∀ m, i < m → md_toCome (listed.setIfInBounds i true) m + 1 = md_toCome listed m
  | 0, h => by omega
  | k + 1, h => by
    by_cases hik : i = k
    · subst hik
      simp only [md_toCome, md_toCome_set_ge i (Nat.le_refl _), md_getD_set_self hi, hun]
      simp
    · have := md_toCome_set hi hun k (by omega)
      simp only [md_toCome, getD_set_ne (listed := listed) false hik]
      omega

theorem md_toCome_zero {listed : Array Bool} : ∀ m, md_toCome listed m = 0 → ∀ i, i < m → listed.getD i false = true
  | 0, _, i, h => by omega
  | k + 1, h0, i, h => by
    simp only [md_toCome] at h0
    have h1 : listed.getD k false = true := by
      cases hc : listed.getD k false with
      | true => rfl
      | false => simp [hc] at h0
    rcases Nat.lt_or_eq_of_le (Nat.lt_succ_iff.1 h) with h2 | rfl
    · exact md_toCome_zero k (by omega) i h2
    · exact h1

theorem md_toCome_pos {listed : Array Bool} : ∀ m, 0 < md_toCome listed m → ∃ i, i < m ∧ listed.getD i false = false ∧ ∀ k, k < i → listed.getD k false = true
  | 0, h => by simp [md_toCome] at h
  | k + 1, h => by
    by_cases h0 : 0 < md_toCome listed k
    · obtain ⟨i, h1, h2, h3⟩ := md_toCome_pos k h0
      exact ⟨i, by omega, h2, h3⟩
    · have hz : md_toCome listed k = 0 := by omega
      refine ⟨k, by omega, ?_, md_toCome_zero k hz⟩
      simp only [md_toCome, hz] at h
      cases hc : listed.getD k false with
      | true => simp [hc] at h
      | false => rfl

theorem md_apartB_edge {n j : Nat} {oj : Oper} (h : Region.mdApartB ops n = true) (hj : j < n) (ho : ops[j]? = some oj) : ∀ e ∈ oj.after, Region.binds .any e = true → e.on < j := by
  intro e he hb
  have h1 := List.all_eq_true.1 h j (List.mem_range.2 hj)
  simp only [ho, Bool.and_eq_true] at h1
  have h2 := Array.all_eq_true_iff_forall_mem.1 h1.1 e he
  simpa [hb] using h2

theorem md_apartB_pair {n i j : Nat} {oi oj : Oper} {t : Tmp} (h : Region.mdApartB ops n = true) (hj : j < n) (hi : i < n) (hoj : ops[j]? = some oj) (hoi : ops[i]? = some oi) (hd : oi.dst = some t) :
    ((oj.looksAt ops).contains t = true → i < j ∧ Region.waitsFor .any ops j i = true) ∧ (i ≠ j → oj.dst ≠ some t) := by
  have h1 := List.all_eq_true.1 h j (List.mem_range.2 hj)
  simp only [hoj, Bool.and_eq_true] at h1
  have h2 := List.all_eq_true.1 h1.2 i (List.mem_range.2 hi)
  simp only [hoi, hd, Bool.and_eq_true] at h2
  refine ⟨fun hl => ?_, fun hne => ?_⟩
  · have := h2.1
    rw [hl] at this
    simpa using this
  · have := h2.2
    simpa [hne] using this

theorem mild_ready_lt {n : Nat} {listed : Array Bool} (ht : Region.mdTailB ops n = true) (inv : HeadInv .any ops n listed) (hp : 0 < md_toCome listed n) :
    ∀ j ∈ Region.ready .any ops listed, j < n := by
  intro j hj
  obtain ⟨i, hi, hun, _⟩ := md_toCome_pos n hp
  unfold Region.mdTailB at ht
  split at ht
  · rename_i he
    obtain ⟨_, o, ho, _⟩ := mem_ready.1 hj
    have := (Array.getElem?_eq_some_iff.1 ho).1
    omega
  · simp only [Bool.and_eq_true, decide_eq_true_eq] at ht
    rcases Nat.lt_or_ge j n with h | h
    · exact h
    · exact absurd hj (tail_waits ht.1.2 ht.2 ht.1.1 inv _ i rfl hi (getD_in (by rw [inv.size]; omega) hun) j h)

theorem mild_done {n : Nat} {listed : Array Bool} (inv : HeadInv .any ops n listed) (hn : n ≤ ops.size) (hz : md_toCome listed n = 0) :
    listed = Array.replicate n true ++ Array.replicate (ops.size - n) false := by
  have hs := inv.size
  apply Array.ext
  · simp [hs]; omega
  · intro i h1 h2
    rw [Array.getElem_append]
    split
    · rename_i h3
      have h4 : i < n := by simpa using h3
      have := md_toCome_zero n hz i h4
      simpa [h1] using this
    · rename_i h3
      have h4 : n ≤ i := by simpa using h3
      have := inv.tail i h4 (by omega)
      simpa [h1] using this

theorem Oper.wp_of_mild {o : Oper} {a : Act} {K' : Act → World → Prop} {Q' : Exit → Act → World → Prop} {w : World} {S : MWord}
    (h : ∀ v w', Below w.heap.size w w' → S v w' → K' (a.put o.dst v) w') (hh : Oper.mildUpon P w S ((execOp a.eval o).run P w)) : o.wp P a w K' Q' := by
  unfold Oper.wp
  generalize (execOp a.eval o).run P w = r at *
  cases r with
  | ok n w' =>
    cases n <;> simp only [Oper.mildUpon] at hh <;> simp only [Oper.upon]
    case value u => exact h _ _ hh.1 hh.2
    case skip => exact h _ _ hh.1 hh.2
    case enter f args =>
      exact hh.2.mono fun e w'' ⟨v, he, hb, hs⟩ => by subst he; exact h _ _ (hh.1.trans (hb.mono hh.1.size)) hs
  | halt x w' => simp only [Oper.mildUpon] at hh

theorem mild_any {n g : Nat} {w0 : World} {a : Act} {TT : MList} {Q : Exit → Act → World → Prop} (hsel : Region.noSelect ops = true) (hn : n ≤ ops.size) (hap : Region.mdApartB ops n = true) (htl : Region.mdTailB ops n = true)
    (hlen : TT.length = n)
    (hTT : ∀ i o, i < n → ops[i]? = some o → ∃ S : MWord, TT[i]? = some (o.dst, S) ∧ S.Stays ∧ ∀ w, Below w0.heap.size w0 w → mildDeps (o.looksAt ops) (TT.take i) a w (fun a' => o.mildAt P ops a' w S))
    (hF : ∀ vals w, Below w0.heap.size w0 w → (∀ (i : Nat) (d : Option Tmp) (S : MWord), TT[i]? = some (d, S) → S (vals i) w) →
      wpAny P .any ops Q g (Array.replicate n true ++ Array.replicate (ops.size - n) false) (md_putIf (fun _ => true) vals TT 0 a) w) :
    ∀ (f : Nat) (listed : Array Bool) (vals : Nat → Value) (w : World), HeadInv .any ops n listed → md_toCome listed n = f → Below w0.heap.size w0 w →
      (∀ (i : Nat) (d : Option Tmp) (S : MWord), TT[i]? = some (d, S) → listed.getD i false = true → S (vals i) w) → wpAny P .any ops Q (f + g) listed (md_putIf (fun i => listed.getD i false) vals TT 0 a) w := by
  intro f
  induction f with
  | zero =>
    intro listed vals w inv hf hw hv
    have hd := mild_done inv hn hf
    have hall := md_toCome_zero n hf
    have hlt : ∀ (i : Nat) (d : Option Tmp) (S : MWord), TT[i]? = some (d, S) → i < n := fun i d S h => by rw [← hlen]; exact (List.getElem?_eq_some_iff.1 h).1
    have h1 := hF vals w hw fun i d S h => hv i d S h (hall i (hlt i d S h))
    rw [Nat.zero_add]
    rw [← hd] at h1
    have h2 : ∀ (l : MList) (k : Nat) (A : Act), k + l.length ≤ n → md_putIf (fun _ => true) vals l k A = md_putIf (fun i => listed.getD i false) vals l k A := by
      intro l
      induction l with
      | nil => intro k A _; rfl
      | cons x r ih =>
        intro k A hk
        obtain ⟨d, S⟩ := x
        simp only [List.length_cons] at hk
        simp only [md_putIf, hall k (by omega), if_true]
        exact ih (k + 1) _ (by omega)
    rw [← h2 TT 0 a (by omega)]
    exact h1
  | succ f ih =>
    intro listed vals w inv hf hw hv
    have hp : 0 < md_toCome listed n := by omega
    rw [show f + 1 + g = (f + g) + 1 by omega]
    refine ⟨fun h0 => ?_, fun j hj => ?_⟩
    · exfalso
      obtain ⟨i, hi, hun, hbelow⟩ := md_toCome_pos n hp
      have hio : i < ops.size := by omega
      have : i ∈ Region.ready .any ops listed := mem_ready.2 ⟨getD_in (by rw [inv.size]; exact hio) hun, ops[i], by simp [hio], fun e he hb => hbelow _ (md_apartB_edge hap hi (by simp [hio]) e he hb)⟩
      rw [h0] at this
      cases this
    · have hjn := mild_ready_lt htl inv hp j hj
      obtain ⟨hjun, oj, hoj, hall⟩ := mem_ready.1 hj
      have hjs : j < listed.size := by rw [inv.size]; omega
      obtain ⟨S, hS, hst, hob⟩ := hTT j oj hjn hoj
      have hdeps : ∀ (i : Nat) (d : Option Tmp) (S' : MWord), TT[i]? = some (d, S') → md_looked (oj.looksAt ops) d = true → i < j ∧ listed.getD i false = true := fun i d S' hi hl => by
        have hin : i < n := by rw [← hlen]; exact (List.getElem?_eq_some_iff.1 hi).1
        have hio : i < ops.size := by omega
        obtain ⟨Si, h1, _⟩ := hTT i ops[i] hin (by simp [hio])
        have h2 : ops[i].dst = d := by rw [h1] at hi; exact (Prod.mk.inj (Option.some.inj hi)).1
        cases d with
        | none => cases hl
        | some t =>
          have h3 := (md_apartB_pair hap hjn hin hoj (by simp [hio]) h2).1 hl
          obtain ⟨o', ho', e, he, hb, hon⟩ := Region.waitsFor_spec h3.2
          have : o' = oj := Option.some.inj (ho'.symm.trans hoj)
          subst this
          exact ⟨h3.1, hon ▸ hall e he hb⟩
      have hm := mildDeps_use (vals := vals) (TT.take j) 0 a (hob w hw) fun i d S' hi hl => by
        rw [List.getElem?_take] at hi
        split at hi
        · rw [Nat.zero_add]; exact hv i d S' hi (hdeps i d S' hi hl).2
        · cases hi
      have hslot : ∀ t, (oj.looksAt ops).contains t = true → (md_putIf (fun i => listed.getD i false) vals TT 0 a).tmps[t]? = (md_putDep (oj.looksAt ops) vals (TT.take j) 0 a).tmps[t]? := fun t ht => by
        conv => lhs; rw [← List.take_append_drop j TT, md_putIf_append]
        rw [md_slot_off (TT.drop j)]
        · refine md_slot_dep ht (TT.take j) 0 a a rfl fun i d S' hi hd => ?_
          rw [List.getElem?_take] at hi
          split at hi
          · rw [Nat.zero_add]; exact (hdeps i d S' hi (by rw [hd]; exact ht)).2
          · cases hi
        · intro i d S' hi hd
          rw [List.getElem?_drop] at hi
          have := (hdeps (j + i) d S' hi (by rw [hd]; exact ht)).1
          omega
      have hexec : execOp (md_putIf (fun i => listed.getD i false) vals TT 0 a).eval oj = execOp (md_putDep (oj.looksAt ops) vals (TT.take j) 0 a).eval oj :=
        execOp_congr oj (fun cs b => Region.noSelect_spec hsel j oj cs b hoj) fun x hx => by
          cases x with
          | tmp t =>
            have := hslot t (by
              rw [List.contains_iff_mem]
              exact List.mem_append_left _ (List.mem_filterMap.2 ⟨.tmp t, by simpa using hx, rfl⟩))
            show Array.getD _ t undef = Array.getD _ t undef
            rw [Array.getD_eq_getD_getElem?, Array.getD_eq_getD_getElem?, this]
          | _ => rfl
      have hwant : Region.wanted oj (yielded ops (md_putIf (fun i => listed.getD i false) vals TT 0 a).tmps) = Region.wanted oj (yielded ops (md_putDep (oj.looksAt ops) vals (TT.take j) 0 a).tmps) := by
        unfold Region.wanted
        cases hg : oj.guard with
        | none => rfl
        | some gw =>
          obtain ⟨k, want⟩ := gw
          have hy : yielded ops (md_putIf (fun i => listed.getD i false) vals TT 0 a).tmps k = yielded ops (md_putDep (oj.looksAt ops) vals (TT.take j) 0 a).tmps k := by
            unfold yielded
            cases ht : (ops[k]?).bind (·.dst) with
            | none => rfl
            | some t =>
              have := hslot t (by
                rw [List.contains_iff_mem]
                simp [Oper.looksAt, hg, ht])
              simp only [Option.bind_some, this]
          simp only [hy]
      have hnext : ∀ v w', Below w.heap.size w w' → S v w' → wpAny P .any ops Q (f + g) (listed.setIfInBounds j true) ((md_putIf (fun i => listed.getD i false) vals TT 0 a).put oj.dst v) w' := fun v w' hb hs => by
        have hbs : (fun i => (listed.setIfInBounds j true).getD i false) = (fun i => if i = j then true else listed.getD i false) := by
          funext i
          by_cases hij : i = j
          · subst hij; rw [if_pos rfl, md_getD_set_self hjs]
          · rw [if_neg hij, getD_set_ne false (Ne.symm hij)]
        rw [md_putIf_set (v := v) (j := j) TT 0 a (Nat.zero_le _) ⟨S, by simpa using hS⟩ (getD_both hjun) (fun i d S' hi hne t ht hd => by
          have hin : i < n := by rw [← hlen]; exact (List.getElem?_eq_some_iff.1 hi).1
          have hio : i < ops.size := by omega
          obtain ⟨Si, h1, _⟩ := hTT i ops[i] hin (by simp [hio])
          have h2 : ops[i].dst = some t := by rw [h1] at hi; exact (Prod.mk.inj (Option.some.inj hi)).1.trans hd
          exact (md_apartB_pair hap hjn hin hoj (by simp [hio]) h2).2 (by omega) ht)]
        rw [← hbs]
        have hc : md_toCome (listed.setIfInBounds j true) n = f := by
          have := md_toCome_set hjs (getD_both hjun) n hjn
          omega
        refine ih _ _ w' (inv.set hj hjn) hc (hw.trans (hb.mono hw.size)) fun i d S' hi hl => ?_
        by_cases hij : i = j
        · subst hij
          have : S' = S := by rw [hS] at hi; exact ((Prod.mk.inj (Option.some.inj hi)).2).symm
          subst this
          simpa using hs
        · simp only [hij, if_false]
          rw [getD_set_ne false (Ne.symm hij)] at hl
          have hin : i < n := by rw [← hlen]; exact (List.getElem?_eq_some_iff.1 hi).1
          have hio : i < ops.size := by omega
          obtain ⟨Si, h1, h2, _⟩ := hTT i ops[i] hin (by simp [hio])
          have : S' = Si := by rw [h1] at hi; exact ((Prod.mk.inj (Option.some.inj hi)).2).symm
          subst this
          exact h2 _ _ _ (hv i d S' hi hl) hb
      unfold wpOp
      simp only [hoj]
      unfold Oper.mildAt at hm
      rw [← hwant, ← hexec] at hm
      split
      · rename_i hw1
        rw [if_pos hw1] at hm
        exact .inl (Oper.wp_of_mild hnext hm)
      · rename_i hw1
        rw [if_neg hw1] at hm
        exact hnext undef w (Below.refl _ _) hm

/-! ### The steps of the walk -/

def Oper.constUpon (w : World) (c : Value) : Result Next → Prop
  | .ok (.value u) w' => w' = w ∧ u = c
  | .ok .skip w' => w' = w ∧ undef = c
  | _ => False
def Oper.constAt (P : Program) (ops : Array Oper) (o : Oper) (a : Act) (w : World) (c : Value) : Prop :=
  if Region.wanted o (yielded ops a.tmps) then Oper.constUpon w c ((execOp a.eval o).run P w) else undef = c

def Oper.callUpon (P : Program) (w : World) (S : MWord) : Result Next → Prop
  | .ok (.enter f args) w' => w' = w ∧ Calls P f args w (fun e w'' => ∃ v, e = .returned v ∧ Below w.heap.size w w'' ∧ S v w'')
  | _ => False
def Oper.callAt (P : Program) (ops : Array Oper) (o : Oper) (a : Act) (w : World) (S : MWord) : Prop :=
  Region.wanted o (yielded ops a.tmps) = true ∧ Oper.callUpon P w S ((execOp a.eval o).run P w)

def Oper.valUpon (w : World) (S : MWord) : Result Next → Prop
  | .ok (.value u) w' => w' = w ∧ S u w
  | _ => False
def Oper.valAt (P : Program) (ops : Array Oper) (o : Oper) (a : Act) (w : World) (S : MWord) : Prop :=
  Region.wanted o (yielded ops a.tmps) = true ∧ Oper.valUpon w S ((execOp a.eval o).run P w)

theorem mildDeps_mono {looks : List Tmp} {w : World} {K K' : Act → Prop} (h : ∀ a, K a → K' a) : ∀ (l : MList) (a : Act), mildDeps looks l a w K → mildDeps looks l a w K'
  | [], a, hk => h a hk
  | (d, S) :: r, a, hk => by
    unfold mildDeps at hk ⊢
    split
    · rename_i hl
      rw [if_pos hl] at hk
      exact fun v hv => mildDeps_mono h r _ (hk v hv)
    · rename_i hl
      rw [if_neg hl] at hk
      exact mildDeps_mono h r _ hk

theorem Oper.mildAt_const {o : Oper} {a : Act} {w : World} {c : Value} (h : o.constAt P ops a w c) : o.mildAt P ops a w (fun v _ => v = c) := by
  unfold Oper.constAt at h
  unfold Oper.mildAt
  split
  · rename_i hw
    rw [if_pos hw] at h
    generalize (execOp a.eval o).run P w = r at *
    cases r with
    | ok n w' =>
      cases n <;> simp only [Oper.constUpon] at h <;> simp only [Oper.mildUpon]
      case value u => obtain ⟨rfl, h⟩ := h; exact ⟨Below.refl _ _, h⟩
      case skip => obtain ⟨rfl, h⟩ := h; exact ⟨Below.refl _ _, h⟩
    | halt x w' => simp only [Oper.constUpon] at h
  · rename_i hw
    rw [if_neg hw] at h
    exact h

theorem Oper.mildAt_call {o : Oper} {a : Act} {w : World} {S : MWord} (h : o.callAt P ops a w S) : o.mildAt P ops a w S := by
  unfold Oper.mildAt
  rw [if_pos h.1]
  have h := h.2
  generalize (execOp a.eval o).run P w = r at *
  cases r with
  | ok n w' =>
    cases n <;> simp only [Oper.callUpon] at h <;> simp only [Oper.mildUpon]
    case enter f args => obtain ⟨rfl, h⟩ := h; exact ⟨Below.refl _ _, h⟩
  | halt x w' => simp only [Oper.callUpon] at h

theorem Oper.mildAt_val {o : Oper} {a : Act} {w : World} {S : MWord} (h : o.valAt P ops a w S) : o.mildAt P ops a w S := by
  unfold Oper.mildAt
  rw [if_pos h.1]
  have h := h.2
  generalize (execOp a.eval o).run P w = r at *
  cases r with
  | ok n w' =>
    cases n <;> simp only [Oper.valUpon] at h <;> simp only [Oper.mildUpon]
    case value u => obtain ⟨rfl, h⟩ := h; exact ⟨Below.refl _ _, h⟩
  | halt x w' => simp only [Oper.valUpon] at h

theorem wpMild_const {w0 : World} {a : Act} {F : MList → Prop} {o : Oper} {l : List Oper} {SS : MList} {c : Value}
    (h1 : ∀ w, Below w0.heap.size w0 w → mildDeps (o.looksAt ops) SS a w (fun a' => o.constAt P ops a' w c)) (h2 : wpMild P ops w0 a F l (SS ++ [(o.dst, fun v _ => v = c)])) : wpMild P ops w0 a F (o :: l) SS :=
  ⟨_, fun w hw => mildDeps_mono (fun _ h => Oper.mildAt_const h) _ _ (h1 w hw), fun _ _ _ h _ => h, h2⟩

theorem wpMild_call {w0 : World} {a : Act} {F : MList → Prop} {o : Oper} {l : List Oper} {SS : MList} {S : MWord}
    (h1 : ∀ w, Below w0.heap.size w0 w → mildDeps (o.looksAt ops) SS a w (fun a' => o.callAt P ops a' w S)) (hs : S.Stays) (h2 : wpMild P ops w0 a F l (SS ++ [(o.dst, S)])) : wpMild P ops w0 a F (o :: l) SS :=
  ⟨_, fun w hw => mildDeps_mono (fun _ h => Oper.mildAt_call h) _ _ (h1 w hw), hs, h2⟩

theorem wpMild_val {w0 : World} {a : Act} {F : MList → Prop} {o : Oper} {l : List Oper} {SS : MList} (S : MWord)
    (h1 : ∀ w, Below w0.heap.size w0 w → mildDeps (o.looksAt ops) SS a w (fun a' => o.valAt P ops a' w S)) (hs : S.Stays) (h2 : wpMild P ops w0 a F l (SS ++ [(o.dst, S)])) : wpMild P ops w0 a F (o :: l) SS :=
  ⟨_, fun w hw => mildDeps_mono (fun _ h => Oper.mildAt_val h) _ _ (h1 w hw), hs, h2⟩

/-- An operation that makes memory. -/
theorem wpMild_some {w0 : World} {a : Act} {F : MList → Prop} {o : Oper} {l : List Oper} {SS : MList} (S : MWord)
    (h1 : ∀ w, Below w0.heap.size w0 w → mildDeps (o.looksAt ops) SS a w (fun a' => o.mildAt P ops a' w S)) (hs : S.Stays) (h2 : wpMild P ops w0 a F l (SS ++ [(o.dst, S)])) : wpMild P ops w0 a F (o :: l) SS :=
  ⟨_, h1, hs, h2⟩

/-- A contract whose value is known. -/
theorem Calls.mild {f : FuncId} {args : Array Value} {w : World} {c : Value} (h : Calls P f args w fun e w' => e = .returned c ∧ Below w.heap.size w w') :
    Calls P f args w fun e w' => ∃ v, e = .returned v ∧ Below w.heap.size w w' ∧ (fun v (_ : World) => v = c) v w' :=
  h.mono fun _ _ ⟨h1, h2⟩ => ⟨_, h1, h2, rfl⟩
theorem md_stays_eq (c : Value) : MWord.Stays fun v _ => v = c := fun _ _ _ h _ => h

/-- **One walk for all orders**, of a region that draws its order, whose first operations only read or make memory. -/
theorem wp_region_mild {id : Nat} {Q : Exit → Act → World → Prop} {a : Act} {w : World} {l : List Oper} (n : Nat) (hm : P.follows .mixedOrders = true) (hB : Region.mildB l.toArray n = true)
    (h : wpMild P l.toArray w a (fun SS => ∀ w', Below w.heap.size w w' → mildAll SS a w' (fun a' => wpList P l.toArray Q (l.drop n) a' w')) (l.take n) []) :
    (Code.region id l.toArray true).wp P Q a w := by
  simp only [Region.mildB, Bool.and_eq_true, decide_eq_true_eq] at hB
  obtain ⟨⟨⟨⟨hsel, hn⟩, hap⟩, htl⟩, hseq⟩ := hB
  have hsz : l.toArray.size = l.length := by simp
  obtain ⟨TT, hF, hlen, hTT⟩ := wpMild_out (l.take n) [] h
  have hlen' : TT.length = n := by rw [hlen]; simp; omega
  refine wp_region_any hm ?_
  have inv0 : HeadInv .any l.toArray n (Array.replicate l.toArray.size false) :=
    ⟨by simp, fun j oj _ hl => (by rw [getD_replicate_false] at hl; cases hl), fun t _ ht => getD_in (by simpa using ht) (getD_replicate_false _ _)⟩
  have hcount : ∀ m, md_toCome (Array.replicate l.toArray.size false) m = m := by
    intro m
    induction m with
    | zero => rfl
    | succ k ih => simp only [md_toCome, ih, getD_replicate_false]; simp
  have H := mild_any (Q := Q) (P := P) (g := l.toArray.size - n) (w0 := w) (a := a) (TT := TT) hsel hn hap htl hlen' (fun i o hi ho => by
      obtain ⟨S, h1, h2, h3⟩ := hTT i o (by
        rw [List.getElem?_take, if_pos hi]
        simpa using ho)
      exact ⟨S, h1, h2, by simpa using h3⟩)
    (fun vals w' hw' hv => by
      have h1 := hF w' hw'
      have h2 := mildAll_use (vals := vals) TT 0 a (by simpa using h1) (fun i d S hi => by rw [Nat.zero_add]; exact hv i d S hi)
      have := wpAny_of_seq (md := .any) (Q' := Q) (l.drop n) n _ _ w' (fun j => by simp [List.getElem?_drop]) (by simpa using hseq) h2
      simpa using this)
    n (Array.replicate l.toArray.size false) (fun _ => undef) { w with drawn := w.drawn + 1 } inv0 (hcount n) ⟨rfl, rfl, rfl, Nat.le_refl _, fun _ _ => rfl⟩ (fun i d S _ hl => by rw [getD_replicate_false] at hl; cases hl)
  rw [show n + (l.toArray.size - n) = l.toArray.size by omega] at H
  have h0 : ∀ (m : MList) (k : Nat) (A : Act), md_putIf (fun i => (Array.replicate l.toArray.size false).getD i false) (fun _ => undef) m k A = A := by
    intro m
    induction m with
    | nil => intro k A; rfl
    | cons x r ih => intro k A; obtain ⟨d, S⟩ := x; unfold md_putIf; rw [if_neg (by rw [getD_replicate_false]; simp)]; exact ih _ _
  rw [h0] at H
  exact H
end

attribute [go_sem] mildDeps mildAll md_looked Oper.looksAt Op.operands Call.operands Oper.constAt Oper.constUpon Oper.callAt Oper.callUpon Oper.valAt Oper.valUpon Oper.mildAt Oper.mildUpon

theorem wpMild_nil {P : Program} {ops : Array Oper} {w0 : World} {a : Act} {F : MList → Prop} {SS : MList} (h : F SS) : wpMild P ops w0 a F [] SS := h

end Go
