/-
  Several texts in one: Mild, MildF, Step, Laid.
-/
import Derived.StillTail
import Derived.Below
import Derived.Tactics2
import Derived.KernelRfl
import Derived.Handy
import Derived.WalkKit
import Derived.Lib.LaidTab
import Derived.ProofKit

/-
  REGIONS THAT DRAW THEIR ORDER AND WHOSE OPERATIONS ONLY READ, OR MAKE MEMORY: one walk in the text's order serves all orders. Each operation has a word on its value, that stays true while memory is made; an operation is shown under the words of those whose values it looks at, in every world that lies over the first.
-/
open Go.RowKit
namespace Go

abbrev MWord := Value → World → Prop
def MWord.Stays (S : MWord) : Prop := ∀ v w w', S v w → Below w.heap.size w w' → S v w'

section
variable {P : Program} {ops : Array Oper}

def Oper.mildUpon (P : Program) (w : World) (S : MWord) : Result Next → Prop
  | .ok (.value u) w' => Below w.heap.size w w' ∧ S u w'
  | .ok .skip w' => Below w.heap.size w w' ∧ S undef w'
  | .ok (.enter f args) w' => Below w.heap.size w w' ∧ Calls P f args w' (fun e w'' => ∃ v, e = .returned v ∧ Below w'.heap.size w' w'' ∧ S v w'')
  | _ => False

def Oper.mildAt (P : Program) (ops : Array Oper) (o : Oper) (a : Act) (w : World) (S : MWord) : Prop :=
  if Region.wanted o (yielded ops a.tmps) then Oper.mildUpon P w S ((execOp a.eval o).run P w) else S undef w

abbrev MList := List (Option Tmp × MWord)

def md_looked (looks : List Tmp) : Option Tmp → Bool
  | none => false
  | some t => looks.contains t

/-- Under the words of those that are md_looked at. -/
def mildDeps (looks : List Tmp) : MList → Act → World → (Act → Prop) → Prop
  | [], a, _, K => K a
  | (d, S) :: rest, a, w, K => if md_looked looks d then ∀ v, S v w → mildDeps looks rest (a.put d v) w K else mildDeps looks rest a w K

/-- Under all words. -/
def mildAll : MList → Act → World → (Act → Prop) → Prop
  | [], a, _, K => K a
  | (d, S) :: rest, a, w, K => ∀ v, S v w → mildAll rest (a.put d v) w K

def wpMild (P : Program) (ops : Array Oper) (w0 : World) (a : Act) (F : MList → Prop) : List Oper → MList → Prop
  | [], SS => F SS
  | o :: l, SS => ∃ S : MWord, (∀ w, Below w0.heap.size w0 w → mildDeps (o.looksAt ops) SS a w (fun a' => o.mildAt P ops a' w S)) ∧ S.Stays ∧ wpMild P ops w0 a F l (SS ++ [(o.dst, S)])

theorem wpMild_out {w0 : World} {a : Act} {F : MList → Prop} : ∀ (l : List Oper) (SS : MList), wpMild P ops w0 a F l SS →
    ∃ TT : MList, F (SS ++ TT) ∧ TT.length = l.length ∧ ∀ i o, l[i]? = some o → ∃ S : MWord, TT[i]? = some (o.dst, S) ∧ S.Stays ∧
      ∀ w, Below w0.heap.size w0 w → mildDeps (o.looksAt ops) ((SS ++ TT).take (SS.length + i)) a w (fun a' => o.mildAt P ops a' w S)
  | [], SS, h => ⟨[], by simpa [wpMild] using h, rfl, fun i o hi => by simp at hi⟩
  | o :: l, SS, h => by
    obtain ⟨S, h1, h2, h3⟩ := h
    obtain ⟨TT, hF, hlen, hall⟩ := wpMild_out l _ h3
    refine ⟨(o.dst, S) :: TT, by simpa using hF, by simp [hlen], fun i o' hi => ?_⟩
    rcases i with _ | i
    · simp only [List.getElem?_cons_zero, Option.some.injEq] at hi
      subst hi
      exact ⟨S, rfl, h2, fun w hw => by simpa using h1 w hw⟩
    · obtain ⟨S', h4, h5, h6⟩ := hall i o' (by simpa using hi)
      refine ⟨S', by simpa using h4, h5, fun w hw => ?_⟩
      have := h6 w hw
      simp only [List.length_append, List.length_cons, List.length_nil, List.append_assoc, List.cons_append, List.nil_append] at this
      rwa [show SS.length + (i + 1) = SS.length + (0 + 1) + i by omega]

def md_putIf (b : Nat → Bool) (vals : Nat → Value) : MList → Nat → Act → Act
  | [], _, a => a
  | (d, _) :: r, k, a => md_putIf b vals r (k + 1) (if b k then a.put d (vals k) else a)

def md_putDep (looks : List Tmp) (vals : Nat → Value) : MList → Nat → Act → Act
  | [], _, a => a
  | (d, _) :: r, k, a => md_putDep looks vals r (k + 1) (if md_looked looks d then a.put d (vals k) else a)

theorem mildDeps_use {looks : List Tmp} {vals : Nat → Value} {w : World} {K : Act → Prop} : ∀ (l : MList) (k : Nat) (a : Act), mildDeps looks l a w K →
    (∀ (i : Nat) (d : Option Tmp) (S : MWord), l[i]? = some (d, S) → md_looked looks d = true → S (vals (k + i)) w) → K (md_putDep looks vals l k a)
  | [], _, _, h, _ => h
  | (d, S) :: r, k, a, h, hv => by
    unfold mildDeps at h
    unfold md_putDep
    have hr : ∀ (i : Nat) (d : Option Tmp) (S : MWord), r[i]? = some (d, S) → md_looked looks d = true → S (vals (k + 1 + i)) w := fun i d' S' hi hl => by
      have := hv (i + 1) d' S' (by simpa using hi) hl
      rwa [show k + (i + 1) = k + 1 + i by omega] at this
    by_cases hl : md_looked looks d = true
    · rw [if_pos hl] at h ⊢
      exact mildDeps_use r (k + 1) _ (h _ (hv 0 d S rfl hl)) hr
    · rw [if_neg hl] at h ⊢
      exact mildDeps_use r (k + 1) _ h hr

theorem mildAll_use {vals : Nat → Value} {w : World} {K : Act → Prop} : ∀ (l : MList) (k : Nat) (a : Act), mildAll l a w K →
    (∀ (i : Nat) (d : Option Tmp) (S : MWord), l[i]? = some (d, S) → S (vals (k + i)) w) → K (md_putIf (fun _ => true) vals l k a)
  | [], _, _, h, _ => h
  | (d, S) :: r, k, a, h, hv => by
    unfold mildAll at h
    unfold md_putIf
    refine mildAll_use r (k + 1) _ (h _ (hv 0 d S rfl)) fun i d' S' hi => ?_
    have := hv (i + 1) d' S' (by simpa using hi)
    rwa [show k + (i + 1) = k + 1 + i by omega] at this

theorem md_put_at (a : Act) (t : Tmp) (v : Value) : (a.put (some t) v).tmps[t]? = a.tmps[t]?.map fun _ => v := by
  simp only [Act.put]
  by_cases h : t < a.tmps.size
  · simp [h]
  · have h' : a.tmps.size ≤ t := Nat.le_of_not_lt h
    simp [Array.getElem?_eq_none h', Array.getElem?_eq_none (show (a.tmps.setIfInBounds t v).size ≤ t by simpa using h')]

theorem md_put_off (a : Act) (d : Option Tmp) (t : Tmp) (v : Value) (h : d ≠ some t) : (a.put d v).tmps[t]? = a.tmps[t]? := by
  cases d with
  | none => rfl
  | some e =>
    have : e ≠ t := fun he => h (he ▸ rfl)
    simp [Act.put, Array.getElem?_setIfInBounds_ne this]

theorem md_slot_dep {b : Nat → Bool} {vals : Nat → Value} {looks : List Tmp} {t : Tmp} (ht : looks.contains t = true) : ∀ (l : MList) (k : Nat) (A B : Act), A.tmps[t]? = B.tmps[t]? →
    (∀ (i : Nat) (d : Option Tmp) (S : MWord), l[i]? = some (d, S) → d = some t → b (k + i) = true) → (md_putIf b vals l k A).tmps[t]? = (md_putDep looks vals l k B).tmps[t]?
  | [], _, _, _, h, _ => h
  | (d, S) :: r, k, A, B, h, hb => by
    unfold md_putIf md_putDep
    refine md_slot_dep ht r (k + 1) _ _ ?_ fun i d' S' hi hd => ?_
    · by_cases hd : d = some t
      · have h1 : b k = true := hb 0 d S rfl hd
        have h2 : md_looked looks d = true := by rw [hd]; exact ht
        rw [if_pos h1, if_pos h2, hd, md_put_at, md_put_at, h]
      · split <;> split <;> simp only [md_put_off _ _ _ _ hd, h]
    · have := hb (i + 1) d' S' (by simpa using hi) hd
      rwa [show k + (i + 1) = k + 1 + i by omega] at this

theorem md_slot_off {b : Nat → Bool} {vals : Nat → Value} {t : Tmp} : ∀ (l : MList) (k : Nat) (A : Act), (∀ (i : Nat) (d : Option Tmp) (S : MWord), l[i]? = some (d, S) → d ≠ some t) → (md_putIf b vals l k A).tmps[t]? = A.tmps[t]?
  | [], _, _, _ => rfl
  | (d, S) :: r, k, A, hd => by
    unfold md_putIf
    rw [md_slot_off r (k + 1) _ fun i d' S' hi => hd (i + 1) d' S' (by simpa using hi)]
    split
    · exact md_put_off _ _ _ _ (hd 0 d S rfl)
    · rfl

theorem md_putIf_append {b : Nat → Bool} {vals : Nat → Value} : ∀ (l m : MList) (k : Nat) (A : Act), md_putIf b vals (l ++ m) k A = md_putIf b vals m (k + l.length) (md_putIf b vals l k A)
  | [], m, k, A => rfl
  | (d, S) :: r, m, k, A => by
    simp only [List.cons_append, md_putIf, List.length_cons]
    rw [md_putIf_append r m (k + 1), show k + 1 + r.length = k + (r.length + 1) by omega]

theorem md_putIf_congr {b b' : Nat → Bool} {vals vals' : Nat → Value} : ∀ (l : MList) (k : Nat) (A : Act), (∀ i, k ≤ i → b i = b' i) → (∀ i, k ≤ i → vals i = vals' i) → md_putIf b vals l k A = md_putIf b' vals' l k A
  | [], _, _, _, _ => rfl
  | (d, S) :: r, k, A, hb, hv => by
    unfold md_putIf
    rw [hb k (Nat.le_refl _), hv k (Nat.le_refl _)]
    exact md_putIf_congr r (k + 1) _ (fun i hi => hb i (by omega)) (fun i hi => hv i (by omega))

theorem md_putIf_put {b : Nat → Bool} {vals : Nat → Value} (e : Option Tmp) (v : Value) : ∀ (l : MList) (k : Nat) (A : Act), (∀ (i : Nat) (d : Option Tmp) (S : MWord), l[i]? = some (d, S) → ∀ t, e = some t → d ≠ some t) →
    (md_putIf b vals l k A).put e v = md_putIf b vals l k (A.put e v)
  | [], _, _, _ => rfl
  | (d, S) :: r, k, A, hd => by
    unfold md_putIf
    rw [md_putIf_put e v r (k + 1) _ fun i d' S' hi => hd (i + 1) d' S' (by simpa using hi)]
    congr 1
    split
    · exact (Act.put_comm A v (vals k) (fun t ht => hd 0 d S rfl t ht)).symm
    · rfl

/-- One more is put. -/
theorem md_putIf_set {b : Nat → Bool} {vals : Nat → Value} {v : Value} {j : Nat} {e : Option Tmp} : ∀ (l : MList) (k : Nat) (A : Act), k ≤ j → (∃ S, l[j - k]? = some (e, S)) → b j = false →
    (∀ (i : Nat) (d : Option Tmp) (S : MWord), l[i]? = some (d, S) → k + i ≠ j → ∀ t, e = some t → d ≠ some t) →
    (md_putIf b vals l k A).put e v = md_putIf (fun i => if i = j then true else b i) (fun i => if i = j then v else vals i) l k A
  | [], _, _, _, ⟨S, h⟩, _, _ => by simp at h
  | (d, S) :: r, k, A, hk, hj, hb, hd => by
    by_cases hkj : k = j
    · subst hkj
      obtain ⟨S', hS⟩ := hj
      simp only [Nat.sub_self, List.getElem?_cons_zero, Option.some.injEq, Prod.mk.injEq] at hS
      unfold md_putIf
      simp only [hb, Bool.false_eq_true, if_false, if_true, hS.1]
      rw [md_putIf_put e v r (k + 1) A fun i d' S' hi => hd (i + 1) d' S' (by simpa using hi) (by omega)]
      exact md_putIf_congr r (k + 1) _ (fun i hi => by simp [show i ≠ k by omega]) (fun i hi => by simp [show i ≠ k by omega])
    · unfold md_putIf
      simp only [hkj, if_false]
      refine md_putIf_set r (k + 1) _ (by omega) ?_ hb fun i d' S' hi hne => hd (i + 1) d' S' (by simpa using hi) (by omega)
      obtain ⟨S', hS⟩ := hj
      rw [show j - k = (j - (k + 1)) + 1 by omega] at hS
      exact ⟨S', by simpa using hS⟩

/-! ### What is checked of a region -/

/-- Who looks at a value comes behind who made it, and waits for it; two operations make two slots. -/
def Region.mdApartB (ops : Array Oper) (n : Nat) : Bool :=
  (List.range n).all fun j => match ops[j]? with
    | none => false
    | some oj => (oj.after.all fun e => !Region.binds .any e || decide (e.on < j)) && (List.range n).all fun i => match ops[i]? with
      | none => false
      | some oi => match oi.dst with
        | none => true
        | some t => (!(oj.looksAt ops).contains t || (decide (i < j) && Region.waitsFor .any ops j i)) && (i == j || oj.dst != some t)

def Region.mdTailB (ops : Array Oper) (n : Nat) : Bool :=
  if n = ops.size then true else decide (n < ops.size) && Region.sinkB .any ops n && Region.chainB .any ops n

def Region.mildB (ops : Array Oper) (n : Nat) : Bool :=
  Region.noSelect ops && decide (n ≤ ops.size) && Region.mdApartB ops n && Region.mdTailB ops n && Region.seqB .any ops (ops.size - n) n (Array.replicate n true ++ Array.replicate (ops.size - n) false)

/-- How many of the first are still to come. -/
def md_toCome (listed : Array Bool) : Nat → Nat
  | 0 => 0
  | k + 1 => md_toCome listed k + if listed.getD k false then 0 else 1

theorem md_toCome_set_ge {listed : Array Bool} {i : Nat} : ∀ m, m ≤ i → md_toCome (listed.setIfInBounds i true) m = md_toCome listed m
  | 0, _ => rfl
  | k + 1, h => by
    have h1 : i ≠ k := by omega
    simp only [md_toCome, getD_set_ne (listed := listed) false h1]
    rw [md_toCome_set_ge k (by omega)]

theorem md_getD_set_self {listed : Array Bool} {i : Nat} (h : i < listed.size) : (listed.setIfInBounds i true).getD i false = true := by simp [h]

theorem md_toCome_set {listed : Array Bool} {i : Nat} (hi : i < listed.size) (hun : listed.getD i false = false) : ∀ m, i < m → md_toCome (listed.setIfInBounds i true) m + 1 = md_toCome listed m
  | 0, h => by omega
  | k + 1, h => by
    by_cases hik : i = k
    · subst hik
      simp only [md_toCome, md_toCome_set_ge i (Nat.le_refl _), md_getD_set_self hi, hun]
      simp
    · have := md_toCome_set hi hun k (by omega)
      simp only [md_toCome, getD_set_ne (listed := listed) false hik]
      omega

theorem md_toCome_zero {listed : Array Bool} : ∀ m, md_toCome listed m = 0 → ∀ i, i < m → listed.getD i false = true
  | 0, _, i, h => by omega
  | k + 1, h0, i, h => by
    simp only [md_toCome] at h0
    have h1 : listed.getD k false = true := by
      cases hc : listed.getD k false with
      | true => rfl
      | false => simp [hc] at h0
    rcases Nat.lt_or_eq_of_le (Nat.lt_succ_iff.1 h) with h2 | rfl
    · exact md_toCome_zero k (by omega) i h2
    · exact h1

theorem md_toCome_pos {listed : Array Bool} : ∀ m, 0 < md_toCome listed m → ∃ i, i < m ∧ listed.getD i false = false ∧ ∀ k, k < i → listed.getD k false = true
  | 0, h => by simp [md_toCome] at h
  | k + 1, h => by
    by_cases h0 : 0 < md_toCome listed k
    · obtain ⟨i, h1, h2, h3⟩ := md_toCome_pos k h0
      exact ⟨i, by omega, h2, h3⟩
    · have hz : md_toCome listed k = 0 := by omega
      refine ⟨k, by omega, ?_, md_toCome_zero k hz⟩
      simp only [md_toCome, hz] at h
      cases hc : listed.getD k false with
      | true => simp [hc] at h
      | false => rfl

theorem md_apartB_edge {n j : Nat} {oj : Oper} (h : Region.mdApartB ops n = true) (hj : j < n) (ho : ops[j]? = some oj) : ∀ e ∈ oj.after, Region.binds .any e = true → e.on < j := by
  intro e he hb
  have h1 := List.all_eq_true.1 h j (List.mem_range.2 hj)
  simp only [ho, Bool.and_eq_true] at h1
  have h2 := Array.all_eq_true_iff_forall_mem.1 h1.1 e he
  simpa [hb] using h2

theorem md_apartB_pair {n i j : Nat} {oi oj : Oper} {t : Tmp} (h : Region.mdApartB ops n = true) (hj : j < n) (hi : i < n) (hoj : ops[j]? = some oj) (hoi : ops[i]? = some oi) (hd : oi.dst = some t) :
    ((oj.looksAt ops).contains t = true → i < j ∧ Region.waitsFor .any ops j i = true) ∧ (i ≠ j → oj.dst ≠ some t) := by
  have h1 := List.all_eq_true.1 h j (List.mem_range.2 hj)
  simp only [hoj, Bool.and_eq_true] at h1
  have h2 := List.all_eq_true.1 h1.2 i (List.mem_range.2 hi)
  simp only [hoi, hd, Bool.and_eq_true] at h2
  refine ⟨fun hl => ?_, fun hne => ?_⟩
  · have := h2.1
    rw [hl] at this
    simpa using this
  · have := h2.2
    simpa [hne] using this

theorem mild_ready_lt {n : Nat} {listed : Array Bool} (ht : Region.mdTailB ops n = true) (inv : HeadInv .any ops n listed) (hp : 0 < md_toCome listed n) :
    ∀ j ∈ Region.ready .any ops listed, j < n := by
  intro j hj
  obtain ⟨i, hi, hun, _⟩ := md_toCome_pos n hp
  unfold Region.mdTailB at ht
  split at ht
  · rename_i he
    obtain ⟨_, o, ho, _⟩ := mem_ready.1 hj
    have := (Array.getElem?_eq_some_iff.1 ho).1
    omega
  · simp only [Bool.and_eq_true, decide_eq_true_eq] at ht
    rcases Nat.lt_or_ge j n with h | h
    · exact h
    · exact absurd hj (tail_waits ht.1.2 ht.2 ht.1.1 inv _ i rfl hi (getD_in (by rw [inv.size]; omega) hun) j h)

theorem mild_done {n : Nat} {listed : Array Bool} (inv : HeadInv .any ops n listed) (hn : n ≤ ops.size) (hz : md_toCome listed n = 0) :
    listed = Array.replicate n true ++ Array.replicate (ops.size - n) false := by
  have hs := inv.size
  apply Array.ext
  · simp [hs]; omega
  · intro i h1 h2
    rw [Array.getElem_append]
    split
    · rename_i h3
      have h4 : i < n := by simpa using h3
      have := md_toCome_zero n hz i h4
      simpa [h1] using this
    · rename_i h3
      have h4 : n ≤ i := by simpa using h3
      have := inv.tail i h4 (by omega)
      simpa [h1] using this

theorem Oper.wp_of_mild {o : Oper} {a : Act} {K' : Act → World → Prop} {Q' : Exit → Act → World → Prop} {w : World} {S : MWord}
    (h : ∀ v w', Below w.heap.size w w' → S v w' → K' (a.put o.dst v) w') (hh : Oper.mildUpon P w S ((execOp a.eval o).run P w)) : o.wp P a w K' Q' := by
  unfold Oper.wp
  generalize (execOp a.eval o).run P w = r at *
  cases r with
  | ok n w' =>
    cases n <;> simp only [Oper.mildUpon] at hh <;> simp only [Oper.upon]
    case value u => exact h _ _ hh.1 hh.2
    case skip => exact h _ _ hh.1 hh.2
    case enter f args =>
      exact hh.2.mono fun e w'' ⟨v, he, hb, hs⟩ => by subst he; exact h _ _ (hh.1.trans (hb.mono hh.1.size)) hs
  | halt x w' => simp only [Oper.mildUpon] at hh

theorem mild_any {n g : Nat} {w0 : World} {a : Act} {TT : MList} {Q : Exit → Act → World → Prop} (hsel : Region.noSelect ops = true) (hn : n ≤ ops.size) (hap : Region.mdApartB ops n = true) (htl : Region.mdTailB ops n = true)
    (hlen : TT.length = n)
    (hTT : ∀ i o, i < n → ops[i]? = some o → ∃ S : MWord, TT[i]? = some (o.dst, S) ∧ S.Stays ∧ ∀ w, Below w0.heap.size w0 w → mildDeps (o.looksAt ops) (TT.take i) a w (fun a' => o.mildAt P ops a' w S))
    (hF : ∀ vals w, Below w0.heap.size w0 w → (∀ (i : Nat) (d : Option Tmp) (S : MWord), TT[i]? = some (d, S) → S (vals i) w) →
      wpAny P .any ops Q g (Array.replicate n true ++ Array.replicate (ops.size - n) false) (md_putIf (fun _ => true) vals TT 0 a) w) :
    ∀ (f : Nat) (listed : Array Bool) (vals : Nat → Value) (w : World), HeadInv .any ops n listed → md_toCome listed n = f → Below w0.heap.size w0 w →
      (∀ (i : Nat) (d : Option Tmp) (S : MWord), TT[i]? = some (d, S) → listed.getD i false = true → S (vals i) w) → wpAny P .any ops Q (f + g) listed (md_putIf (fun i => listed.getD i false) vals TT 0 a) w := by
  intro f
  induction f with
  | zero =>
    intro listed vals w inv hf hw hv
    have hd := mild_done inv hn hf
    have hall := md_toCome_zero n hf
    have hlt : ∀ (i : Nat) (d : Option Tmp) (S : MWord), TT[i]? = some (d, S) → i < n := fun i d S h => by rw [← hlen]; exact (List.getElem?_eq_some_iff.1 h).1
    have h1 := hF vals w hw fun i d S h => hv i d S h (hall i (hlt i d S h))
    rw [Nat.zero_add]
    rw [← hd] at h1
    have h2 : ∀ (l : MList) (k : Nat) (A : Act), k + l.length ≤ n → md_putIf (fun _ => true) vals l k A = md_putIf (fun i => listed.getD i false) vals l k A := by
      intro l
      induction l with
      | nil => intro k A _; rfl
      | cons x r ih =>
        intro k A hk
        obtain ⟨d, S⟩ := x
        simp only [List.length_cons] at hk
        simp only [md_putIf, hall k (by omega), if_true]
        exact ih (k + 1) _ (by omega)
    rw [← h2 TT 0 a (by omega)]
    exact h1
  | succ f ih =>
    intro listed vals w inv hf hw hv
    have hp : 0 < md_toCome listed n := by omega
    rw [show f + 1 + g = (f + g) + 1 by omega]
    refine ⟨fun h0 => ?_, fun j hj => ?_⟩
    · exfalso
      obtain ⟨i, hi, hun, hbelow⟩ := md_toCome_pos n hp
      have hio : i < ops.size := by omega
      have : i ∈ Region.ready .any ops listed := mem_ready.2 ⟨getD_in (by rw [inv.size]; exact hio) hun, ops[i], by simp [hio], fun e he hb => hbelow _ (md_apartB_edge hap hi (by simp [hio]) e he hb)⟩
      rw [h0] at this
      cases this
    · have hjn := mild_ready_lt htl inv hp j hj
      obtain ⟨hjun, oj, hoj, hall⟩ := mem_ready.1 hj
      have hjs : j < listed.size := by rw [inv.size]; omega
      obtain ⟨S, hS, hst, hob⟩ := hTT j oj hjn hoj
      have hdeps : ∀ (i : Nat) (d : Option Tmp) (S' : MWord), TT[i]? = some (d, S') → md_looked (oj.looksAt ops) d = true → i < j ∧ listed.getD i false = true := fun i d S' hi hl => by
        have hin : i < n := by rw [← hlen]; exact (List.getElem?_eq_some_iff.1 hi).1
        have hio : i < ops.size := by omega
        obtain ⟨Si, h1, _⟩ := hTT i ops[i] hin (by simp [hio])
        have h2 : ops[i].dst = d := by rw [h1] at hi; exact (Prod.mk.inj (Option.some.inj hi)).1
        cases d with
        | none => cases hl
        | some t =>
          have h3 := (md_apartB_pair hap hjn hin hoj (by simp [hio]) h2).1 hl
          obtain ⟨o', ho', e, he, hb, hon⟩ := Region.waitsFor_spec h3.2
          have : o' = oj := Option.some.inj (ho'.symm.trans hoj)
          subst this
          exact ⟨h3.1, hon ▸ hall e he hb⟩
      have hm := mildDeps_use (vals := vals) (TT.take j) 0 a (hob w hw) fun i d S' hi hl => by
        rw [List.getElem?_take] at hi
        split at hi
        · rw [Nat.zero_add]; exact hv i d S' hi (hdeps i d S' hi hl).2
        · cases hi
      have hslot : ∀ t, (oj.looksAt ops).contains t = true → (md_putIf (fun i => listed.getD i false) vals TT 0 a).tmps[t]? = (md_putDep (oj.looksAt ops) vals (TT.take j) 0 a).tmps[t]? := fun t ht => by
        conv => lhs; rw [← List.take_append_drop j TT, md_putIf_append]
        rw [md_slot_off (TT.drop j)]
        · refine md_slot_dep ht (TT.take j) 0 a a rfl fun i d S' hi hd => ?_
          rw [List.getElem?_take] at hi
          split at hi
          · rw [Nat.zero_add]; exact (hdeps i d S' hi (by rw [hd]; exact ht)).2
          · cases hi
        · intro i d S' hi hd
          rw [List.getElem?_drop] at hi
          have := (hdeps (j + i) d S' hi (by rw [hd]; exact ht)).1
          omega
      have hexec : execOp (md_putIf (fun i => listed.getD i false) vals TT 0 a).eval oj = execOp (md_putDep (oj.looksAt ops) vals (TT.take j) 0 a).eval oj :=
        execOp_congr oj (fun cs b => Region.noSelect_spec hsel j oj cs b hoj) fun x hx => by
          cases x with
          | tmp t =>
            have := hslot t (by
              rw [List.contains_iff_mem]
              exact List.mem_append_left _ (List.mem_filterMap.2 ⟨.tmp t, by simpa using hx, rfl⟩))
            show Array.getD _ t undef = Array.getD _ t undef
            rw [Array.getD_eq_getD_getElem?, Array.getD_eq_getD_getElem?, this]
          | _ => rfl
      have hwant : Region.wanted oj (yielded ops (md_putIf (fun i => listed.getD i false) vals TT 0 a).tmps) = Region.wanted oj (yielded ops (md_putDep (oj.looksAt ops) vals (TT.take j) 0 a).tmps) := by
        unfold Region.wanted
        cases hg : oj.guard with
        | none => rfl
        | some gw =>
          obtain ⟨k, want⟩ := gw
          have hy : yielded ops (md_putIf (fun i => listed.getD i false) vals TT 0 a).tmps k = yielded ops (md_putDep (oj.looksAt ops) vals (TT.take j) 0 a).tmps k := by
            unfold yielded
            cases ht : (ops[k]?).bind (·.dst) with
            | none => rfl
            | some t =>
              have := hslot t (by
                rw [List.contains_iff_mem]
                simp [Oper.looksAt, hg, ht])
              simp only [Option.bind_some, this]
          simp only [hy]
      have hnext : ∀ v w', Below w.heap.size w w' → S v w' → wpAny P .any ops Q (f + g) (listed.setIfInBounds j true) ((md_putIf (fun i => listed.getD i false) vals TT 0 a).put oj.dst v) w' := fun v w' hb hs => by
        have hbs : (fun i => (listed.setIfInBounds j true).getD i false) = (fun i => if i = j then true else listed.getD i false) := by
          funext i
          by_cases hij : i = j
          · subst hij; rw [if_pos rfl, md_getD_set_self hjs]
          · rw [if_neg hij, getD_set_ne false (Ne.symm hij)]
        rw [md_putIf_set (v := v) (j := j) TT 0 a (Nat.zero_le _) ⟨S, by simpa using hS⟩ (getD_both hjun) (fun i d S' hi hne t ht hd => by
          have hin : i < n := by rw [← hlen]; exact (List.getElem?_eq_some_iff.1 hi).1
          have hio : i < ops.size := by omega
          obtain ⟨Si, h1, _⟩ := hTT i ops[i] hin (by simp [hio])
          have h2 : ops[i].dst = some t := by rw [h1] at hi; exact (Prod.mk.inj (Option.some.inj hi)).1.trans hd
          exact (md_apartB_pair hap hjn hin hoj (by simp [hio]) h2).2 (by omega) ht)]
        rw [← hbs]
        have hc : md_toCome (listed.setIfInBounds j true) n = f := by
          have := md_toCome_set hjs (getD_both hjun) n hjn
          omega
        refine ih _ _ w' (inv.set hj hjn) hc (hw.trans (hb.mono hw.size)) fun i d S' hi hl => ?_
        by_cases hij : i = j
        · subst hij
          have : S' = S := by rw [hS] at hi; exact ((Prod.mk.inj (Option.some.inj hi)).2).symm
          subst this
          simpa using hs
        · simp only [hij, if_false]
          rw [getD_set_ne false (Ne.symm hij)] at hl
          have hin : i < n := by rw [← hlen]; exact (List.getElem?_eq_some_iff.1 hi).1
          have hio : i < ops.size := by omega
          obtain ⟨Si, h1, h2, _⟩ := hTT i ops[i] hin (by simp [hio])
          have : S' = Si := by rw [h1] at hi; exact ((Prod.mk.inj (Option.some.inj hi)).2).symm
          subst this
          exact h2 _ _ _ (hv i d S' hi hl) hb
      unfold wpOp
      simp only [hoj]
      unfold Oper.mildAt at hm
      rw [← hwant, ← hexec] at hm
      split
      · rename_i hw1
        rw [if_pos hw1] at hm
        exact .inl (Oper.wp_of_mild hnext hm)
      · rename_i hw1
        rw [if_neg hw1] at hm
        exact hnext undef w (Below.refl _ _) hm

/-! ### The steps of the walk -/

def Oper.constUpon (w : World) (c : Value) : Result Next → Prop
  | .ok (.value u) w' => w' = w ∧ u = c
  | .ok .skip w' => w' = w ∧ undef = c
  | _ => False
def Oper.constAt (P : Program) (ops : Array Oper) (o : Oper) (a : Act) (w : World) (c : Value) : Prop :=
  if Region.wanted o (yielded ops a.tmps) then Oper.constUpon w c ((execOp a.eval o).run P w) else undef = c

def Oper.callUpon (P : Program) (w : World) (S : MWord) : Result Next → Prop
  | .ok (.enter f args) w' => w' = w ∧ Calls P f args w (fun e w'' => ∃ v, e = .returned v ∧ Below w.heap.size w w'' ∧ S v w'')
  | _ => False
def Oper.callAt (P : Program) (ops : Array Oper) (o : Oper) (a : Act) (w : World) (S : MWord) : Prop :=
  Region.wanted o (yielded ops a.tmps) = true ∧ Oper.callUpon P w S ((execOp a.eval o).run P w)

def Oper.valUpon (w : World) (S : MWord) : Result Next → Prop
  | .ok (.value u) w' => w' = w ∧ S u w
  | _ => False
def Oper.valAt (P : Program) (ops : Array Oper) (o : Oper) (a : Act) (w : World) (S : MWord) : Prop :=
  Region.wanted o (yielded ops a.tmps) = true ∧ Oper.valUpon w S ((execOp a.eval o).run P w)

theorem mildDeps_mono {looks : List Tmp} {w : World} {K K' : Act → Prop} (h : ∀ a, K a → K' a) : ∀ (l : MList) (a : Act), mildDeps looks l a w K → mildDeps looks l a w K'
  | [], a, hk => h a hk
  | (d, S) :: r, a, hk => by
    unfold mildDeps at hk ⊢
    split
    · rename_i hl
      rw [if_pos hl] at hk
      exact fun v hv => mildDeps_mono h r _ (hk v hv)
    · rename_i hl
      rw [if_neg hl] at hk
      exact mildDeps_mono h r _ hk

theorem Oper.mildAt_const {o : Oper} {a : Act} {w : World} {c : Value} (h : o.constAt P ops a w c) : o.mildAt P ops a w (fun v _ => v = c) := by
  unfold Oper.constAt at h
  unfold Oper.mildAt
  split
  · rename_i hw
    rw [if_pos hw] at h
    generalize (execOp a.eval o).run P w = r at *
    cases r with
    | ok n w' =>
      cases n <;> simp only [Oper.constUpon] at h <;> simp only [Oper.mildUpon]
      case value u => obtain ⟨rfl, h⟩ := h; exact ⟨Below.refl _ _, h⟩
      case skip => obtain ⟨rfl, h⟩ := h; exact ⟨Below.refl _ _, h⟩
    | halt x w' => simp only [Oper.constUpon] at h
  · rename_i hw
    rw [if_neg hw] at h
    exact h

theorem Oper.mildAt_call {o : Oper} {a : Act} {w : World} {S : MWord} (h : o.callAt P ops a w S) : o.mildAt P ops a w S := by
  unfold Oper.mildAt
  rw [if_pos h.1]
  have h := h.2
  generalize (execOp a.eval o).run P w = r at *
  cases r with
  | ok n w' =>
    cases n <;> simp only [Oper.callUpon] at h <;> simp only [Oper.mildUpon]
    case enter f args => obtain ⟨rfl, h⟩ := h; exact ⟨Below.refl _ _, h⟩
  | halt x w' => simp only [Oper.callUpon] at h

theorem Oper.mildAt_val {o : Oper} {a : Act} {w : World} {S : MWord} (h : o.valAt P ops a w S) : o.mildAt P ops a w S := by
  unfold Oper.mildAt
  rw [if_pos h.1]
  have h := h.2
  generalize (execOp a.eval o).run P w = r at *
  cases r with
  | ok n w' =>
    cases n <;> simp only [Oper.valUpon] at h <;> simp only [Oper.mildUpon]
    case value u => obtain ⟨rfl, h⟩ := h; exact ⟨Below.refl _ _, h⟩
  | halt x w' => simp only [Oper.valUpon] at h

theorem wpMild_const {w0 : World} {a : Act} {F : MList → Prop} {o : Oper} {l : List Oper} {SS : MList} {c : Value}
    (h1 : ∀ w, Below w0.heap.size w0 w → mildDeps (o.looksAt ops) SS a w (fun a' => o.constAt P ops a' w c)) (h2 : wpMild P ops w0 a F l (SS ++ [(o.dst, fun v _ => v = c)])) : wpMild P ops w0 a F (o :: l) SS :=
  ⟨_, fun w hw => mildDeps_mono (fun _ h => Oper.mildAt_const h) _ _ (h1 w hw), fun _ _ _ h _ => h, h2⟩

theorem wpMild_call {w0 : World} {a : Act} {F : MList → Prop} {o : Oper} {l : List Oper} {SS : MList} {S : MWord}
    (h1 : ∀ w, Below w0.heap.size w0 w → mildDeps (o.looksAt ops) SS a w (fun a' => o.callAt P ops a' w S)) (hs : S.Stays) (h2 : wpMild P ops w0 a F l (SS ++ [(o.dst, S)])) : wpMild P ops w0 a F (o :: l) SS :=
  ⟨_, fun w hw => mildDeps_mono (fun _ h => Oper.mildAt_call h) _ _ (h1 w hw), hs, h2⟩

theorem wpMild_val {w0 : World} {a : Act} {F : MList → Prop} {o : Oper} {l : List Oper} {SS : MList} (S : MWord)
    (h1 : ∀ w, Below w0.heap.size w0 w → mildDeps (o.looksAt ops) SS a w (fun a' => o.valAt P ops a' w S)) (hs : S.Stays) (h2 : wpMild P ops w0 a F l (SS ++ [(o.dst, S)])) : wpMild P ops w0 a F (o :: l) SS :=
  ⟨_, fun w hw => mildDeps_mono (fun _ h => Oper.mildAt_val h) _ _ (h1 w hw), hs, h2⟩

/-- An operation that makes memory. -/
theorem wpMild_some {w0 : World} {a : Act} {F : MList → Prop} {o : Oper} {l : List Oper} {SS : MList} (S : MWord)
    (h1 : ∀ w, Below w0.heap.size w0 w → mildDeps (o.looksAt ops) SS a w (fun a' => o.mildAt P ops a' w S)) (hs : S.Stays) (h2 : wpMild P ops w0 a F l (SS ++ [(o.dst, S)])) : wpMild P ops w0 a F (o :: l) SS :=
  ⟨_, h1, hs, h2⟩

/-- A contract whose value is known. -/
theorem Calls.mild {f : FuncId} {args : Array Value} {w : World} {c : Value} (h : Calls P f args w fun e w' => e = .returned c ∧ Below w.heap.size w w') :
    Calls P f args w fun e w' => ∃ v, e = .returned v ∧ Below w.heap.size w w' ∧ (fun v (_ : World) => v = c) v w' :=
  h.mono fun _ _ ⟨h1, h2⟩ => ⟨_, h1, h2, rfl⟩
theorem md_stays_eq (c : Value) : MWord.Stays fun v _ => v = c := fun _ _ _ h _ => h

/-- **One walk for all orders**, of a region that draws its order, whose first operations only read or make memory. -/
theorem wp_region_mild {id : Nat} {Q : Exit → Act → World → Prop} {a : Act} {w : World} {l : List Oper} (n : Nat) (hm : P.follows .mixedOrders = true) (hB : Region.mildB l.toArray n = true)
    (h : wpMild P l.toArray w a (fun SS => ∀ w', Below w.heap.size w w' → mildAll SS a w' (fun a' => wpList P l.toArray Q (l.drop n) a' w')) (l.take n) []) :
    (Code.region id l.toArray true).wp P Q a w := by
  simp only [Region.mildB, Bool.and_eq_true, decide_eq_true_eq] at hB
  obtain ⟨⟨⟨⟨hsel, hn⟩, hap⟩, htl⟩, hseq⟩ := hB
  have hsz : l.toArray.size = l.length := by simp
  obtain ⟨TT, hF, hlen, hTT⟩ := wpMild_out (l.take n) [] h
  have hlen' : TT.length = n := by rw [hlen]; simp; omega
  refine wp_region_any hm ?_
  have inv0 : HeadInv .any l.toArray n (Array.replicate l.toArray.size false) :=
    ⟨by simp, fun j oj _ hl => (by rw [getD_replicate_false] at hl; cases hl), fun t _ ht => getD_in (by simpa using ht) (getD_replicate_false _ _)⟩
  have hcount : ∀ m, md_toCome (Array.replicate l.toArray.size false) m = m := by
    intro m
    induction m with
    | zero => rfl
    | succ k ih => simp only [md_toCome, ih, getD_replicate_false]; simp
  have H := mild_any (Q := Q) (P := P) (g := l.toArray.size - n) (w0 := w) (a := a) (TT := TT) hsel hn hap htl hlen' (fun i o hi ho => by
      obtain ⟨S, h1, h2, h3⟩ := hTT i o (by
        rw [List.getElem?_take, if_pos hi]
        simpa using ho)
      exact ⟨S, h1, h2, by simpa using h3⟩)
    (fun vals w' hw' hv => by
      have h1 := hF w' hw'
      have h2 := mildAll_use (vals := vals) TT 0 a (by simpa using h1) (fun i d S hi => by rw [Nat.zero_add]; exact hv i d S hi)
      have := wpAny_of_seq (md := .any) (Q' := Q) (l.drop n) n _ _ w' (fun j => by simp [List.getElem?_drop]) (by simpa using hseq) h2
      simpa using this)
    n (Array.replicate l.toArray.size false) (fun _ => undef) { w with drawn := w.drawn + 1 } inv0 (hcount n) ⟨rfl, rfl, rfl, Nat.le_refl _, fun _ _ => rfl⟩ (fun i d S _ hl => by rw [getD_replicate_false] at hl; cases hl)
  rw [show n + (l.toArray.size - n) = l.toArray.size by omega] at H
  have h0 : ∀ (m : MList) (k : Nat) (A : Act), md_putIf (fun i => (Array.replicate l.toArray.size false).getD i false) (fun _ => undef) m k A = A := by
    intro m
    induction m with
    | nil => intro k A; rfl
    | cons x r ih => intro k A; obtain ⟨d, S⟩ := x; unfold md_putIf; rw [if_neg (by rw [getD_replicate_false]; simp)]; exact ih _ _
  rw [h0] at H
  exact H
end

attribute [go_sem] mildDeps mildAll md_looked Oper.looksAt Op.operands Call.operands Oper.constAt Oper.constUpon Oper.callAt Oper.callUpon Oper.valAt Oper.valUpon Oper.mildAt Oper.mildUpon

theorem wpMild_nil {P : Program} {ops : Array Oper} {w0 : World} {a : Act} {F : MList → Prop} {SS : MList} (h : F SS) : wpMild P ops w0 a F [] SS := h

end Go

/-
  REGIONS THAT DRAW THEIR ORDER AND MAKE SOME VARIABLES: as in Mild; and the blocks of those operations that are told to be fresh are unlike.
-/
open Go.RowKit
namespace Go

/-- A block that was made from lo on, and holds this. -/
def MWord.blk (lo : Nat) (o : Obj) : MWord := fun v w => ∃ c, v = .pointer (some ⟨c, 0, none⟩) ∧ lo ≤ c ∧ w.heap[c]? = some o
theorem MWord.blk_at {lo c : Nat} {o : Obj} {w : World} : MWord.blk lo o (.pointer (some ⟨c, 0, none⟩)) w ↔ lo ≤ c ∧ w.heap[c]? = some o := by
  constructor
  · rintro ⟨d, h1, h2⟩
    cases h1
    exact h2
  · exact fun h => ⟨c, rfl, h⟩
theorem md_heap_lt {w : World} {c : Nat} {o : Obj} (h : w.heap[c]? = some o) : c < w.heap.size := (Array.getElem?_eq_some_iff.1 h).1
theorem MWord.blk_stays (lo : Nat) (o : Obj) : (MWord.blk lo o).Stays := fun _ _ _ ⟨c, h1, h2, h3⟩ hb => ⟨c, h1, h2, (hb.block c (md_heap_lt h3)).trans h3⟩

def md_unlike (w : World) (v : Value) : Prop := ∀ c, v = .pointer (some ⟨c, 0, none⟩) → w.heap.size ≤ c
def md_ptr (S : MWord) : Prop := ∀ v w, S v w → ∃ c, v = .pointer (some ⟨c, 0, none⟩) ∧ c < w.heap.size
theorem MWord.blk_ptr (lo : Nat) (o : Obj) : md_ptr (MWord.blk lo o) := fun _ _ ⟨c, h1, _, h3⟩ => ⟨c, h1, md_heap_lt h3⟩

section
variable {P : Program} {ops : Array Oper}

theorem mild_anyF {n g : Nat} {fr : Nat → Bool} {w0 : World} {a : Act} {TT : MList} {Q : Exit → Act → World → Prop} (hsel : Region.noSelect ops = true) (hn : n ≤ ops.size) (hap : Region.mdApartB ops n = true) (htl : Region.mdTailB ops n = true)
    (hlen : TT.length = n)
    (hTT : ∀ i o, i < n → ops[i]? = some o → ∃ S : MWord, TT[i]? = some (o.dst, S) ∧ S.Stays ∧ (fr i = true → md_ptr S) ∧ ∀ w, Below w0.heap.size w0 w → mildDeps (o.looksAt ops) (TT.take i) a w (fun a' => o.mildAt P ops a' w (fun v w' => S v w' ∧ (fr i = true → md_unlike w v))))
    (hF : ∀ vals w, Below w0.heap.size w0 w → (∀ (i : Nat) (d : Option Tmp) (S : MWord), TT[i]? = some (d, S) → S (vals i) w) →
      (∀ i j, i < n → j < n → i ≠ j → fr i = true → fr j = true → vals i ≠ vals j) →
      wpAny P .any ops Q g (Array.replicate n true ++ Array.replicate (ops.size - n) false) (md_putIf (fun _ => true) vals TT 0 a) w) :
    ∀ (f : Nat) (listed : Array Bool) (vals : Nat → Value) (w : World), HeadInv .any ops n listed → md_toCome listed n = f → Below w0.heap.size w0 w →
      (∀ (i : Nat) (d : Option Tmp) (S : MWord), TT[i]? = some (d, S) → listed.getD i false = true → S (vals i) w) →
      (∀ i j, i < n → j < n → i ≠ j → fr i = true → fr j = true → listed.getD i false = true → listed.getD j false = true → vals i ≠ vals j) → wpAny P .any ops Q (f + g) listed (md_putIf (fun i => listed.getD i false) vals TT 0 a) w := by
  intro f
  induction f with
  | zero =>
    intro listed vals w inv hf hw hv hu
    have hd := mild_done inv hn hf
    have hall := md_toCome_zero n hf
    have hlt : ∀ (i : Nat) (d : Option Tmp) (S : MWord), TT[i]? = some (d, S) → i < n := fun i d S h => by rw [← hlen]; exact (List.getElem?_eq_some_iff.1 h).1
    have h1 := hF vals w hw fun i d S h => hv i d S h (hall i (hlt i d S h))
    replace h1 := h1 fun i j hi hj hij h2 h3 => hu i j hi hj hij h2 h3 (hall i hi) (hall j hj)
    rw [Nat.zero_add]
    rw [← hd] at h1
    have h2 : ∀ (l : MList) (k : Nat) (A : Act), k + l.length ≤ n → md_putIf (fun _ => true) vals l k A = md_putIf (fun i => listed.getD i false) vals l k A := by
      intro l
      induction l with
      | nil => intro k A _; rfl
      | cons x r ih =>
        intro k A hk
        obtain ⟨d, S⟩ := x
        simp only [List.length_cons] at hk
        simp only [md_putIf, hall k (by omega), if_true]
        exact ih (k + 1) _ (by omega)
    rw [← h2 TT 0 a (by omega)]
    exact h1
  | succ f ih =>
    intro listed vals w inv hf hw hv hu
    have hp : 0 < md_toCome listed n := by omega
    rw [show f + 1 + g = (f + g) + 1 by omega]
    refine ⟨fun h0 => ?_, fun j hj => ?_⟩
    · exfalso
      obtain ⟨i, hi, hun, hbelow⟩ := md_toCome_pos n hp
      have hio : i < ops.size := by omega
      have : i ∈ Region.ready .any ops listed := mem_ready.2 ⟨getD_in (by rw [inv.size]; exact hio) hun, ops[i], by simp [hio], fun e he hb => hbelow _ (md_apartB_edge hap hi (by simp [hio]) e he hb)⟩
      rw [h0] at this
      cases this
    · have hjn := mild_ready_lt htl inv hp j hj
      obtain ⟨hjun, oj, hoj, hall⟩ := mem_ready.1 hj
      have hjs : j < listed.size := by rw [inv.size]; omega
      obtain ⟨S, hS, hst, hpt, hob⟩ := hTT j oj hjn hoj
      have hdeps : ∀ (i : Nat) (d : Option Tmp) (S' : MWord), TT[i]? = some (d, S') → md_looked (oj.looksAt ops) d = true → i < j ∧ listed.getD i false = true := fun i d S' hi hl => by
        have hin : i < n := by rw [← hlen]; exact (List.getElem?_eq_some_iff.1 hi).1
        have hio : i < ops.size := by omega
        obtain ⟨Si, h1, _⟩ := hTT i ops[i] hin (by simp [hio])
        have h2 : ops[i].dst = d := by rw [h1] at hi; exact (Prod.mk.inj (Option.some.inj hi)).1
        cases d with
        | none => cases hl
        | some t =>
          have h3 := (md_apartB_pair hap hjn hin hoj (by simp [hio]) h2).1 hl
          obtain ⟨o', ho', e, he, hb, hon⟩ := Region.waitsFor_spec h3.2
          have : o' = oj := Option.some.inj (ho'.symm.trans hoj)
          subst this
          exact ⟨h3.1, hon ▸ hall e he hb⟩
      have hm := mildDeps_use (vals := vals) (TT.take j) 0 a (hob w hw) fun i d S' hi hl => by
        rw [List.getElem?_take] at hi
        split at hi
        · rw [Nat.zero_add]; exact hv i d S' hi (hdeps i d S' hi hl).2
        · cases hi
      have hslot : ∀ t, (oj.looksAt ops).contains t = true → (md_putIf (fun i => listed.getD i false) vals TT 0 a).tmps[t]? = (md_putDep (oj.looksAt ops) vals (TT.take j) 0 a).tmps[t]? := fun t ht => by
        conv => lhs; rw [← List.take_append_drop j TT, md_putIf_append]
        rw [md_slot_off (TT.drop j)]
        · refine md_slot_dep ht (TT.take j) 0 a a rfl fun i d S' hi hd => ?_
          rw [List.getElem?_take] at hi
          split at hi
          · rw [Nat.zero_add]; exact (hdeps i d S' hi (by rw [hd]; exact ht)).2
          · cases hi
        · intro i d S' hi hd
          rw [List.getElem?_drop] at hi
          have := (hdeps (j + i) d S' hi (by rw [hd]; exact ht)).1
          omega
      have hexec : execOp (md_putIf (fun i => listed.getD i false) vals TT 0 a).eval oj = execOp (md_putDep (oj.looksAt ops) vals (TT.take j) 0 a).eval oj :=
        execOp_congr oj (fun cs b => Region.noSelect_spec hsel j oj cs b hoj) fun x hx => by
          cases x with
          | tmp t =>
            have := hslot t (by
              rw [List.contains_iff_mem]
              exact List.mem_append_left _ (List.mem_filterMap.2 ⟨.tmp t, by simpa using hx, rfl⟩))
            show Array.getD _ t undef = Array.getD _ t undef
            rw [Array.getD_eq_getD_getElem?, Array.getD_eq_getD_getElem?, this]
          | _ => rfl
      have hwant : Region.wanted oj (yielded ops (md_putIf (fun i => listed.getD i false) vals TT 0 a).tmps) = Region.wanted oj (yielded ops (md_putDep (oj.looksAt ops) vals (TT.take j) 0 a).tmps) := by
        unfold Region.wanted
        cases hg : oj.guard with
        | none => rfl
        | some gw =>
          obtain ⟨k, want⟩ := gw
          have hy : yielded ops (md_putIf (fun i => listed.getD i false) vals TT 0 a).tmps k = yielded ops (md_putDep (oj.looksAt ops) vals (TT.take j) 0 a).tmps k := by
            unfold yielded
            cases ht : (ops[k]?).bind (·.dst) with
            | none => rfl
            | some t =>
              have := hslot t (by
                rw [List.contains_iff_mem]
                simp [Oper.looksAt, hg, ht])
              simp only [Option.bind_some, this]
          simp only [hy]
      have hnext : ∀ v w', Below w.heap.size w w' → (S v w' ∧ (fr j = true → md_unlike w v)) → wpAny P .any ops Q (f + g) (listed.setIfInBounds j true) ((md_putIf (fun i => listed.getD i false) vals TT 0 a).put oj.dst v) w' := fun v w' hb ⟨hs, hun⟩ => by
        have hbs : (fun i => (listed.setIfInBounds j true).getD i false) = (fun i => if i = j then true else listed.getD i false) := by
          funext i
          by_cases hij : i = j
          · subst hij; rw [if_pos rfl, md_getD_set_self hjs]
          · rw [if_neg hij, getD_set_ne false (Ne.symm hij)]
        rw [md_putIf_set (v := v) (j := j) TT 0 a (Nat.zero_le _) ⟨S, by simpa using hS⟩ (getD_both hjun) (fun i d S' hi hne t ht hd => by
          have hin : i < n := by rw [← hlen]; exact (List.getElem?_eq_some_iff.1 hi).1
          have hio : i < ops.size := by omega
          obtain ⟨Si, h1, _⟩ := hTT i ops[i] hin (by simp [hio])
          have h2 : ops[i].dst = some t := by rw [h1] at hi; exact (Prod.mk.inj (Option.some.inj hi)).1.trans hd
          exact (md_apartB_pair hap hjn hin hoj (by simp [hio]) h2).2 (by omega) ht)]
        rw [← hbs]
        have hc : md_toCome (listed.setIfInBounds j true) n = f := by
          have := md_toCome_set hjs (getD_both hjun) n hjn
          omega
        refine ih _ _ w' (inv.set hj hjn) hc (hw.trans (hb.mono hw.size)) (fun i d S' hi hl => ?_) (fun i k hi hk hik hfi hfk hli hlk => ?_)
        case refine_2 =>
          have key : ∀ k, k < n → k ≠ j → fr k = true → fr j = true → (listed.setIfInBounds j true).getD k false = true → vals k ≠ v := fun k hk hkj hfk hfj hlk he => by
            rw [getD_set_ne false (Ne.symm hkj)] at hlk
            obtain ⟨Sk, h1, _, h3, _⟩ := hTT k ops[k] hk (by simp [show k < ops.size by omega])
            obtain ⟨c, h4, h5⟩ := h3 hfk _ _ (hv k _ Sk h1 hlk)
            have := hun hfj c (by rw [← he, h4])
            omega
          by_cases h1 : i = j
          · subst h1
            simp only [if_true, if_neg (Ne.symm hik)]
            exact fun he => key k hk (Ne.symm hik) hfk hfi hlk he.symm
          · by_cases h2 : k = j
            · subst h2
              simp only [if_true, if_neg h1]
              exact key i hi h1 hfi hfk hli
            · simp only [if_neg h1, if_neg h2]
              rw [getD_set_ne false (Ne.symm h1)] at hli
              rw [getD_set_ne false (Ne.symm h2)] at hlk
              exact hu i k hi hk hik hfi hfk hli hlk
        by_cases hij : i = j
        · subst hij
          have : S' = S := by rw [hS] at hi; exact ((Prod.mk.inj (Option.some.inj hi)).2).symm
          subst this
          simpa using hs
        · simp only [hij, if_false]
          rw [getD_set_ne false (Ne.symm hij)] at hl
          have hin : i < n := by rw [← hlen]; exact (List.getElem?_eq_some_iff.1 hi).1
          have hio : i < ops.size := by omega
          obtain ⟨Si, h1, h2, _⟩ := hTT i ops[i] hin (by simp [hio])
          have : S' = Si := by rw [h1] at hi; exact ((Prod.mk.inj (Option.some.inj hi)).2).symm
          subst this
          exact h2 _ _ _ (hv i d S' hi hl) hb
      unfold wpOp
      simp only [hoj]
      unfold Oper.mildAt at hm
      rw [← hwant, ← hexec] at hm
      split
      · rename_i hw1
        rw [if_pos hw1] at hm
        exact .inl (Oper.wp_of_mild hnext hm)
      · rename_i hw1
        rw [if_neg hw1] at hm
        exact hnext undef w (Below.refl _ _) hm


def Oper.newUpon (w : World) (o : Obj) : Result Next → Prop
  | .ok (.value u) w' => w' = w.alloc o ∧ u = .pointer (some ⟨w.heap.size, 0, none⟩)
  | _ => False
def Oper.newAt (P : Program) (ops : Array Oper) (o : Oper) (a : Act) (w : World) (x : Obj) : Prop :=
  Region.wanted o (yielded ops a.tmps) = true ∧ Oper.newUpon w x ((execOp a.eval o).run P w)

theorem Oper.mildAt_new {o : Oper} {a : Act} {w : World} {x : Obj} {lo : Nat} (hlo : lo ≤ w.heap.size) (h : o.newAt P ops a w x) : o.mildAt P ops a w (fun v w' => MWord.blk lo x v w' ∧ md_unlike w v) := by
  unfold Oper.mildAt
  rw [if_pos h.1]
  have h := h.2
  generalize (execOp a.eval o).run P w = r at *
  cases r with
  | ok n w' =>
    cases n <;> simp only [Oper.newUpon] at h <;> simp only [Oper.mildUpon]
    case value u =>
      obtain ⟨rfl, rfl⟩ := h
      refine ⟨(Below.refl _ _).alloc (Nat.le_refl _) _, ⟨_, rfl, hlo, ?_⟩, fun c hc => ?_⟩
      · show (w.heap.push x)[w.heap.size]? = _
        simp
      · cases hc
        exact Nat.le_refl _
  | halt x w' => simp only [Oper.newUpon] at h

/-- The walk: true stands at those that are fresh. -/
def wpMildF (P : Program) (ops : Array Oper) (w0 : World) (a : Act) (F : MList → Prop) : List Bool → List Oper → MList → Prop
  | _, [], SS => F SS
  | [], _ :: _, _ => False
  | false :: fs, o :: l, SS => ∃ S : MWord, (∀ w, Below w0.heap.size w0 w → mildDeps (o.looksAt ops) SS a w (fun a' => o.mildAt P ops a' w S)) ∧ S.Stays ∧ wpMildF P ops w0 a F fs l (SS ++ [(o.dst, S)])
  | true :: fs, o :: l, SS => ∃ x : Obj, (∀ w, Below w0.heap.size w0 w → mildDeps (o.looksAt ops) SS a w (fun a' => o.newAt P ops a' w x)) ∧ wpMildF P ops w0 a F fs l (SS ++ [(o.dst, MWord.blk w0.heap.size x)])

theorem wpMildF_out {w0 : World} {a : Act} {F : MList → Prop} : ∀ (FR : List Bool) (l : List Oper) (SS : MList), wpMildF P ops w0 a F FR l SS →
    ∃ TT : MList, F (SS ++ TT) ∧ TT.length = l.length ∧ ∀ i o, l[i]? = some o → ∃ S : MWord, TT[i]? = some (o.dst, S) ∧ S.Stays ∧ (FR.getD i false = true → md_ptr S) ∧
      ∀ w, Below w0.heap.size w0 w → mildDeps (o.looksAt ops) ((SS ++ TT).take (SS.length + i)) a w (fun a' => o.mildAt P ops a' w (fun v w' => S v w' ∧ (FR.getD i false = true → md_unlike w v)))
  | FR, [], SS, h => ⟨[], by rw [List.append_nil]; cases FR <;> exact h, rfl, fun i o hi => by simp at hi⟩
  | [], _ :: _, _, h => h.elim
  | f :: fs, o :: l, SS, h => by
    have H : ∃ S : MWord, S.Stays ∧ (f = true → md_ptr S) ∧ (∀ w, Below w0.heap.size w0 w → mildDeps (o.looksAt ops) SS a w (fun a' => o.mildAt P ops a' w (fun v w' => S v w' ∧ (f = true → md_unlike w v)))) ∧ wpMildF P ops w0 a F fs l (SS ++ [(o.dst, S)]) := by
      cases f with
      | false =>
        obtain ⟨S, h1, h2, h3⟩ := h
        refine ⟨S, h2, fun h => (by cases h), fun w hw => ?_, h3⟩
        refine mildDeps_mono (fun a' h => ?_) _ _ (h1 w hw)
        rw [show (fun v w' => S v w' ∧ (false = true → md_unlike w v)) = S by funext v w'; simp]
        exact h
      | true =>
        obtain ⟨x, h1, h3⟩ := h
        refine ⟨_, MWord.blk_stays _ x, fun _ => MWord.blk_ptr _ _, fun w hw => ?_, h3⟩
        refine mildDeps_mono (fun a' h => ?_) _ _ (h1 w hw)
        have := Oper.mildAt_new hw.size h
        simpa using this
    obtain ⟨S, h2, h2', h1, h3⟩ := H
    obtain ⟨TT, hF, hlen, hall⟩ := wpMildF_out fs l _ h3
    refine ⟨(o.dst, S) :: TT, by simpa using hF, by simp [hlen], fun i o' hi => ?_⟩
    rcases i with _ | i
    · simp only [List.getElem?_cons_zero, Option.some.injEq] at hi
      subst hi
      exact ⟨S, rfl, h2, by simpa using h2', fun w hw => by simpa using h1 w hw⟩
    · obtain ⟨S', h4, h5, h5', h6⟩ := hall i o' (by simpa using hi)
      refine ⟨S', by simpa using h4, h5, by simpa using h5', fun w hw => ?_⟩
      have := h6 w hw
      simp only [List.length_append, List.length_cons, List.length_nil, List.append_assoc, List.cons_append, List.nil_append] at this
      rw [show SS.length + (i + 1) = SS.length + (0 + 1) + i by omega]
      simpa using this

/-- None of these. -/
def md_off : List Nat → Nat → Prop
  | [], _ => True
  | u :: us, c => u ≠ c ∧ md_off us c

/-- Under all words; the fresh ones' blocks are unlike. -/
def mildAllF : List Bool → MList → List Nat → Act → World → (Act → Prop) → Prop
  | _, [], _, a, _, K => K a
  | true :: fs, (d, S) :: rest, us, a, w, K => ∀ c, S (.pointer (some ⟨c, 0, none⟩)) w → md_off us c → mildAllF fs rest (c :: us) (a.put d (.pointer (some ⟨c, 0, none⟩))) w K
  | false :: fs, (d, S) :: rest, us, a, w, K => ∀ v, S v w → mildAllF fs rest us (a.put d v) w K
  | [], (d, S) :: rest, us, a, w, K => ∀ v, S v w → mildAllF [] rest us (a.put d v) w K

theorem mildAllF_use {vals : Nat → Value} {w : World} {K : Act → Prop} : ∀ (FR : List Bool) (l : MList) (k : Nat) (us : List Nat) (a : Act), mildAllF FR l us a w K →
    (∀ (i : Nat) (d : Option Tmp) (S : MWord), l[i]? = some (d, S) → S (vals (k + i)) w ∧ (FR.getD i false = true → md_ptr S)) →
    (∀ i, i < l.length → FR.getD i false = true → ∀ u ∈ us, vals (k + i) ≠ .pointer (some ⟨u, 0, none⟩)) →
    (∀ i j, i < j → j < l.length → FR.getD i false = true → FR.getD j false = true → vals (k + i) ≠ vals (k + j)) → K (md_putIf (fun _ => true) vals l k a)
  | FR, [], _, _, _, h, _, _, _ => by cases FR <;> exact h
  | FR, (d, S) :: r, k, us, a, h, hv, ho, hu => by
    have hoff : ∀ (us : List Nat) (c : Nat), (∀ u ∈ us, u ≠ c) → md_off us c := fun us c => by
      induction us with
      | nil => exact fun _ => trivial
      | cons u us ih => exact fun h => ⟨h u (by simp), ih fun u hu => h u (by simp [hu])⟩
    unfold md_putIf
    have hv' : ∀ (i : Nat) (d : Option Tmp) (S : MWord), r[i]? = some (d, S) → S (vals (k + 1 + i)) w ∧ (FR.tail.getD i false = true → md_ptr S) := fun i d' S' hi => by
      have := hv (i + 1) d' S' (by simpa using hi)
      rw [show k + (i + 1) = k + 1 + i by omega] at this
      exact ⟨this.1, fun h => this.2 (by cases FR with | nil => cases h | cons _ _ => simpa using h)⟩
    have hu' : ∀ i j, i < j → j < r.length → FR.tail.getD i false = true → FR.tail.getD j false = true → vals (k + 1 + i) ≠ vals (k + 1 + j) := fun i j hij hj h1 h2 => by
      have := hu (i + 1) (j + 1) (by omega) (by simpa using hj) (by cases FR with | nil => cases h1 | cons _ _ => simpa using h1) (by cases FR with | nil => cases h2 | cons _ _ => simpa using h2)
      rwa [show k + (i + 1) = k + 1 + i by omega, show k + (j + 1) = k + 1 + j by omega] at this
    have ho' : ∀ i, i < r.length → FR.tail.getD i false = true → ∀ u ∈ us, vals (k + 1 + i) ≠ .pointer (some ⟨u, 0, none⟩) := fun i hi h1 u hu => by
      have := ho (i + 1) (by simpa using hi) (by cases FR with | nil => cases h1 | cons _ _ => simpa using h1) u hu
      rwa [show k + (i + 1) = k + 1 + i by omega] at this
    have h0 := hv 0 d S rfl
    rw [Nat.add_zero] at h0
    have hk : ∀ f fs, f = false → FR = f :: fs ∨ FR = [] → ∀ v, S v w → mildAllF FR.tail r us (a.put d v) w K := fun f fs hf hF v hs => by
      subst hf
      rcases hF with rfl | rfl
      · exact h v hs
      · exact h v hs
    match FR, h, hv, ho, hu, hv', hu', ho', h0, hk with
    | [], h, hv, ho, hu, hv', hu', ho', h0, hk => exact mildAllF_use [] r (k + 1) us _ (hk false [] rfl (.inr rfl) _ h0.1) hv' ho' hu'
    | false :: fs, h, hv, ho, hu, hv', hu', ho', h0, hk => exact mildAllF_use fs r (k + 1) us _ (hk false fs rfl (.inl rfl) _ h0.1) hv' ho' hu'
    | true :: fs, h, hv, ho, hu, hv', hu', ho', h0, hk =>
      obtain ⟨c, hc, _⟩ := h0.2 rfl _ _ h0.1
      have hs := h0.1
      have hvk := hc
      rw [hc] at hs
      have hof : md_off us c := hoff us c fun u hum he => ho 0 (by simp) rfl u hum (by rw [Nat.add_zero, hc, he])
      simp only [if_true]
      rw [hc]
      refine mildAllF_use fs r (k + 1) (c :: us) _ (h c hs hof) hv' (fun i hi h1 u hum => ?_) hu'
      rcases List.mem_cons.1 hum with rfl | hum
      · have := hu 0 (i + 1) (by omega) (by simpa using hi) rfl (by simpa using h1)
        rw [Nat.add_zero, show k + (i + 1) = k + 1 + i by omega, hvk] at this
        exact fun he => this he.symm
      · exact ho' i hi h1 u hum

/-- **One walk for all orders**, some variables made. -/
theorem wp_region_mildF {id : Nat} {Q : Exit → Act → World → Prop} {a : Act} {w : World} {l : List Oper} (n : Nat) (FR : List Bool) (hm : P.follows .mixedOrders = true) (hB : Region.mildB l.toArray n = true)
    (h : wpMildF P l.toArray w a (fun SS => ∀ w', Below w.heap.size w w' → mildAllF FR SS [] a w' (fun a' => wpList P l.toArray Q (l.drop n) a' w')) FR (l.take n) []) :
    (Code.region id l.toArray true).wp P Q a w := by
  simp only [Region.mildB, Bool.and_eq_true, decide_eq_true_eq] at hB
  obtain ⟨⟨⟨⟨hsel, hn⟩, hap⟩, htl⟩, hseq⟩ := hB
  have hsz : l.toArray.size = l.length := by simp
  obtain ⟨TT, hF, hlen, hTT⟩ := wpMildF_out FR (l.take n) [] h
  have hlen' : TT.length = n := by rw [hlen]; simp; omega
  have hTT' : ∀ i o, i < n → l.toArray[i]? = some o → ∃ S : MWord, TT[i]? = some (o.dst, S) ∧ S.Stays ∧ (FR.getD i false = true → md_ptr S) ∧ ∀ w', Below w.heap.size w w' → mildDeps (o.looksAt l.toArray) (TT.take i) a w' (fun a' => o.mildAt P l.toArray a' w' (fun v w'' => S v w'' ∧ (FR.getD i false = true → md_unlike w' v))) := fun i o hi ho => by
    obtain ⟨S, h1, h2, h2', h3⟩ := hTT i o (by
      rw [List.getElem?_take, if_pos hi]
      simpa using ho)
    exact ⟨S, h1, h2, h2', by simpa using h3⟩
  refine wp_region_any hm ?_
  have inv0 : HeadInv .any l.toArray n (Array.replicate l.toArray.size false) :=
    ⟨by simp, fun j oj _ hl => (by rw [getD_replicate_false] at hl; cases hl), fun t _ ht => getD_in (by simpa using ht) (getD_replicate_false _ _)⟩
  have hcount : ∀ m, md_toCome (Array.replicate l.toArray.size false) m = m := by
    intro m
    induction m with
    | zero => rfl
    | succ k ih => simp only [md_toCome, ih, getD_replicate_false]; simp
  have H := mild_anyF (Q := Q) (P := P) (g := l.toArray.size - n) (w0 := w) (a := a) (TT := TT) (fr := fun i => FR.getD i false) hsel hn hap htl hlen' hTT'
    (fun vals w' hw' hv hun => by
      have h1 := hF w' hw'
      have h2 := mildAllF_use (vals := vals) FR TT 0 [] a (by simpa using h1) (fun i d S hi => by
          rw [Nat.zero_add]
          refine ⟨hv i d S hi, fun hf => ?_⟩
          have hin : i < n := by rw [← hlen']; exact (List.getElem?_eq_some_iff.1 hi).1
          obtain ⟨Si, h1, _, h3, _⟩ := hTT' i l.toArray[i] hin (by simp)
          have : S = Si := by rw [h1] at hi; exact ((Prod.mk.inj (Option.some.inj hi)).2).symm
          rw [this]
          exact h3 hf)
        (fun i _ _ u hu => by cases hu) (fun i j hij hj h1 h2 => by
          rw [Nat.zero_add, Nat.zero_add]
          exact hun i j (by omega) (by omega) (by omega) h1 h2)
      have := wpAny_of_seq (md := .any) (Q' := Q) (l.drop n) n _ _ w' (fun j => by simp [List.getElem?_drop]) (by simpa using hseq) h2
      simpa using this)
    n (Array.replicate l.toArray.size false) (fun _ => undef) { w with drawn := w.drawn + 1 } inv0 (hcount n) ⟨rfl, rfl, rfl, Nat.le_refl _, fun _ _ => rfl⟩ (fun i d S _ hl => by rw [getD_replicate_false] at hl; cases hl)
    (fun i j _ _ _ _ _ hl => by rw [getD_replicate_false] at hl; cases hl)
  rw [show n + (l.toArray.size - n) = l.toArray.size by omega] at H
  have h0 : ∀ (m : MList) (k : Nat) (A : Act), md_putIf (fun i => (Array.replicate l.toArray.size false).getD i false) (fun _ => undef) m k A = A := by
    intro m
    induction m with
    | nil => intro k A; rfl
    | cons x r ih => intro k A; obtain ⟨d, S⟩ := x; unfold md_putIf; rw [if_neg (by rw [getD_replicate_false]; simp)]; exact ih _ _
  rw [h0] at H
  exact H

/-! ### The same walk, where the text's order stands -/

theorem md_putIf_upto {b : Nat → Bool} {vals vals' : Nat → Value} : ∀ (l : MList) (k : Nat) (A : Act), (∀ i, i < k + l.length → vals i = vals' i) → md_putIf b vals l k A = md_putIf b vals' l k A
  | [], _, _, _ => rfl
  | (d, S) :: r, k, A, h => by
    unfold md_putIf
    rw [h k (by simp)]
    exact md_putIf_upto r (k + 1) _ fun i hi => h i (by simp only [List.length_cons]; omega)

theorem md_inorder {w0 : World} {a : Act} {Q : Exit → Act → World → Prop} {tail : List Oper} (hsel : Region.noSelect ops = true) (FR0 : List Bool) :
    ∀ (l : List Oper) (FR : List Bool) (SS : MList) (vals : Nat → Value) (w : World), (∀ j o, l[j]? = some o → ops[SS.length + j]? = some o) → (∀ i, FR.getD i false = FR0.getD (SS.length + i) false) →
      Below w0.heap.size w0 w → (∀ (i : Nat) (d : Option Tmp) (S : MWord), SS[i]? = some (d, S) → S (vals i) w ∧ S.Stays ∧ (FR0.getD i false = true → md_ptr S)) →
      (∀ i j, i < SS.length → j < SS.length → i ≠ j → FR0.getD i false = true → FR0.getD j false = true → vals i ≠ vals j) →
      wpMildF P ops w0 a (fun SS => ∀ w', Below w0.heap.size w0 w' → mildAllF FR0 SS [] a w' (fun a' => wpList P ops Q tail a' w')) FR l SS →
      wpList P ops Q (l ++ tail) (md_putIf (fun _ => true) vals SS 0 a) w
  | [], FR, SS, vals, w, _, _, hw, hv, hu, h => by
    have h1 : ∀ w', Below w0.heap.size w0 w' → mildAllF FR0 SS [] a w' (fun a' => wpList P ops Q tail a' w') := by cases FR <;> exact h
    refine mildAllF_use (vals := vals) FR0 SS 0 [] a (h1 w hw) (fun i d S hi => ?_) (fun i _ _ u hu => by cases hu) (fun i j hij hj h1 h2 => ?_)
    · rw [Nat.zero_add]
      exact ⟨(hv i d S hi).1, (hv i d S hi).2.2⟩
    · rw [Nat.zero_add, Nat.zero_add]
      exact hu i j (by omega) hj (by omega) h1 h2
  | o :: l, FR, SS, vals, w, hl, hFR, hw, hv, hu, h => by
    have hoj : ops[SS.length]? = some o := by simpa using hl 0 o rfl
    have hf0 : FR.getD 0 false = FR0.getD SS.length false := by simpa using hFR 0
    have H : ∃ S : MWord, S.Stays ∧ (FR.getD 0 false = true → md_ptr S) ∧ (∀ w, Below w0.heap.size w0 w → mildDeps (o.looksAt ops) SS a w (fun a' => o.mildAt P ops a' w (fun v w' => S v w' ∧ (FR.getD 0 false = true → md_unlike w v)))) ∧
        wpMildF P ops w0 a (fun SS => ∀ w', Below w0.heap.size w0 w' → mildAllF FR0 SS [] a w' (fun a' => wpList P ops Q tail a' w')) FR.tail l (SS ++ [(o.dst, S)]) := by
      match FR, h with
      | [], h => exact h.elim
      | false :: fs, h =>
        obtain ⟨S, h1, h2, h3⟩ := h
        refine ⟨S, h2, fun h => (by cases h), fun w hw => ?_, h3⟩
        refine mildDeps_mono (fun a' h => ?_) _ _ (h1 w hw)
        rw [show (fun v w' => S v w' ∧ (List.getD (false :: fs) 0 false = true → md_unlike w v)) = S by funext v w'; simp]
        exact h
      | true :: fs, h =>
        obtain ⟨x, h1, h3⟩ := h
        refine ⟨_, MWord.blk_stays _ x, fun _ => MWord.blk_ptr _ _, fun w hw => ?_, h3⟩
        refine mildDeps_mono (fun a' h => ?_) _ _ (h1 w hw)
        have := Oper.mildAt_new hw.size h
        simpa using this
    obtain ⟨S, hst, hpt, h1, h3⟩ := H
    have hm := mildDeps_use (vals := vals) SS 0 a (h1 w hw) fun i d S' hi _ => by rw [Nat.zero_add]; exact (hv i d S' hi).1
    have hslot : ∀ t, (o.looksAt ops).contains t = true → (md_putIf (fun _ => true) vals SS 0 a).tmps[t]? = (md_putDep (o.looksAt ops) vals SS 0 a).tmps[t]? := fun t ht =>
      md_slot_dep ht SS 0 a a rfl fun _ _ _ _ _ => rfl
    have hexec : execOp (md_putIf (fun _ => true) vals SS 0 a).eval o = execOp (md_putDep (o.looksAt ops) vals SS 0 a).eval o :=
      execOp_congr o (fun cs b => Region.noSelect_spec hsel SS.length o cs b hoj) fun x hx => by
        cases x with
        | tmp t =>
          have := hslot t (by
            rw [List.contains_iff_mem]
            exact List.mem_append_left _ (List.mem_filterMap.2 ⟨.tmp t, by simpa using hx, rfl⟩))
          show Array.getD _ t undef = Array.getD _ t undef
          rw [Array.getD_eq_getD_getElem?, Array.getD_eq_getD_getElem?, this]
        | _ => rfl
    have hwant : Region.wanted o (yielded ops (md_putIf (fun _ => true) vals SS 0 a).tmps) = Region.wanted o (yielded ops (md_putDep (o.looksAt ops) vals SS 0 a).tmps) := by
      unfold Region.wanted
      cases hg : o.guard with
      | none => rfl
      | some gw =>
        obtain ⟨k, want⟩ := gw
        have hy : yielded ops (md_putIf (fun _ => true) vals SS 0 a).tmps k = yielded ops (md_putDep (o.looksAt ops) vals SS 0 a).tmps k := by
          unfold yielded
          cases ht : (ops[k]?).bind (·.dst) with
          | none => rfl
          | some t =>
            have := hslot t (by
              rw [List.contains_iff_mem]
              simp [Oper.looksAt, hg, ht])
            simp only [Option.bind_some, this]
        simp only [hy]
    have hnext : ∀ v w', Below w.heap.size w w' → (S v w' ∧ (FR.getD 0 false = true → md_unlike w v)) → wpList P ops Q (l ++ tail) ((md_putIf (fun _ => true) vals SS 0 a).put o.dst v) w' := fun v w' hb ⟨hs, hun⟩ => by
      have he : (md_putIf (fun _ => true) vals SS 0 a).put o.dst v = md_putIf (fun _ => true) (fun i => if i = SS.length then v else vals i) (SS ++ [(o.dst, S)]) 0 a := by
        have e1 : md_putIf (fun _ => true) vals SS 0 a = md_putIf (fun _ => true) (fun i => if i = SS.length then v else vals i) SS 0 a := md_putIf_upto SS 0 a (fun i hi => by
          rw [Nat.zero_add] at hi
          rw [if_neg (by omega)])
        rw [md_putIf_append, ← e1]
        simp [md_putIf]
      rw [he]
      have hlt : ∀ (i : Nat) (d : Option Tmp) (S' : MWord), SS[i]? = some (d, S') → i < SS.length := fun i d S' h => (List.getElem?_eq_some_iff.1 h).1
      refine md_inorder hsel FR0 l FR.tail (SS ++ [(o.dst, S)]) _ w' (fun j o' hj => ?_) (fun i => ?_) (hw.trans (hb.mono hw.size)) (fun i d S' hi => ?_) (fun i j hi hj hij hfi hfj => ?_) h3
      · have := hl (j + 1) o' (by simpa using hj)
        simpa [Nat.add_assoc, Nat.add_comm 1 j] using this
      · have := hFR (i + 1)
        rw [List.length_append, List.length_singleton, show SS.length + 1 + i = SS.length + (i + 1) by omega, ← this]
        cases FR <;> simp
      · rcases Nat.lt_or_ge i SS.length with h | h
        · rw [List.getElem?_append_left h] at hi
          obtain ⟨g1, g2, g3⟩ := hv i d S' hi
          simp only [show i ≠ SS.length by omega, if_false]
          exact ⟨g2 _ _ _ g1 hb, g2, g3⟩
        · have hi2 : i < (SS ++ [(o.dst, S)]).length := (List.getElem?_eq_some_iff.1 hi).1
          simp only [List.length_append, List.length_singleton] at hi2
          obtain rfl : i = SS.length := by omega
          simp only [List.getElem?_concat_length, Option.some.injEq, Prod.mk.injEq] at hi
          obtain ⟨_, rfl⟩ := hi
          simp only [if_true]
          exact ⟨hs, hst, fun h => hpt (by rw [hf0]; exact h)⟩
      · simp only [List.length_append, List.length_singleton] at hi hj
        have key : ∀ k, k < SS.length → FR0.getD k false = true → FR0.getD SS.length false = true → vals k ≠ v := fun k hk hfk hfl he => by
          obtain ⟨g1, _, g3⟩ := hv k _ _ (List.getElem?_eq_getElem hk)
          obtain ⟨c, h4, h5⟩ := g3 hfk _ _ g1
          have := hun (by rw [hf0]; exact hfl) c (by rw [← he, h4])
          omega
        by_cases e1 : i = SS.length
        · subst e1
          simp only [if_true, if_neg (Ne.symm hij)]
          exact fun he => key j (by omega) hfj hfi he.symm
        · by_cases e2 : j = SS.length
          · subst e2
            simp only [if_true, if_neg e1]
            exact key i (by omega) hfi hfj
          · simp only [if_neg e1, if_neg e2]
            exact hu i j (by omega) (by omega) hij hfi hfj
    unfold Oper.mildAt at hm
    rw [← hwant, ← hexec] at hm
    show wpList P ops Q (o :: (l ++ tail)) _ w
    unfold wpList
    split
    · rename_i hw1
      rw [if_pos hw1] at hm
      exact .inl (Oper.wp_of_mild hnext hm)
    · rename_i hw1
      rw [if_neg hw1] at hm
      exact hnext undef w (Below.refl _ _) hm

/-- The walk of a region that has the text's order. -/
theorem wp_region_mildS {id : Nat} {Q : Exit → Act → World → Prop} {a : Act} {w : World} {l : List Oper} (n : Nat) (FR : List Bool) (hsel : Region.noSelect l.toArray = true)
    (h : wpMildF P l.toArray w a (fun SS => ∀ w', Below w.heap.size w w' → mildAllF FR SS [] a w' (fun a' => wpList P l.toArray Q (l.drop n) a' w')) FR (l.take n) []) :
    (Code.region id l.toArray false).wp P Q a w := by
  refine wp_region_lit ?_
  have := md_inorder (vals := fun _ => undef) hsel FR (l.take n) FR [] w (fun j o hj => by
    rw [List.getElem?_take] at hj
    split at hj
    · simpa using hj
    · cases hj) (fun i => by simp) (Below.refl _ _) (fun i d S hi => by simp at hi) (fun i j hi => by simp at hi) h
  rwa [List.take_append_drop] at this

theorem wpMildF_const {w0 : World} {a : Act} {F : MList → Prop} {o : Oper} {l : List Oper} {SS : MList} {fs : List Bool} {c : Value}
    (h1 : ∀ w, Below w0.heap.size w0 w → mildDeps (o.looksAt ops) SS a w (fun a' => o.constAt P ops a' w c)) (h2 : wpMildF P ops w0 a F fs l (SS ++ [(o.dst, fun v _ => v = c)])) : wpMildF P ops w0 a F (false :: fs) (o :: l) SS :=
  ⟨_, fun w hw => mildDeps_mono (fun _ h => Oper.mildAt_const h) _ _ (h1 w hw), fun _ _ _ h _ => h, h2⟩
theorem wpMildF_call {w0 : World} {a : Act} {F : MList → Prop} {o : Oper} {l : List Oper} {SS : MList} {fs : List Bool} {S : MWord}
    (h1 : ∀ w, Below w0.heap.size w0 w → mildDeps (o.looksAt ops) SS a w (fun a' => o.callAt P ops a' w S)) (hs : S.Stays) (h2 : wpMildF P ops w0 a F fs l (SS ++ [(o.dst, S)])) : wpMildF P ops w0 a F (false :: fs) (o :: l) SS :=
  ⟨_, fun w hw => mildDeps_mono (fun _ h => Oper.mildAt_call h) _ _ (h1 w hw), hs, h2⟩
theorem wpMildF_val {w0 : World} {a : Act} {F : MList → Prop} {o : Oper} {l : List Oper} {SS : MList} {fs : List Bool} (S : MWord)
    (h1 : ∀ w, Below w0.heap.size w0 w → mildDeps (o.looksAt ops) SS a w (fun a' => o.valAt P ops a' w S)) (hs : S.Stays) (h2 : wpMildF P ops w0 a F fs l (SS ++ [(o.dst, S)])) : wpMildF P ops w0 a F (false :: fs) (o :: l) SS :=
  ⟨_, fun w hw => mildDeps_mono (fun _ h => Oper.mildAt_val h) _ _ (h1 w hw), hs, h2⟩
theorem wpMildF_some {w0 : World} {a : Act} {F : MList → Prop} {o : Oper} {l : List Oper} {SS : MList} {fs : List Bool} (S : MWord)
    (h1 : ∀ w, Below w0.heap.size w0 w → mildDeps (o.looksAt ops) SS a w (fun a' => o.mildAt P ops a' w S)) (hs : S.Stays) (h2 : wpMildF P ops w0 a F fs l (SS ++ [(o.dst, S)])) : wpMildF P ops w0 a F (false :: fs) (o :: l) SS :=
  ⟨_, h1, hs, h2⟩
/-- A variable is made. -/
theorem wpMildF_new {w0 : World} {a : Act} {F : MList → Prop} {o : Oper} {l : List Oper} {SS : MList} {fs : List Bool} {x : Obj}
    (h1 : ∀ w, Below w0.heap.size w0 w → mildDeps (o.looksAt ops) SS a w (fun a' => o.newAt P ops a' w x)) (h2 : wpMildF P ops w0 a F fs l (SS ++ [(o.dst, MWord.blk w0.heap.size x)])) : wpMildF P ops w0 a F (true :: fs) (o :: l) SS :=
  ⟨_, h1, h2⟩
end

attribute [go_sem] Oper.newAt Oper.newUpon md_off
theorem wpMildF_nil {P : Program} {ops : Array Oper} {w0 : World} {a : Act} {F : MList → Prop} {SS : MList} {fs : List Bool} (h : F SS) : wpMildF P ops w0 a F fs [] SS := by cases fs <;> exact h

end Go

/-
  Single operations of a region, one by one.
-/
namespace Go.Proofs.YtlgghcffmnofdaaGreatDoor.St
open Go Go.RowKit
section
variable {P : Program} {ops : Array Oper} {rest : List Oper} {o : Oper} {a : Act} {Q : Exit → Act → World → Prop} {w w' : World} {v p : Value}
theorem st_op (hrun : (execOp a.eval o).run P w = .ok (.value v) w') (hg : o.guard = none) (hK : wpList P ops Q rest (a.put o.dst v) w') : wpList P ops Q (o :: rest) a w := by
  refine wpList_plain hg fun K hK' => ?_
  unfold Oper.wp
  rw [hrun]
  exact hK' _ _ hK
theorem st_move {x : Operand} (hg : o.guard = none) (hop : o.op = .move x) (hx : a.eval x = v) (hK : wpList P ops Q rest (a.put o.dst v) w) : wpList P ops Q (o :: rest) a w := by
  refine wpList_plain hg fun K hK' => ?_
  unfold Oper.wp
  simp [execOp, hop, hx]
  exact hK' _ _ hK
theorem st_assign {x : Operand} (hg : o.guard = none) (hop : o.op = .assign x) (hx : a.eval x = v) (hK : wpList P ops Q rest (a.put o.dst v) w) : wpList P ops Q (o :: rest) a w := by
  refine wpList_plain hg fun K hK' => ?_
  unfold Oper.wp
  simp [execOp, hop, hx]
  exact hK' _ _ hK
theorem st_load {x : Operand} {t : TypeId} (hrun : (Instr.loadAt t p).run P w = .ok v w) (hg : o.guard = none) (hop : o.op = .load t x)
    (hx : a.eval x = p) (hK : wpList P ops Q rest (a.put o.dst v) w) : wpList P ops Q (o :: rest) a w := by
  refine wpList_plain hg fun K hK' => ?_
  unfold Oper.wp
  simp [execOp, hop, hx, hrun, Result.andThen]
  exact hK' _ _ hK
theorem st_store {x y : Operand} {t : TypeId} (hrun : (Instr.storeAt t p v).run P w = .ok () w') (hg : o.guard = none) (hop : o.op = .store t x y)
    (hx : a.eval x = p) (hy : a.eval y = v) (hK : wpList P ops Q rest (a.put o.dst undef) w') : wpList P ops Q (o :: rest) a w := by
  refine wpList_plain hg fun K hK' => ?_
  unfold Oper.wp
  simp [execOp, hop, hx, hy, hrun, Result.andThen]
  exact hK' _ _ hK
theorem st_arr {x : Operand} {t : TypeId} (hrun : (Instr.arrayAt t p).run P w = .ok v w) (hg : o.guard = none) (hop : o.op = .sliceToArrayPointer t x)
    (hx : a.eval x = p) (hK : wpList P ops Q rest (a.put o.dst v) w) : wpList P ops Q (o :: rest) a w := by
  refine wpList_plain hg fun K hK' => ?_
  unfold Oper.wp
  simp [execOp, hop, hx, hrun, Result.andThen]
  exact hK' _ _ hK
theorem st_call {f : FuncId} {A : Array Operand} {T : Array TypeId} {args : Array Value} {Post : Ending → World → Prop}
    (hc : Calls P f args w Post) (hent : (callFunc f args).run P w = .ok (.enter f args) w) (hg : o.guard = none) (hop : o.op = .call { callee := .value (.func f), args := A, argTypes := T })
    (hx : A.map a.eval = args) (hK : ∀ e w', Post e w' → ∃ v, e = .returned v ∧ wpList P ops Q rest (a.put o.dst v) w') : wpList P ops Q (o :: rest) a w := by
  refine wpList_plain hg fun K hK' => ?_
  unfold Oper.wp
  have hr : (execOp a.eval o).run P w = .ok (.enter f args) w := by
    simp [execOp, hop, resolve, Deferred.ofValue, Act.eval, invoke, hx, hent]
  rw [hr]
  exact hc.mono fun e w' h => by
    obtain ⟨v, h1, h2⟩ := hK e w' h
    subst h1
    exact hK' _ _ h2
end
end Go.Proofs.YtlgghcffmnofdaaGreatDoor.St

/-
  What a row's list of variables gives a walk.
-/
namespace Go.Proofs.YtlgghcffmnofdaaGreatDoor.La
open Go Go.Lib

/-- One of the variables on the list. -/
theorem laid_at {P : Program} {w : World} {n : String} {d : DataW Unit} : ∀ {laid : List (String × DataW Unit)} {ps : List MemPlace}, DataW.LaidVars P w laid ps → (n, d) ∈ laid →
    ∃ g t cs fuel p, P.globalNamed n = some g ∧ (P.globals[g]?).map (·.type) = some t ∧ w.var? P n = some cs ∧ DataW.trod (fun _ => ()) P w 0 (fun _ => true) false fuel t cs.toList = some (d, p)
  | [], _, _, h => by cases h
  | (n', d') :: r, ps, h, hm => by
    obtain ⟨g, t, cs, fuel, p, q, hg, ht, hv, hd, hr, _⟩ := h
    rcases List.mem_cons.1 hm with he | hm
    · obtain ⟨rfl, rfl⟩ := Prod.mk.inj he
      exact ⟨g, t, cs, fuel, p, hg, ht, hv, hd⟩
    · exact laid_at hr hm

section
variable {H : Type} {enc : TypeId × Value → H} {P : Program} {w : World} {base : Nat} {sp : Nat → Bool} {held : Bool} {fuel : Nat}

/-- The pieces of an array. -/
theorem pieces {t e : TypeId} {n c : Nat} {cs : List Value} {ds : List (DataW H)} {p : List MemPlace} (ht : P.underlying t = some (.array n e)) (hce : P.cellsOf e = c)
    (h : DataW.trod enc P w base sp held fuel t cs = some (.agg ds, p)) : ds.length = n ∧ ∀ i, i < n → ∃ fuel' d p', ds[i]? = some d ∧ DataW.trod enc P w base sp held fuel' e ((cs.drop (i * c)).take c) = some (d, p') := by
  cases fuel with
  | zero => simp [DataW.trod] at h
  | succ fuel =>
    simp only [DataW.trod, ht, hce] at h
    split at h
    · obtain ⟨xs, hm, hx⟩ := Option.map_eq_some_iff.1 h
      have hxs : xs.map (·.1) = ds := by
        have := congrArg Prod.fst hx
        simpa using this
      have hxl : xs.length = n := by simpa using mapM_length hm
      refine ⟨by rw [← hxs]; simp [hxl], fun i hi => ?_⟩
      obtain ⟨b, hb, hf⟩ := mapM_at hm i i (by simp [hi])
      exact ⟨fuel, b.1, b.2, by rw [← hxs]; simp [hb], hf⟩
    · cases h

theorem ints_of {t e : TypeId} {n : Nat} {k : IntKind} {cs : List Value} {zs : List Int} {p : List MemPlace} (ht : P.underlying t = some (.array n e)) (he : P.underlying e = some (.int k)) (hce : P.cellsOf e = 1) (hct : P.cellsOf t = n)
    (h : DataW.trod enc P w base sp held fuel t cs = some (.agg (zs.map fun z => .lit (.int k z)), p)) : cs = zs.map fun z => Value.int k z := cells_of_tab ht he hce hct h

theorem strs_of {t e : TypeId} {n : Nat} {cs : List Value} {zs : List (List UInt8)} {p : List MemPlace} (ht : P.underlying t = some (.array n e)) (he : P.underlying e = some .string) (hce : P.cellsOf e = 1)
    (h : DataW.trod enc P w base sp held fuel t cs = some (.agg (zs.map fun z => .lit (.string z)), p)) (hl : cs.length = n) : cs = zs.map fun z => Value.string ⟨z.toArray⟩ := by
  obtain ⟨h1, h2⟩ := pieces ht hce h
  have hzl : zs.length = n := by simpa using h1
  apply List.ext_getElem?
  intro i
  by_cases hi : i < n
  · obtain ⟨f, d, p', hd, htr⟩ := h2 i hi
    obtain ⟨s, hc, hs, _⟩ := DataW.trod_string he htr
    have h3 : cs[i]? = some (.string s) := by
      have := congrArg (·[0]?) hc
      simpa [List.getElem?_take, List.getElem?_drop] using this
    replace hs := (Prod.mk.inj hs).1
    rw [hs, List.getElem?_map] at hd
    obtain ⟨z, hz, hzs⟩ := Option.map_eq_some_iff.1 hd
    simp only [DataW.lit.injEq, Lit.string.injEq] at hzs
    rw [h3, List.getElem?_map, hz, hzs]
    simp
  · rw [List.getElem?_eq_none (by omega), List.getElem?_eq_none (by simp; omega)]

/-- An array of arrays of integers. -/
theorem ints2_of {t e i : TypeId} {n m : Nat} {k : IntKind} {cs : List Value} {zs : List (List Int)} {p : List MemPlace} (ht : P.underlying t = some (.array n e)) (he : P.underlying e = some (.array m i)) (hi : P.underlying i = some (.int k)) (hci : P.cellsOf i = 1) (hce : P.cellsOf e = m)
    (h : DataW.trod enc P w base sp held fuel t cs = some (.agg (zs.map fun z => .agg (z.map fun y => .lit (.int k y))), p)) (j : Nat) (z : List Int) (hz : zs[j]? = some z) : (cs.drop (j * m)).take m = z.map fun y => Value.int k y := by
  obtain ⟨h1, h2⟩ := pieces ht hce h
  have hj : j < n := by
    have : zs.length = n := by simpa using h1
    rw [← this]; exact (List.getElem?_eq_some_iff.1 hz).1
  obtain ⟨f, d, p', hd, htr⟩ := h2 j hj
  rw [List.getElem?_map, hz] at hd
  obtain rfl := Option.some.inj hd
  exact ints_of he hi hci hce htr

theorem strs2_of {t e i : TypeId} {n m : Nat} {cs : List Value} {zs : List (List (List UInt8))} {p : List MemPlace} (ht : P.underlying t = some (.array n e)) (he : P.underlying e = some (.array m i)) (hi : P.underlying i = some .string) (hci : P.cellsOf i = 1) (hce : P.cellsOf e = m) (hl : cs.length = n * m)
    (h : DataW.trod enc P w base sp held fuel t cs = some (.agg (zs.map fun z => .agg (z.map fun y => .lit (.string y))), p)) (j : Nat) (z : List (List UInt8)) (hz : zs[j]? = some z) : (cs.drop (j * m)).take m = z.map fun y => Value.string ⟨y.toArray⟩ := by
  obtain ⟨h1, h2⟩ := pieces ht hce h
  have hj : j < n := by
    have : zs.length = n := by simpa using h1
    rw [← this]; exact (List.getElem?_eq_some_iff.1 hz).1
  obtain ⟨f, d, p', hd, htr⟩ := h2 j hj
  rw [List.getElem?_map, hz] at hd
  obtain rfl := Option.some.inj hd
  refine strs_of he hi hci htr ?_
  have : (j + 1) * m ≤ n * m := Nat.mul_le_mul_right m hj
  rw [Nat.succ_mul] at this
  simp [hl]
  omega

theorem len_of {t e : TypeId} {n : Nat} {cs : List Value} {d : DataW H} {p : List MemPlace} (ht : P.underlying t = some (.array n e)) (h : DataW.trod enc P w base sp held fuel t cs = some (d, p)) : cs.length = P.cellsOf t := by
  cases fuel with
  | zero => simp [DataW.trod] at h
  | succ fuel =>
    simp only [DataW.trod, ht] at h
    split at h
    · assumption
    · cases h
end

/-- The cells of what is laid. -/
def flatN : Nat → DataW Unit → List Value
  | 0, _ => []
  | _ + 1, .lit (.int k n) => [.int k n]
  | _ + 1, .lit (.string s) => [.string ⟨s.toArray⟩]
  | _ + 1, .lit (.bool b) => [.bool b]
  | n + 1, .agg ds => ds.flatMap (flatN n)
  | _, _ => []
def layIn (l : List Value) : Obj → Obj
  | .cells _ t frozen => .cells l.toArray t frozen
  | o => o
def layAt (P : Program) (h : Array Obj) (x : String × DataW Unit) : Array Obj :=
  match P.globalNamed x.1 with
  | some g => h.modify g (layIn (flatN 6 x.2))
  | none => h
/-- A world for a witness: the variables on the list hold what is laid. -/
noncomputable def laidWorld (P : Program) (laid : List (String × DataW Unit)) (os : Os) : World :=
  { World.holding P os ⟨#[], #[], []⟩ with heap := laid.foldl (layAt P) (World.holding P os ⟨#[], #[], []⟩).heap }
end Go.Proofs.YtlgghcffmnofdaaGreatDoor.La
