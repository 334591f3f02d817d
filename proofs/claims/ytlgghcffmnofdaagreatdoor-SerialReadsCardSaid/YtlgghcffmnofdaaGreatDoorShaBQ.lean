/-
  The walk of sha.words.
-/
import Derived.Laws.Tables
import Derived.Laws.Rows
import Derived.Laws.CopyOwn
import Derived.Test.YtlgghcffmnofdaaGreatDoorMildAll
import Derived.Test.YtlgghcffmnofdaaGreatDoorShaAQ

namespace Go.Proofs.YtlgghcffmnofdaaGreatDoor.Sh
open Go Go.RowKit Go.Proofs.YtlgghcffmnofdaaGreatDoor.Cn Go.Proofs.YtlgghcffmnofdaaGreatDoor.Nu
set_option linter.unusedSimpArgs false
set_option maxRecDepth 100000

/-- A row of words. -/
def wrow (n : Nat) (f : Nat → Nat) : Array Value := ((List.range n).map fun i => w64 (f i)).toArray
theorem wrow_size (n : Nat) (f : Nat → Nat) : (wrow n f).size = n := by simp [wrow]
theorem wrow_at (n : Nat) (f : Nat → Nat) (i : Nat) (hi : i < n) : (wrow n f)[i]? = some (w64 (f i)) := by simp [wrow, hi]
theorem wrow_one (n : Nat) (f : Nat → Nat) : (wrow n f).all (·.oneCell') = true := by
  rw [Array.all_eq_true_iff_forall_mem]
  intro v hv
  simp only [wrow, List.mem_toArray, List.mem_map] at hv
  obtain ⟨i, _, rfl⟩ := hv
  rfl
theorem wrow_set (n : Nat) (f g : Nat → Nat) (j v : Nat) (hg : ∀ i, i < n → g i = if i = j then v else f i) : (wrow n f).setIfInBounds j (w64 v) = wrow n g := by
  apply Array.ext
  · simp [wrow]
  · intro i h1 h2
    simp only [wrow_size] at h2
    simp only [wrow, List.setIfInBounds_toArray, List.getElem_toArray, List.getElem_set, List.getElem_map, List.getElem_range, hg i h2]
    split
    · rename_i h; rw [if_pos h.symm]
    · rename_i h; rw [if_neg (fun e => h e.symm)]
/-- A block is a row of words. -/
def Rw (w : World) (b n : Nat) (f : Nat → Nat) (t : TypeId) : Prop := w.heap[b]? = some (.cells (wrow n f) t (0, 0))
theorem Rw.wd {w : World} {b n : Nat} {f : Nat → Nat} {t : TypeId} (h : Rw w b n f t) : Wd w b n f := Wd.row h (fun i hi => wrow_at n f i hi)
theorem Rw.below {w w' : World} {b n : Nat} {f : Nat → Nat} {t : TypeId} (h : Rw w b n f t) (hb : Below w.heap.size w w') : Rw w' b n f t := Vo.heap_below h hb
theorem Rw.set {w : World} {b n : Nat} {f : Nat → Nat} {t : TypeId} (h : Rw w b n f t) (j v : Nat) (g : Nat → Nat) (hg : ∀ i, i < n → g i = if i = j then v else f i) : Rw (w.setCell ⟨b, j, none⟩ (w64 v)) b n g t := by
  have := heap_setCell_same w b j (wrow n f) t (w64 v) h
  rw [wrow_set n f g j v hg] at this
  exact this
theorem Rw.far {w : World} {b n c j : Nat} {f : Nat → Nat} {t : TypeId} (h : Rw w b n f t) (v : Value) (hbc : b ≠ c) : Rw (w.setCell ⟨c, j, none⟩ v) b n f t := (Below.heap_setCell _ _ _ _ hbc).trans h

/-- The number of bytes, the highest first. -/
def beN (l : List UInt8) : Nat := l.foldl (fun o c => o * 256 + c.toNat) 0
theorem beN_append (l : List UInt8) (c : UInt8) : beN (l ++ [c]) = beN l * 256 + c.toNat := by simp [beN]
theorem beN_lt (l : List UInt8) : beN l < 256 ^ l.length := by
  have : ∀ (l : List UInt8) (o : Nat), l.foldl (fun o c => o * 256 + c.toNat) o < (o + 1) * 256 ^ l.length := by
    intro l
    induction l with
    | nil => intro o; simp
    | cons c r ih =>
      intro o
      have h1 := ih (o * 256 + c.toNat)
      have hc := c.toNat_lt
      refine Nat.lt_of_lt_of_le h1 ?_
      rw [List.length_cons, Nat.pow_succ, Nat.mul_comm (256 ^ r.length) 256, ← Nat.mul_assoc]
      exact Nat.mul_le_mul_right _ (by omega)
  have h := this l 0
  simpa [beN] using h

/-- The message's words. -/
def sg0 (x : Nat) : Nat := turnN x [1, 8] ^^^ x / 128
def sg1 (x : Nat) : Nat := turnN x [19, 61] ^^^ x / 64
def nextW (ws : List Nat) (k : Nat) : Nat := (((sg1 (ws.getD (k - 2) 0) + ws.getD (k - 7) 0) % 18446744073709551616 + sg0 (ws.getD (k - 15) 0)) % 18446744073709551616 + ws.getD (k - 16) 0) % 18446744073709551616
def wordsL (l : List UInt8) : Nat → List Nat
  | 0 => []
  | k + 1 => wordsL l k ++ [if k < 16 then beN ((l.drop (8 * k)).take 8) else nextW (wordsL l k) k]
theorem wordsL_length (l : List UInt8) : ∀ k, (wordsL l k).length = k
  | 0 => rfl
  | k + 1 => by simp [wordsL, wordsL_length l k]
def wtab (l : List UInt8) (k i : Nat) : Nat := (wordsL l k).getD i 0
theorem wtab_step (l : List UInt8) (k i : Nat) : wtab l (k + 1) i = if i = k then (if k < 16 then beN ((l.drop (8 * k)).take 8) else nextW (wordsL l k) k) else wtab l k i := by
  have hl := wordsL_length l k
  unfold wtab
  show (wordsL l k ++ [_]).getD i 0 = _
  rcases Nat.lt_trichotomy i k with h | h | h
  · rw [if_neg (show ¬ i = k by omega), List.getD_eq_getElem?_getD, List.getD_eq_getElem?_getD, List.getElem?_append_left (show i < (wordsL l k).length by omega)]
  · subst h; rw [if_pos rfl]; simp [List.getD_eq_getElem?_getD, hl]
  · rw [if_neg (show ¬ i = k by omega), List.getD_eq_getElem?_getD, List.getD_eq_getElem?_getD, List.getElem?_eq_none (by simp; omega), List.getElem?_eq_none (by omega)]
theorem wtab_lt (l : List UInt8) : ∀ k i, wtab l k i < 18446744073709551616
  | 0, i => by simp [wtab, wordsL]
  | k + 1, i => by
    rw [wtab_step]
    split
    · split
      · have h1 := beN_lt ((l.drop (8 * k)).take 8)
        have h2 : ((l.drop (8 * k)).take 8).length ≤ 8 := by simp; omega
        exact Nat.lt_of_lt_of_le h1 (Nat.le_trans (Nat.pow_le_pow_right (by decide) h2) (by decide))
      · exact Nat.mod_lt _ (by decide)
    · exact wtab_lt l k i

theorem run_load80 {w : World} {c : Nat} {f : Nat → Nat} {t : TypeId} (h : Rw w c 80 f t) : (Instr.loadAt 233 (.pointer (some ⟨c, 0, none⟩))).run Tryz.prog w = .ok (.agg (wrow 80 f)) w := by
  have := run_loadVar_row (P := Tryz.prog) w c t 233 (wrow 80 f) (0, 0) _ h Tryz.underlying233 rfl (by rw [wrow_size]; kernel_rfl)
  simp [Instr.loadAt, Instr.sureAddr, this]
theorem run_store80 {w : World} {c : Nat} {f g : Nat → Nat} {t : TypeId} (h : Rw w c 80 f t) : (Instr.storeAt 233 (.pointer (some ⟨c, 0, none⟩)) (.agg (wrow 80 g))).run Tryz.prog w = .ok () (w.setRow c (wrow 80 g)) := by
  have := run_storeVar_row (P := Tryz.prog) w c t 233 (wrow 80 f) (wrow 80 g) h (by rw [wrow_size]; kernel_rfl) (by rw [wrow_size, wrow_size]) (wrow_one _ _)
  simp [Instr.storeAt, Instr.sureAddr, this]
theorem row_set {w : World} {c n : Nat} {f : Nat → Nat} {t : TypeId} (h : Rw w c n f t) (g : Nat → Nat) : Rw (w.setRow c (wrow n g)) c n g t := setRow_heap w c _ _ t _ h
theorem wpList_loadX {P : Program} {ops : Array Oper} {rest : List Oper} {o : Oper} {a : Act} {Q : Exit → Act → World → Prop} {w : World} {x : Operand} {t : TypeId} {p v : Value} (hrun : (Instr.loadAt t p).run P w = .ok v w) (hg : o.guard = none) (hop : o.op = .load t x)
    (hx : a.eval x = p) (hK : wpList P ops Q rest (a.put o.dst v) w) : wpList P ops Q (o :: rest) a w := by
  refine wpList_plain hg fun K hK' => ?_
  unfold Oper.wp
  simp [execOp, hop, hx, hrun, Result.andThen]
  exact hK' _ _ hK
theorem wpList_storeX {P : Program} {ops : Array Oper} {rest : List Oper} {o : Oper} {a : Act} {Q : Exit → Act → World → Prop} {w w' : World} {x y : Operand} {t : TypeId} {p v : Value} (hrun : (Instr.storeAt t p v).run P w = .ok () w') (hg : o.guard = none) (hop : o.op = .store t x y)
    (hx : a.eval x = p) (hy : a.eval y = v) (hK : wpList P ops Q rest (a.put o.dst undef) w') : wpList P ops Q (o :: rest) a w := by
  refine wpList_plain hg fun K hK' => ?_
  unfold Oper.wp
  simp [execOp, hop, hx, hy, hrun, Result.andThen]
  exact hK' _ _ hK
theorem results_cell {P : Program} {fn : Func} {tmps : Array Value} {a g : Nat} {t : TypeId} {v : Value} {w : World} (hr : fn.results = #[.cell a t]) (ha : tmps.getD a undef = .pointer (some ⟨g, 0, none⟩)) (hl : (loadVar t ⟨g, 0, none⟩).run P w = .ok v w) :
    (results fn tmps).run P w = .ok v w := by
  rw [Array.getD_eq_getD_getElem?] at ha
  simp [results, hr, asAddr, ha, hl]
theorem run_loadVar80 {w : World} {c : Nat} {f : Nat → Nat} {t : TypeId} (h : Rw w c 80 f t) : (loadVar 233 ⟨c, 0, none⟩).run Tryz.prog w = .ok (.agg (wrow 80 f)) w :=
  run_loadVar_row (P := Tryz.prog) w c t 233 (wrow 80 f) (0, 0) _ h Tryz.underlying233 rfl (by rw [wrow_size]; kernel_rfl)
theorem ints2 {w : World} {b x y : Nat} {t : TypeId} (h : w.heap[b]? = some (.cells #[.int .i64 (x : Int), .int .i64 (y : Int)] t)) : Ints w b [x, y] := by
  refine ⟨fun i hi => ?_, Vo.heap_lt h⟩
  rw [cell_of_row w b i _ _ _ h]
  obtain rfl | rfl : i = 0 ∨ i = 1 := by simp at hi; omega
  all_goals rfl
theorem turned2_any (x a b c cap : Nat) (w : World) (hx : x < 18446744073709551616) (hn : Ints w c [a, b]) (h : 0 < a ∧ a < 64 ∧ 0 < b ∧ b < 64) :
    Calls Tryz.prog 189 #[w64 x, .slice (some ⟨c, 0, none⟩) 2 cap] w fun e w' => e = .returned (w64 (turnN x [a, b])) ∧ Below w.heap.size w w' :=
  turned_any x [a, b] c cap w hx hn (by
    intro n hn
    simp only [List.mem_cons, List.not_mem_nil, or_false] at hn
    rcases hn with rfl | rfl
    · exact ⟨h.1, h.2.1⟩
    · exact ⟨h.2.2.1, h.2.2.2⟩) (by simp)

set_option maxHeartbeats 16000000 in
theorem words_any (l : List UInt8) (v : Value) (w : World) (hv : Bsl w v l) (hlen : l.length = 128) :
    Calls Tryz.prog 188 #[v] w fun e w' => e = .returned (.agg (wrow 80 (wtab l 80))) ∧ Below w.heap.size w w' := by
  have hz : Tryz.zeroCells233 = wrow 80 (fun _ => 0) := by kernel_rfl
  obtain ⟨ad, cap, rfl, hcap, hc⟩ := hv
  have HC := Lib.hid hc
  have HLEN := Lib.hid hlen
  obtain ⟨bb, bo, rfl⟩ : ∃ bb bo, ad = some ⟨bb, bo, none⟩ := by
    obtain ⟨b, o, h1, _⟩ := hc 0 (by omega)
    exact ⟨b, o, h1⟩
  rw [hlen] at hcap ⊢
  clear hc hlen
  go_enter Tryz.func188, Tryz.ntmps188
  go_wp2_with fail

  go_loopw [9] (fun c wr => ∃ k : Nat, k ≤ 80 ∧ c = .int .i64 k ∧ Below w.heap.size w wr ∧ Rw wr (w.heap.size + 1) 80 (wtab l k) 233 ∧ Rw wr w.heap.size 80 (fun _ => 0) 233) (fun c _ => 80 - (intOf c).toNat)
  case atStart =>
    refine ⟨0, by omega, rfl, ((Below.refl _ _).alloc (Nat.le_refl _) _).alloc (by simp) _, ?_, Vo.heap_below (heap_alloc_new _ _) ((Below.refl _ _).alloc (Nat.le_refl _) _)⟩
    have := heap_alloc_new (w.alloc (Obj.cells (wrow 80 fun _ => 0) 233)) (Obj.cells (wrow 80 fun _ => 0) 233)
    rw [World.size_alloc] at this
    exact this
  case round =>
    obtain ⟨k, hk, rfl, bel, RT, RO⟩ := hrel
    by_cases hk80 : k < 80
    · have hlt : decide ((k : Int) < 80) = true := decide_eq_true (by omega)
      have hk0 : (0 : Int) ≤ (k : Int) := by omega
      have hk1 : IntKind.i64.wrap ((k : Int) + 1) = (k : Int) + 1 := by rw [IntKind.wrap_i64]; omega
      by_cases hk16 : k < 16
      · have hlt2 : decide ((k : Int) < 16) = true := decide_eq_true (by omega)
        obtain ⟨q, hq⟩ : ∃ q, q = 8 * k := ⟨_, rfl⟩
        obtain ⟨q8, hq8⟩ : ∃ q8, q8 = 8 * k + 8 := ⟨_, rfl⟩
        have h8 : IntKind.i64.wrap (8 * (k : Int)) = (q : Int) := by rw [IntKind.wrap_i64]; omega
        have h88 : IntKind.i64.wrap ((q : Int) + 8) = (q8 : Int) := by rw [IntKind.wrap_i64]; omega
        have hb0 : (0 : Int) ≤ (q : Int) := by omega
        have hb1 : (q : Int) ≤ (q8 : Int) := by omega
        have hb2 : (q8 : Int) ≤ (cap : Int) := by omega
        have hb3 : (0 : Int) ≤ (q8 : Int) := by omega
        have hb4 : q8 - q = 8 := by omega
        have HK := Lib.hid (And.intro hk80 hk16)
        have HQ := Lib.hid hq
        clear hk80 hk16 hk hq hq8
        go_wp2_with fail
        go_loopw [22] (fun c wr => ∃ j : Nat, j ≤ 8 ∧ c = .int .i64 j ∧ Below w.heap.size w wr ∧ Rw wr w.heap.size 80 (fun _ => 0) 233 ∧ Rw wr (w.heap.size + 1) 80 (fun i => if i = k then beN ((l.drop q).take j) else wtab l k i) 233) (fun c _ => 8 - (intOf c).toNat)
        case atStart =>
          refine ⟨0, by omega, rfl, bel, RO, ?_⟩
          have e : (fun i => if i = k then beN ((l.drop q).take 0) else wtab l k i) = wtab l k := by
            funext i
            split
            · rename_i h; rw [h]; simp [wtab, wordsL_length, beN]
            · rfl
          rw [e]
          exact RT
        case round =>
          obtain ⟨j, hj, rfl, beli, ROi, RTi⟩ := hrel
          clear bel RO RT
          by_cases hj8 : j < 8
          · have hjlt : decide ((j : Int) < 8) = true := decide_eq_true (by omega)
            have hj0 : (0 : Int) ≤ (j : Int) := by omega
            have hjj : (j : Int) < 8 := by omega
            have hj1 : IntKind.i64.wrap ((j : Int) + 1) = (j : Int) + 1 := by rw [IntKind.wrap_i64]; omega
            have hqj : q + j < l.length := by have := HK.out; have := HQ.out; have := HLEN.out; omega
            have hcj : w.cell? ⟨bb, bo + q + j, none⟩ = some (.int .u8 (l[q + j].toNat)) := by
              obtain ⟨b, o, h1, h2⟩ := HC.out (q + j) hqj
              cases h1
              rw [← Nat.add_assoc] at h2
              exact h2
            have cj : wr.cell? ⟨bb, bo + q + j, none⟩ = some (.int .u8 (l[q + j].toNat)) := cell_below hcj beli
            have ck : wr.cell? ⟨w.heap.size + 1, k, none⟩ = some (w64 (beN ((l.drop q).take j))) := by
              have := RTi.wd.at_ k HK.out.1
              simpa using this
            have fk := RTi.wd.thaw
            have lk := RTi.wd.lt
            have HBE : Hid (beN ((l.drop q).take (j + 1)) = beN ((l.drop q).take j) * 256 + l[q + j].toNat) := Lib.hid (by
              rw [← beN_append, List.take_succ_eq_append_getElem (by simp; omega)]
              simp)
            have hol : beN ((l.drop q).take j) < 72057594037927936 := by
              have h1 := beN_lt ((l.drop q).take j)
              have h2 : ((l.drop q).take j).length ≤ 7 := by simp; omega
              exact Nat.lt_of_lt_of_le h1 (Nat.le_trans (Nat.pow_le_pow_right (by decide) h2) (by decide))
            have hcl := (l[q + j]).toNat_lt
            have HJ := Lib.hid hj8
            have HRT := Lib.hid RTi
            have HRO := Lib.hid ROi
            have hk80 : (k : Int) < 80 := by have := HK.out; omega
            clear hcj RTi ROi hj hj8
            generalize beN ((l.drop q).take j) = o at *
            generalize (l[q + j]).toNat = c at *
            obtain ⟨o2, ho2⟩ : ∃ o2, o2 = o * 256 := ⟨_, rfl⟩
            have hshl : IntKind.u64.wrap ((o : Int) * 256) = (o2 : Int) := by rw [wrap_u64]; omega
            have hcw : IntKind.u64.wrap (c : Int) = (c : Int) := by rw [wrap_u64]; omega
            have hor : bits .or .u64 (o2 : Int) (c : Int) = ((o * 256 + c : Nat) : Int) := by
              rw [bits_join .u64 64 (by decide) wraps_u64 8 (o2 : Int) (c : Int) (by omega) (by omega) (by omega) (by omega) (by omega) (by omega)]
              omega
            obtain ⟨o3, ho3⟩ : ∃ o3, o3 = o * 256 + c := ⟨_, rfl⟩
            rw [← ho3] at hor HBE
            clear ho2 ho3 hol hcl hqj
            go_wp2_with fail
            go_roundw
            case rel =>
              refine ⟨j + 1, by have := HJ.out; omega, by simp, beli.setCell (by simp) _, HRO.out.far _ (by omega), HRT.out.set k o3 _ (fun i hi => ?_)⟩
              rw [HBE.out]
              split <;> rfl
            case measure => have := HJ.out; simp [intOf]; omega
          · obtain rfl : j = 8 := by omega
            have hjlt : decide ((8 : Int) < 8) = false := by decide
            have HST : Hid (∀ i, wtab l (k + 1) i = if i = k then beN ((l.drop q).take 8) else wtab l k i) := Lib.hid (fun i => by rw [wtab_step, if_pos HK.out.2, HQ.out])
            have e : (fun i => if i = k then beN ((l.drop q).take 8) else wtab l k i) = wtab l (k + 1) := by funext i; rw [HST.out]
            rw [e] at RTi
            clear hj hj8
            go_wp2_with fail
            go_roundw
            case rel => exact ⟨k + 1, by have := HK.out; omega, by simp, beli, RTi, ROi⟩
            case measure => have := HK.out; simp [intOf]; omega
      · have hlt2 : decide ((k : Int) < 16) = false := decide_eq_false (by omega)
        have hlt3 : decide (k < 16) = false := decide_eq_false hk16
        have HST : Hid (∀ i, wtab l (k + 1) i = if i = k then nextW (wordsL l k) k else wtab l k i) := Lib.hid (fun i => by rw [wtab_step, if_neg hk16])
        obtain ⟨j15, h15⟩ : ∃ j, j = k - 15 := ⟨_, rfl⟩
        obtain ⟨j2, h2⟩ : ∃ j, j = k - 2 := ⟨_, rfl⟩
        obtain ⟨j7, h7⟩ : ∃ j, j = k - 7 := ⟨_, rfl⟩
        obtain ⟨j16, h16⟩ : ∃ j, j = k - 16 := ⟨_, rfl⟩
        have e15 : IntKind.i64.wrap ((k : Int) - 15) = (j15 : Int) := by rw [IntKind.wrap_i64]; omega
        have e2 : IntKind.i64.wrap ((k : Int) - 2) = (j2 : Int) := by rw [IntKind.wrap_i64]; omega
        have e7 : IntKind.i64.wrap ((k : Int) - 7) = (j7 : Int) := by rw [IntKind.wrap_i64]; omega
        have e16 : IntKind.i64.wrap ((k : Int) - 16) = (j16 : Int) := by rw [IntKind.wrap_i64]; omega
        have b15 : (0 : Int) ≤ (j15 : Int) ∧ (j15 : Int) < 80 := by omega
        have b2 : (0 : Int) ≤ (j2 : Int) ∧ (j2 : Int) < 80 := by omega
        have b7 : (0 : Int) ≤ (j7 : Int) ∧ (j7 : Int) < 80 := by omega
        have b16 : (0 : Int) ≤ (j16 : Int) ∧ (j16 : Int) < 80 := by omega
        have bk : (k : Int) < 80 := by omega
        have c15 := RT.wd.at_ j15 (by omega)
        have c2 := RT.wd.at_ j2 (by omega)
        have c7 := RT.wd.at_ j7 (by omega)
        have c16 := RT.wd.at_ j16 (by omega)
        have L15 := Lib.hid (wtab_lt l k j15)
        have L2 := Lib.hid (wtab_lt l k j2)
        have L7 := Lib.hid (wtab_lt l k j7)
        have L16 := Lib.hid (wtab_lt l k j16)
        have HN : Hid (nextW (wordsL l k) k = (((sg1 (wtab l k j2) + wtab l k j7) % 18446744073709551616 + sg0 (wtab l k j15)) % 18446744073709551616 + wtab l k j16) % 18446744073709551616) := Lib.hid (by rw [h2, h7, h15, h16]; rfl)
        have HK := Lib.hid hk80
        have HRT := Lib.hid RT
        have HRO := Lib.hid RO
        have lt1 := RT.wd.lt
        clear RT RO hk hk80 hk16 h15 h2 h7 h16
        have HS0 : Hid (sg0 (wtab l k j15) = turnN (wtab l k j15) [1, 8] ^^^ wtab l k j15 / 128) := Lib.hid rfl
        have HS1 : Hid (sg1 (wtab l k j2) = turnN (wtab l k j2) [19, 61] ^^^ wtab l k j2 / 64) := Lib.hid rfl
        generalize wtab l k j15 = x15 at *
        generalize wtab l k j2 = x2 at *
        generalize wtab l k j7 = x7 at *
        generalize wtab l k j16 = x16 at *
        obtain ⟨s0, hs0⟩ : ∃ s, s = sg0 x15 := ⟨_, rfl⟩
        obtain ⟨s1, hs1⟩ : ∃ s, s = sg1 x2 := ⟨_, rfl⟩
        have hxr0 : bits .xor .u64 ((turnN x15 [1, 8] : Nat) : Int) ((x15 : Int) / 128) = (s0 : Int) := by
          rw [show (x15 : Int) / 128 = ((x15 / 128 : Nat) : Int) by omega, bits_xor_u64_nat _ _ (turnN_lt _ L15.out _) (Nat.lt_of_le_of_lt (Nat.div_le_self _ _) L15.out), hs0, HS0.out]
        have hxr1 : bits .xor .u64 ((turnN x2 [19, 61] : Nat) : Int) ((x2 : Int) / 64) = (s1 : Int) := by
          rw [show (x2 : Int) / 64 = ((x2 / 64 : Nat) : Int) by omega, bits_xor_u64_nat _ _ (turnN_lt _ L2.out _) (Nat.lt_of_le_of_lt (Nat.div_le_self _ _) L2.out), hs1, HS1.out]
        rw [← hs0, ← hs1] at HN
        clear hs0 hs1 HS0 HS1
        go_upto_region 11 with (fail)
        (refine wp_region_mildF 12 [false, false, false, false, false, false, false, false, false, false, false, false] (by kernel_rfl) (by kernel_rfl) ?_; simp only [List.take_succ_cons, List.take_zero, List.drop_succ_cons, List.drop_zero])
        (apply wpMildF_const; (focus (intro wm hm; have hrw := fun p h => Go.RowKit.Below.cell (p := p) hm h; go_simp; exact rfl)); simp only [List.cons_append, List.nil_append])
        (apply wpMildF_const; (focus (intro wm hm; have hrw := fun p h => Go.RowKit.Below.cell (p := p) hm h; go_simp; exact rfl)); simp only [List.cons_append, List.nil_append])
        (apply wpMildF_const; (focus (intro wm hm; have hrw := fun p h => Go.RowKit.Below.cell (p := p) hm h; go_simp; exact rfl)); simp only [List.cons_append, List.nil_append])
        (apply wpMildF_const; (focus (intro wm hm; have hrw := fun p h => Go.RowKit.Below.cell (p := p) hm h; go_simp; exact rfl)); simp only [List.cons_append, List.nil_append])
        (refine wpMildF_some (fun v w' => ∃ c, v = .slice (some ⟨c, 0, none⟩) 2 2 ∧ 0 ≤ c ∧ w'.heap[c]? = some (Obj.cells #[.int .i64 1, .int .i64 8] 3)) ?_ ?_ ?_; (focus (intro wm hm; have hrw := fun p h => Go.RowKit.Below.cell (p := p) hm h; go_simp; (exact ⟨(Below.refl _ _).alloc (Nat.le_refl _) _, by first | exact heap_alloc_new _ _ | exact (Array.getElem?_eq_some_iff.1 (heap_alloc_new _ _)).2 | exact ⟨Nat.zero_le _, heap_alloc_new _ _⟩⟩))); (focus (first | exact Go.md_stays_eq _ | (intro v w w' h hb; first | exact Bsl.below h hb | exact Sizes.stays _ _ _ h hb | (obtain ⟨c, h1, h2, h3⟩ := h; exact ⟨c, h1, h2, Vo.heap_below h3 hb⟩) | fail))); simp only [List.cons_append, List.nil_append])
        (apply wpMildF_call; (focus (intro wm hm; have hrw := fun p h => Go.RowKit.Below.cell (p := p) hm h; go_simp; (intro v c hv hc; subst hv; exact Calls.mild (turned2_any x15 1 8 c 2 _ L15.out (ints2 hc) (by decide))))); (focus (first | exact Go.md_stays_eq _ | (intro v w w' h hb; first | exact Bsl.below h hb | exact Sizes.stays _ _ _ h hb | (obtain ⟨c, h1, h2, h3⟩ := h; exact ⟨c, h1, h2, Vo.heap_below h3 hb⟩) | fail))); simp only [List.cons_append, List.nil_append])
        (apply wpMildF_const; (focus (intro wm hm; have hrw := fun p h => Go.RowKit.Below.cell (p := p) hm h; go_simp; exact rfl)); simp only [List.cons_append, List.nil_append])
        (apply wpMildF_const; (focus (intro wm hm; have hrw := fun p h => Go.RowKit.Below.cell (p := p) hm h; go_simp; exact rfl)); simp only [List.cons_append, List.nil_append])
        (apply wpMildF_const; (focus (intro wm hm; have hrw := fun p h => Go.RowKit.Below.cell (p := p) hm h; go_simp; exact rfl)); simp only [List.cons_append, List.nil_append])
        (apply wpMildF_const; (focus (intro wm hm; have hrw := fun p h => Go.RowKit.Below.cell (p := p) hm h; go_simp; exact rfl)); simp only [List.cons_append, List.nil_append])
        (apply wpMildF_const; (focus (intro wm hm; have hrw := fun p h => Go.RowKit.Below.cell (p := p) hm h; go_simp; exact rfl)); simp only [List.cons_append, List.nil_append])
        (apply wpMildF_const; (focus (intro wm hm; have hrw := fun p h => Go.RowKit.Below.cell (p := p) hm h; go_simp; exact rfl)); simp only [List.cons_append, List.nil_append])
        (refine wpMildF_nil ?_; intro wm hm; simp only [mildAllF, MWord.blk_at, md_off, forall_eq, forall_exists_index, and_imp, and_true, true_implies, Act.put, List.setIfInBounds_toArray, List.set_cons_succ, List.set_cons_zero, forall_eq_apply_imp_iff])
        intro _ _ _ _ _
        have d2 := (hm.cell (p := ⟨w.heap.size + 1, j2, none⟩) lt1).trans c2
        have d7 := (hm.cell (p := ⟨w.heap.size + 1, j7, none⟩) lt1).trans c7
        have d16 := (hm.cell (p := ⟨w.heap.size + 1, j16, none⟩) lt1).trans c16
        have bel1 := bel.trans (hm.mono bel.size)
        have HRT1 := Lib.hid (HRT.out.below hm)
        have HRO1 := Lib.hid (HRO.out.below hm)
        have lt2 := HRT1.out.wd.lt
        clear c15 c2 c7 c16 bel HRT HRO lt1 hm e15 b15 hxr0
        go_upto_region 12 with (fail)
        (refine wp_region_mildF 12 [false, false, false, false, false, false, false, false, false, false, false, false] (by kernel_rfl) (by kernel_rfl) ?_; simp only [List.take_succ_cons, List.take_zero, List.drop_succ_cons, List.drop_zero])
        (apply wpMildF_const; (focus (intro wm hm; have hrw := fun p h => Go.RowKit.Below.cell (p := p) hm h; go_simp; exact rfl)); simp only [List.cons_append, List.nil_append])
        (apply wpMildF_const; (focus (intro wm hm; have hrw := fun p h => Go.RowKit.Below.cell (p := p) hm h; go_simp; exact rfl)); simp only [List.cons_append, List.nil_append])
        (apply wpMildF_const; (focus (intro wm hm; have hrw := fun p h => Go.RowKit.Below.cell (p := p) hm h; go_simp; exact rfl)); simp only [List.cons_append, List.nil_append])
        (apply wpMildF_const; (focus (intro wm hm; have hrw := fun p h => Go.RowKit.Below.cell (p := p) hm h; go_simp; exact rfl)); simp only [List.cons_append, List.nil_append])
        (refine wpMildF_some (fun v w' => ∃ c, v = .slice (some ⟨c, 0, none⟩) 2 2 ∧ 0 ≤ c ∧ w'.heap[c]? = some (Obj.cells #[.int .i64 19, .int .i64 61] 3)) ?_ ?_ ?_; (focus (intro wm hm; have hrw := fun p h => Go.RowKit.Below.cell (p := p) hm h; go_simp; (exact ⟨(Below.refl _ _).alloc (Nat.le_refl _) _, by first | exact heap_alloc_new _ _ | exact (Array.getElem?_eq_some_iff.1 (heap_alloc_new _ _)).2 | exact ⟨Nat.zero_le _, heap_alloc_new _ _⟩⟩))); (focus (first | exact Go.md_stays_eq _ | (intro v w w' h hb; first | exact Bsl.below h hb | exact Sizes.stays _ _ _ h hb | (obtain ⟨c, h1, h2, h3⟩ := h; exact ⟨c, h1, h2, Vo.heap_below h3 hb⟩) | fail))); simp only [List.cons_append, List.nil_append])
        (apply wpMildF_call; (focus (intro wm hm; have hrw := fun p h => Go.RowKit.Below.cell (p := p) hm h; go_simp; (intro v c hv hc; subst hv; exact Calls.mild (turned2_any x2 19 61 c 2 _ L2.out (ints2 hc) (by decide))))); (focus (first | exact Go.md_stays_eq _ | (intro v w w' h hb; first | exact Bsl.below h hb | exact Sizes.stays _ _ _ h hb | (obtain ⟨c, h1, h2, h3⟩ := h; exact ⟨c, h1, h2, Vo.heap_below h3 hb⟩) | fail))); simp only [List.cons_append, List.nil_append])
        (apply wpMildF_const; (focus (intro wm hm; have hrw := fun p h => Go.RowKit.Below.cell (p := p) hm h; go_simp; exact rfl)); simp only [List.cons_append, List.nil_append])
        (apply wpMildF_const; (focus (intro wm hm; have hrw := fun p h => Go.RowKit.Below.cell (p := p) hm h; go_simp; exact rfl)); simp only [List.cons_append, List.nil_append])
        (apply wpMildF_const; (focus (intro wm hm; have hrw := fun p h => Go.RowKit.Below.cell (p := p) hm h; go_simp; exact rfl)); simp only [List.cons_append, List.nil_append])
        (apply wpMildF_const; (focus (intro wm hm; have hrw := fun p h => Go.RowKit.Below.cell (p := p) hm h; go_simp; exact rfl)); simp only [List.cons_append, List.nil_append])
        (apply wpMildF_const; (focus (intro wm hm; have hrw := fun p h => Go.RowKit.Below.cell (p := p) hm h; go_simp; exact rfl)); simp only [List.cons_append, List.nil_append])
        (apply wpMildF_const; (focus (intro wm hm; have hrw := fun p h => Go.RowKit.Below.cell (p := p) hm h; go_simp; exact rfl)); simp only [List.cons_append, List.nil_append])
        (refine wpMildF_nil ?_; intro wm hm; simp only [mildAllF, MWord.blk_at, md_off, forall_eq, forall_exists_index, and_imp, and_true, true_implies, Act.put, List.setIfInBounds_toArray, List.set_cons_succ, List.set_cons_zero, forall_eq_apply_imp_iff])
        intro _ _ _ _ _
        have c7 := (hm.cell (p := ⟨w.heap.size + 1, j7, none⟩) lt2).trans d7
        have c16 := (hm.cell (p := ⟨w.heap.size + 1, j16, none⟩) lt2).trans d16
        have bel2 := bel1.trans (hm.mono bel1.size)
        have HRT2 := Lib.hid (HRT1.out.below hm)
        have HRO2 := Lib.hid (HRO1.out.below hm)
        have lt3 := HRT2.out.wd.lt
        clear d2 d7 d16 bel1 HRT1 HRO1 lt2 hm e2 b2 hxr1
        obtain ⟨a1, ha1⟩ : ∃ a, a = (s1 + x7) % 18446744073709551616 := ⟨_, rfl⟩
        obtain ⟨a2, ha2⟩ : ∃ a, a = (a1 + s0) % 18446744073709551616 := ⟨_, rfl⟩
        obtain ⟨a3, ha3⟩ : ∃ a, a = (a2 + x16) % 18446744073709551616 := ⟨_, rfl⟩
        have w1 : IntKind.u64.wrap ((s1 : Int) + (x7 : Int)) = (a1 : Int) := by rw [wrap_u64]; omega
        have w2 : IntKind.u64.wrap ((a1 : Int) + (s0 : Int)) = (a2 : Int) := by rw [wrap_u64]; omega
        have w3 : IntKind.u64.wrap ((a2 : Int) + (x16 : Int)) = (a3 : Int) := by rw [wrap_u64]; omega
        rw [← ha1, ← ha2, ← ha3] at HN
        clear ha1 ha2 ha3
        go_upto_region 13 with (fail)
        (refine wp_region_mildF 15 [false, false, false, false, false, false, false, false, false, false, false, false, false, false, false] (by kernel_rfl) (by kernel_rfl) ?_; simp only [List.take_succ_cons, List.take_zero, List.drop_succ_cons, List.drop_zero])
        (apply wpMildF_const; (focus (intro wm hm; have hrw := fun p h => Go.RowKit.Below.cell (p := p) hm h; go_simp; exact rfl)); simp only [List.cons_append, List.nil_append])
        (apply wpMildF_const; (focus (intro wm hm; have hrw := fun p h => Go.RowKit.Below.cell (p := p) hm h; go_simp; exact rfl)); simp only [List.cons_append, List.nil_append])
        (apply wpMildF_const; (focus (intro wm hm; have hrw := fun p h => Go.RowKit.Below.cell (p := p) hm h; go_simp; exact rfl)); simp only [List.cons_append, List.nil_append])
        (apply wpMildF_const; (focus (intro wm hm; have hrw := fun p h => Go.RowKit.Below.cell (p := p) hm h; go_simp; exact rfl)); simp only [List.cons_append, List.nil_append])
        (apply wpMildF_const; (focus (intro wm hm; have hrw := fun p h => Go.RowKit.Below.cell (p := p) hm h; go_simp; exact rfl)); simp only [List.cons_append, List.nil_append])
        (apply wpMildF_const; (focus (intro wm hm; have hrw := fun p h => Go.RowKit.Below.cell (p := p) hm h; go_simp; exact rfl)); simp only [List.cons_append, List.nil_append])
        (apply wpMildF_const; (focus (intro wm hm; have hrw := fun p h => Go.RowKit.Below.cell (p := p) hm h; go_simp; exact rfl)); simp only [List.cons_append, List.nil_append])
        (apply wpMildF_const; (focus (intro wm hm; have hrw := fun p h => Go.RowKit.Below.cell (p := p) hm h; go_simp; exact rfl)); simp only [List.cons_append, List.nil_append])
        (apply wpMildF_const; (focus (intro wm hm; have hrw := fun p h => Go.RowKit.Below.cell (p := p) hm h; go_simp; exact rfl)); simp only [List.cons_append, List.nil_append])
        (apply wpMildF_const; (focus (intro wm hm; have hrw := fun p h => Go.RowKit.Below.cell (p := p) hm h; go_simp; exact rfl)); simp only [List.cons_append, List.nil_append])
        (apply wpMildF_const; (focus (intro wm hm; have hrw := fun p h => Go.RowKit.Below.cell (p := p) hm h; go_simp; exact rfl)); simp only [List.cons_append, List.nil_append])
        (apply wpMildF_const; (focus (intro wm hm; have hrw := fun p h => Go.RowKit.Below.cell (p := p) hm h; go_simp; exact rfl)); simp only [List.cons_append, List.nil_append])
        (apply wpMildF_const; (focus (intro wm hm; have hrw := fun p h => Go.RowKit.Below.cell (p := p) hm h; go_simp; exact rfl)); simp only [List.cons_append, List.nil_append])
        (apply wpMildF_const; (focus (intro wm hm; have hrw := fun p h => Go.RowKit.Below.cell (p := p) hm h; go_simp; exact rfl)); simp only [List.cons_append, List.nil_append])
        (apply wpMildF_const; (focus (intro wm hm; have hrw := fun p h => Go.RowKit.Below.cell (p := p) hm h; go_simp; exact rfl)); simp only [List.cons_append, List.nil_append])
        (refine wpMildF_nil ?_; intro wm hm; simp only [mildAllF, MWord.blk_at, md_off, forall_eq, forall_exists_index, and_imp, and_true, true_implies, Act.put, List.setIfInBounds_toArray, List.set_cons_succ, List.set_cons_zero, forall_eq_apply_imp_iff])
        have bel3 := bel2.trans (hm.mono bel2.size)
        have HRT3 := Lib.hid (HRT2.out.below hm)
        have HRO3 := Lib.hid (HRO2.out.below hm)
        have ck := HRT3.out.wd.at_ k HK.out
        have fk := HRT3.out.wd.thaw
        have lt4 := HRT3.out.wd.lt
        clear c7 c16 bel2 HRT2 HRO2 lt3 hm e7 b7 e16 b16 w1 w2 w3
        go_wp2_with fail
        go_roundw
        case rel =>
          refine ⟨k + 1, by have := HK.out; omega, by simp, bel3.setCell (by simp) _, HRT3.out.set k a3 _ (fun i hi => ?_), HRO3.out.far _ (by omega)⟩
          rw [HST.out, HN.out]
        case measure => have := HK.out; simp [intOf]; omega
    · obtain rfl : k = 80 := by omega
      clear hk hk80
      go_upto_region 15 with (fail)
      refine wp_region_lit ?_
      refine wpList_loadX (run_load80 RT) rfl rfl rfl ?_
      refine wpList_storeX (run_store80 RO) rfl rfl rfl rfl ?_
      simp only [Act.put]
      have RO2 := row_set RO (wtab l 80)
      have bel2 := Go.below_setRow bel (Nat.le_refl _) (wrow 80 (wtab l 80))
      generalize wr.setRow w.heap.size (wrow 80 (wtab l 80)) = w2 at *
      have hzs := bel2.size
      clear RT RO bel
      go_wp2
      refine bodyPost_ret (v := .agg (wrow 80 (wtab l 80))) ?_ rfl ?_
      · exact results_cell Tryz.results188 rfl (run_loadVar80 RO2)
      · exact ⟨rfl, by go_grown⟩
end Go.Proofs.YtlgghcffmnofdaaGreatDoor.Sh
