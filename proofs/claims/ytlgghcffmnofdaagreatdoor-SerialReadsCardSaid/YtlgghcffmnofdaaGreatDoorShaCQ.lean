/-
  The walk of sha.state.block.
-/
import Derived.Laws.Bits64b
import Derived.BigQuiet
import Derived.Deep.QuietTactic
import Derived.Test.YtlgghcffmnofdaaGreatDoorShaBQ

namespace Go.Proofs.YtlgghcffmnofdaaGreatDoor.Sh
open Go Go.RowKit Go.Proofs.YtlgghcffmnofdaaGreatDoor.Cn Go.Proofs.YtlgghcffmnofdaaGreatDoor.Nu
set_option linter.unusedSimpArgs false
set_option maxRecDepth 100000

/-- A hash's row: eight words, what is left, its length, its size. -/
def hrow (st : Nat → Nat) (left n size : Value) : Array Value := #[w64 (st 0), w64 (st 1), w64 (st 2), w64 (st 3), w64 (st 4), w64 (st 5), w64 (st 6), w64 (st 7), left, n, size]
theorem hrow_at (st : Nat → Nat) (left n size : Value) (i : Nat) (hi : i < 8) : (hrow st left n size)[i]? = some (w64 (st i)) := by
  obtain rfl | rfl | rfl | rfl | rfl | rfl | rfl | rfl : i = 0 ∨ i = 1 ∨ i = 2 ∨ i = 3 ∨ i = 4 ∨ i = 5 ∨ i = 6 ∨ i = 7 := by omega
  all_goals rfl
theorem hrow_set (st st' : Nat → Nat) (left n size : Value) (j v : Nat) (hj : j < 8) (h : ∀ i, i < 8 → st' i = if i = j then v else st i) : (hrow st left n size).setIfInBounds j (w64 v) = hrow st' left n size := by
  have e : ∀ i, i < 8 → st' i = if i = j then v else st i := h
  obtain rfl | rfl | rfl | rfl | rfl | rfl | rfl | rfl : j = 0 ∨ j = 1 ∨ j = 2 ∨ j = 3 ∨ j = 4 ∨ j = 5 ∨ j = 6 ∨ j = 7 := by omega
  all_goals simp [hrow, e]

def M64 : Nat := 18446744073709551616
def chN (e f g : Nat) : Nat := (e &&& f) ^^^ ((18446744073709551615 ^^^ e) &&& g)
def majN (a b c : Nat) : Nat := (a &&& b) ^^^ (a &&& c) ^^^ (b &&& c)
def t1N (kc wc : Nat) (v : Nat → Nat) : Nat := ((((v 7 + turnN (v 4) [14, 18, 41]) % 18446744073709551616 + chN (v 4) (v 5) (v 6)) % 18446744073709551616 + kc) % 18446744073709551616 + wc) % 18446744073709551616
def t2N (v : Nat → Nat) : Nat := (turnN (v 0) [28, 34, 39] + majN (v 0) (v 1) (v 2)) % 18446744073709551616
def rndN (kc wc : Nat) (v : Nat → Nat) (i : Nat) : Nat := if i = 0 then (t1N kc wc v + t2N v) % 18446744073709551616 else if i = 4 then (v 3 + t1N kc wc v) % 18446744073709551616 else v (i - 1)
def vst (K W st : Nat → Nat) : Nat → Nat → Nat
  | 0 => st
  | k + 1 => rndN (K k) (W k) (vst K W st k)
def nextS (K W st : Nat → Nat) (i : Nat) : Nat := (st i + vst K W st 80 i) % 18446744073709551616

theorem vst_lt (K W st : Nat → Nat) (h : ∀ i, i < 8 → st i < 18446744073709551616) : ∀ k i, i < 8 → vst K W st k i < 18446744073709551616
  | 0, i, hi => h i hi
  | k + 1, i, hi => by
    show rndN _ _ _ i < _
    unfold rndN
    split
    · exact Nat.mod_lt _ (by decide)
    · split
      · exact Nat.mod_lt _ (by decide)
      · exact vst_lt K W st h k (i - 1) (by omega)

theorem index80 (W : Nat → Nat) (k : Nat) (hk : k < 80) (w : World) : (Instr.index 233 (.agg (wrow 80 W)) (.int .i64 (k : Int))).run Tryz.prog w = .ok (w64 (W k)) w := by
  obtain ⟨i, hi⟩ : ∃ i, Tryz.prog.info? 148 = some i := Option.isSome_iff_exists.1 (by kernel_rfl)
  have h2 := wrow_at 80 W k hk
  have hs : i.size = 1 := by
    have : (Tryz.prog.info? 148).map (·.size) = some 1 := by kernel_rfl
    rw [hi] at this
    simpa using this
  have h0 : (0 : Int) ≤ (k : Int) ∧ (k : Int) < 80 := by omega
  simp [Instr.index, asIntOf, run_underlying Tryz.underlying233, h0]
  rw [if_pos hk]
  simp [part, isAgg, run_underlying Tryz.underlying148, h2]

theorem ints3 {w : World} {b x y z : Nat} {t : TypeId} (h : w.heap[b]? = some (.cells #[.int .i64 (x : Int), .int .i64 (y : Int), .int .i64 (z : Int)] t)) : Ints w b [x, y, z] := by
  refine ⟨fun i hi => ?_, Vo.heap_lt h⟩
  rw [cell_of_row w b i _ _ _ h]
  obtain rfl | rfl | rfl : i = 0 ∨ i = 1 ∨ i = 2 := by simp at hi; omega
  all_goals rfl
theorem turned3_any (x a b d c cap : Nat) (w : World) (hx : x < 18446744073709551616) (hn : Ints w c [a, b, d]) (h : 0 < a ∧ a < 64 ∧ 0 < b ∧ b < 64 ∧ 0 < d ∧ d < 64) :
    Calls Tryz.prog 189 #[w64 x, .slice (some ⟨c, 0, none⟩) 3 cap] w fun e w' => e = .returned (w64 (turnN x [a, b, d])) ∧ Below w.heap.size w w' :=
  turned_any x [a, b, d] c cap w hx hn (by
    intro n hn
    simp only [List.mem_cons, List.not_mem_nil, or_false] at hn
    rcases hn with rfl | rfl | rfl
    · exact ⟨h.1, h.2.1⟩
    · exact ⟨h.2.2.1, h.2.2.2.1⟩
    · exact ⟨h.2.2.2.2.1, h.2.2.2.2.2⟩) (by simp)
theorem wrow8 (f : Nat → Nat) : wrow 8 f = #[w64 (f 0), w64 (f 1), w64 (f 2), w64 (f 3), w64 (f 4), w64 (f 5), w64 (f 6), w64 (f 7)] := rfl

set_option maxHeartbeats 16000000 in
theorem block_any (K st : Nat → Nat) (l : List UInt8) (v : Value) (g : Nat) (left n size : Value) (w : World) (hv : Bsl w v l) (hlen : l.length = 128) (hst : ∀ i, i < 8 → st i < 18446744073709551616)
    (hg : w.heap[g]? = some (.cells (hrow st left n size) 229 (0, 0))) (hK : Wd w 6 80 K) :
    Calls Tryz.prog 135 #[.pointer (some ⟨g, 0, none⟩), v] w fun e w' => e = .returned (.tuple #[]) ∧ w.grownBy w' (some g) ∧ w'.heap[g]? = some (.cells (hrow (nextS K (wtab l 80) st) left n size) 229 (0, 0)) := by
  have HV := Lib.hid hv
  have HW := Lib.hid (fun w hv => words_any l v w hv hlen)
  have hgl := md_heap_lt hg
  have HST := Lib.hid hst
  have hst : ∀ i, i < 8 → w.cell? ⟨g, i, none⟩ = some (w64 (st i)) := fun i hi => by rw [cell_of_row w g i _ _ _ hg]; exact hrow_at st left n size i hi
  have s0 := hst 0 (by omega)
  have s1 := hst 1 (by omega)
  have s2 := hst 2 (by omega)
  have s3 := hst 3 (by omega)
  have s4 := hst 4 (by omega)
  have s5 := hst 5 (by omega)
  have s6 := hst 6 (by omega)
  have s7 := hst 7 (by omega)
  have HG := Lib.hid hg
  have HKW := Lib.hid hK
  clear hv hlen hg hK hst
  generalize wtab l 80 = W at *
  go_enter Tryz.func135, Tryz.ntmps135
  go_upto_region 1 with (fail)
  have B0 := (Below.refl w.heap.size w).alloc (Nat.le_refl _) (Obj.cells (wrow 8 st) 227)
  have R0 : Rw (w.alloc (Obj.cells (wrow 8 st) 227)) w.heap.size 8 st 227 := heap_alloc_new _ _
  rw [wrow8] at B0 R0
  generalize w.alloc (Obj.cells #[w64 (st 0), w64 (st 1), w64 (st 2), w64 (st 3), w64 (st 4), w64 (st 5), w64 (st 6), w64 (st 7)] 227) = w0 at *
  have HR0 := Lib.hid R0
  clear R0 s0 s1 s2 s3 s4 s5 s6 s7 hgl
  go_wp2_with fail
  refine (HW.out _ (HV.out.below B0)).mono ?_
  rintro e w1 ⟨rfl, hb1⟩
  have B1 := B0.trans (hb1.mono B0.size)
  have R1 := HR0.out.below hb1
  clear B0 hb1 HR0 HW HV
  go_wp2_with fail
  go_loopw [17] (fun c wr => ∃ k : Nat, k ≤ 80 ∧ c = .int .i64 k ∧ Below w.heap.size w wr ∧ Rw wr w.heap.size 8 (vst K W st k) 227) (fun c _ => 80 - (intOf c).toNat)
  case atStart => exact ⟨0, by omega, rfl, B1, R1⟩
  case round =>
    obtain ⟨k, hk, rfl, bel, RV⟩ := hrel
    clear B1 R1
    by_cases hk80 : k < 80
    · have hlt : decide ((k : Int) < 80) = true := decide_eq_true (by omega)
      have hk0 : (0 : Int) ≤ (k : Int) := by omega
      have hk8 : (k : Int) < 80 := by omega
      have hk1 : IntKind.i64.wrap ((k : Int) + 1) = (k : Int) + 1 := by rw [IntKind.wrap_i64]; omega
      have hix := index80 W k hk80 wr
      have VL := Lib.hid (vst_lt K W st HST.out k)
      have HVS : Hid (vst K W st (k + 1) = rndN (K k) (W k) (vst K W st k)) := Lib.hid rfl
      have ck := (HKW.out.below (bel.mono (Nat.le_refl _))).at_ k hk80
      have lk := (HKW.out.below (bel.mono (Nat.le_refl _))).lt
      have HK := Lib.hid hk80
      generalize vst K W st k = vv at *
      generalize W k = wk at *
      generalize K k = kk at *
      have v0 := RV.wd.at_ 0 (by omega)
      have v1 := RV.wd.at_ 1 (by omega)
      have v2 := RV.wd.at_ 2 (by omega)
      have v3 := RV.wd.at_ 3 (by omega)
      have v4 := RV.wd.at_ 4 (by omega)
      have v5 := RV.wd.at_ 5 (by omega)
      have v6 := RV.wd.at_ 6 (by omega)
      have v7 := RV.wd.at_ 7 (by omega)
      have lv := RV.wd.lt
      have HRV := Lib.hid RV
      clear RV hk hk80
      go_upto_region 4 with (fail)
      go_quiet (fail)
      go_upto_region 5 with (fail)
      have hd := Vo.below_drewN (Below.refl wr.heap.size wr) nq
      have bel1 := bel.trans (hd.mono bel.size)
      have RV1 := HRV.out.below hd
      have ck1 := (hd.cell (p := ⟨6, k, none⟩) lk).trans ck
      have lk1 := Nat.lt_of_lt_of_le lk hd.size
      clear v0 v1 v2 v3 v4 v5 v6 v7 lv hix ck lk HRV hd bel
      generalize wr.drewN nq = w2 at *
      have v0 := RV1.wd.at_ 0 (by omega)
      have v1 := RV1.wd.at_ 1 (by omega)
      have v2 := RV1.wd.at_ 2 (by omega)
      have v5 := RV1.wd.at_ 5 (by omega)
      have v6 := RV1.wd.at_ 6 (by omega)
      have v7 := RV1.wd.at_ 7 (by omega)
      have lv := RV1.wd.lt
      have L0 := Lib.hid (VL.out 0 (by omega))
      have L1 := Lib.hid (VL.out 1 (by omega))
      have L2 := Lib.hid (VL.out 2 (by omega))
      have L4 := Lib.hid (VL.out 4 (by omega))
      have L5 := Lib.hid (VL.out 5 (by omega))
      have L6 := Lib.hid (VL.out 6 (by omega))
      have HRV := Lib.hid RV1
      have HT1 : Hid (t1N kk wk vv = ((((vv 7 + turnN (vv 4) [14, 18, 41]) % 18446744073709551616 + chN (vv 4) (vv 5) (vv 6)) % 18446744073709551616 + kk) % 18446744073709551616 + wk) % 18446744073709551616) := Lib.hid rfl
      have HT2 : Hid (t2N vv = (turnN (vv 0) [28, 34, 39] + majN (vv 0) (vv 1) (vv 2)) % 18446744073709551616) := Lib.hid rfl
      clear RV1
      obtain ⟨te, hte⟩ : ∃ x, x = turnN (vv 4) [14, 18, 41] := ⟨_, rfl⟩
      obtain ⟨c1, hc1⟩ : ∃ x, x = vv 4 &&& vv 5 := ⟨_, rfl⟩
      obtain ⟨ne, hne⟩ : ∃ x, x = 18446744073709551615 ^^^ vv 4 := ⟨_, rfl⟩
      obtain ⟨c2, hc2⟩ : ∃ x, x = ne &&& vv 6 := ⟨_, rfl⟩
      obtain ⟨c3, hc3⟩ : ∃ x, x = c1 ^^^ c2 := ⟨_, rfl⟩
      obtain ⟨b1, hb1⟩ : ∃ x, x = (vv 7 + te) % 18446744073709551616 := ⟨_, rfl⟩
      obtain ⟨b2, hb2⟩ : ∃ x, x = (b1 + c3) % 18446744073709551616 := ⟨_, rfl⟩
      obtain ⟨b3, hb3⟩ : ∃ x, x = (b2 + kk) % 18446744073709551616 := ⟨_, rfl⟩
      obtain ⟨t1, ht1⟩ : ∃ x, x = (b3 + wk) % 18446744073709551616 := ⟨_, rfl⟩
      have lne : ne < 18446744073709551616 := by rw [hne]; exact Nat.xor_lt_two_pow (n := 64) (by decide) L4.out
      have lc1 : c1 < 18446744073709551616 := by rw [hc1]; exact Nat.and_lt_two_pow (n := 64) _ L5.out
      have lc2 : c2 < 18446744073709551616 := by rw [hc2]; exact Nat.and_lt_two_pow (n := 64) _ L6.out
      have ea1 : bits .and .u64 ((vv 4 : Nat) : Int) ((vv 5 : Nat) : Int) = (c1 : Int) := by rw [bits_and_u64_nat _ _ L4.out L5.out, hc1]
      have en : bits .xor .u64 (if IntKind.u64.signed = true then -1 else IntKind.u64.max) ((vv 4 : Nat) : Int) = (ne : Int) := by
        rw [show (if IntKind.u64.signed = true then (-1 : Int) else IntKind.u64.max) = ((18446744073709551615 : Nat) : Int) from rfl, bits_xor_u64_nat _ _ (by decide) L4.out, hne]
      have ea2 : bits .and .u64 (ne : Int) ((vv 6 : Nat) : Int) = (c2 : Int) := by rw [bits_and_u64_nat _ _ lne L6.out, hc2]
      have ex3 : bits .xor .u64 (c1 : Int) (c2 : Int) = (c3 : Int) := by rw [bits_xor_u64_nat _ _ lc1 lc2, hc3]
      have eb1 : IntKind.u64.wrap (((vv 7 : Nat) : Int) + (te : Int)) = (b1 : Int) := by rw [wrap_u64]; omega
      have eb2 : IntKind.u64.wrap ((b1 : Int) + (c3 : Int)) = (b2 : Int) := by rw [wrap_u64]; omega
      have eb3 : IntKind.u64.wrap ((b2 : Int) + (kk : Int)) = (b3 : Int) := by rw [wrap_u64]; omega
      have eb4 : IntKind.u64.wrap ((b3 : Int) + (wk : Int)) = (t1 : Int) := by rw [wrap_u64]; omega
      have HT1b : Hid (t1N kk wk vv = t1) := Lib.hid (by rw [HT1.out, ht1, hb3, hb2, hb1, hc3, hc2, hc1, hne, hte]; rfl)
      have HTU : Hid (∀ c w, Ints w c [14, 18, 41] → Calls Tryz.prog 189 #[w64 (vv 4), .slice (some ⟨c, 0, none⟩) 3 3] w fun e w' => e = .returned (w64 te) ∧ Below w.heap.size w w') := Lib.hid (fun c w h => by rw [hte]; exact turned3_any (vv 4) 14 18 41 c 3 w L4.out h (by decide))
      clear hte hc1 hne hc2 hc3 hb1 hb2 hb3 ht1 lne lc1 lc2
      (refine wp_region_mildF 23 [false, false, false, false, false, false, false, false, false, false, false, false, false, false, false, false, false, false, false, false, false, false, false] (by kernel_rfl) (by kernel_rfl) ?_; simp only [List.take_succ_cons, List.take_zero, List.drop_succ_cons, List.drop_zero])
      (apply wpMildF_const; (focus (intro wm hm; have hrw := fun p h => Go.RowKit.Below.cell (p := p) hm h; go_simp; exact rfl)); simp only [List.cons_append, List.nil_append])
      (apply wpMildF_const; (focus (intro wm hm; have hrw := fun p h => Go.RowKit.Below.cell (p := p) hm h; go_simp; exact rfl)); simp only [List.cons_append, List.nil_append])
      (apply wpMildF_const; (focus (intro wm hm; have hrw := fun p h => Go.RowKit.Below.cell (p := p) hm h; go_simp; exact rfl)); simp only [List.cons_append, List.nil_append])
      (refine wpMildF_some (fun v w' => ∃ c, v = .slice (some ⟨c, 0, none⟩) 3 3 ∧ 0 ≤ c ∧ w'.heap[c]? = some (Obj.cells #[.int .i64 14, .int .i64 18, .int .i64 41] 3)) ?_ ?_ ?_; (focus (intro wm hm; have hrw := fun p h => Go.RowKit.Below.cell (p := p) hm h; go_simp; (exact ⟨(Below.refl _ _).alloc (Nat.le_refl _) _, by first | exact heap_alloc_new _ _ | exact (Array.getElem?_eq_some_iff.1 (heap_alloc_new _ _)).2 | exact ⟨Nat.zero_le _, heap_alloc_new _ _⟩⟩))); (focus (first | exact Go.md_stays_eq _ | (intro v w w' h hb; first | exact Bsl.below h hb | exact Sizes.stays _ _ _ h hb | (obtain ⟨c, h1, h2, h3⟩ := h; exact ⟨c, h1, h2, Vo.heap_below h3 hb⟩) | fail))); simp only [List.cons_append, List.nil_append])
      (apply wpMildF_call; (focus (intro wm hm; have hrw := fun p h => Go.RowKit.Below.cell (p := p) hm h; go_simp; (intro v c hv hc; subst hv; exact Calls.mild (HTU.out c _ (ints3 hc))))); (focus (first | exact Go.md_stays_eq _ | (intro v w w' h hb; first | exact Bsl.below h hb | exact Sizes.stays _ _ _ h hb | (obtain ⟨c, h1, h2, h3⟩ := h; exact ⟨c, h1, h2, Vo.heap_below h3 hb⟩) | fail))); simp only [List.cons_append, List.nil_append])
      (apply wpMildF_const; (focus (intro wm hm; have hrw := fun p h => Go.RowKit.Below.cell (p := p) hm h; go_simp; exact rfl)); simp only [List.cons_append, List.nil_append])
      (apply wpMildF_const; (focus (intro wm hm; have hrw := fun p h => Go.RowKit.Below.cell (p := p) hm h; go_simp; exact rfl)); simp only [List.cons_append, List.nil_append])
      (apply wpMildF_const; (focus (intro wm hm; have hrw := fun p h => Go.RowKit.Below.cell (p := p) hm h; go_simp; exact rfl)); simp only [List.cons_append, List.nil_append])
      (apply wpMildF_const; (focus (intro wm hm; have hrw := fun p h => Go.RowKit.Below.cell (p := p) hm h; go_simp; exact rfl)); simp only [List.cons_append, List.nil_append])
      (apply wpMildF_const; (focus (intro wm hm; have hrw := fun p h => Go.RowKit.Below.cell (p := p) hm h; go_simp; exact rfl)); simp only [List.cons_append, List.nil_append])
      (apply wpMildF_const; (focus (intro wm hm; have hrw := fun p h => Go.RowKit.Below.cell (p := p) hm h; go_simp; exact rfl)); simp only [List.cons_append, List.nil_append])
      (apply wpMildF_const; (focus (intro wm hm; have hrw := fun p h => Go.RowKit.Below.cell (p := p) hm h; go_simp; exact rfl)); simp only [List.cons_append, List.nil_append])
      (apply wpMildF_const; (focus (intro wm hm; have hrw := fun p h => Go.RowKit.Below.cell (p := p) hm h; go_simp; exact rfl)); simp only [List.cons_append, List.nil_append])
      (apply wpMildF_const; (focus (intro wm hm; have hrw := fun p h => Go.RowKit.Below.cell (p := p) hm h; go_simp; exact rfl)); simp only [List.cons_append, List.nil_append])
      (apply wpMildF_const; (focus (intro wm hm; have hrw := fun p h => Go.RowKit.Below.cell (p := p) hm h; go_simp; exact rfl)); simp only [List.cons_append, List.nil_append])
      (apply wpMildF_const; (focus (intro wm hm; have hrw := fun p h => Go.RowKit.Below.cell (p := p) hm h; go_simp; exact rfl)); simp only [List.cons_append, List.nil_append])
      (apply wpMildF_const; (focus (intro wm hm; have hrw := fun p h => Go.RowKit.Below.cell (p := p) hm h; go_simp; exact rfl)); simp only [List.cons_append, List.nil_append])
      (apply wpMildF_const; (focus (intro wm hm; have hrw := fun p h => Go.RowKit.Below.cell (p := p) hm h; go_simp; exact rfl)); simp only [List.cons_append, List.nil_append])
      (apply wpMildF_const; (focus (intro wm hm; have hrw := fun p h => Go.RowKit.Below.cell (p := p) hm h; go_simp; exact rfl)); simp only [List.cons_append, List.nil_append])
      (apply wpMildF_const; (focus (intro wm hm; have hrw := fun p h => Go.RowKit.Below.cell (p := p) hm h; go_simp; exact rfl)); simp only [List.cons_append, List.nil_append])
      (apply wpMildF_const; (focus (intro wm hm; have hrw := fun p h => Go.RowKit.Below.cell (p := p) hm h; go_simp; exact rfl)); simp only [List.cons_append, List.nil_append])
      (apply wpMildF_const; (focus (intro wm hm; have hrw := fun p h => Go.RowKit.Below.cell (p := p) hm h; go_simp; exact rfl)); simp only [List.cons_append, List.nil_append])
      (apply wpMildF_const; (focus (intro wm hm; have hrw := fun p h => Go.RowKit.Below.cell (p := p) hm h; go_simp; exact rfl)); simp only [List.cons_append, List.nil_append])
      (refine wpMildF_nil ?_; intro wm hm; simp only [mildAllF, MWord.blk_at, md_off, forall_eq, forall_exists_index, and_imp, and_true, true_implies, Act.put, List.setIfInBounds_toArray, List.set_cons_succ, List.set_cons_zero, forall_eq_apply_imp_iff])
      intro _ _ _ _ _
      have bel2 := bel1.trans (hm.mono bel1.size)
      have RV2 := HRV.out.below hm
      clear v0 v1 v2 v5 v6 v7 lv bel1 HRV hm ea1 en ea2 ex3 eb1 eb2 eb3 eb4 ck1 lk1 HTU
      have v0 := RV2.wd.at_ 0 (by omega)
      have v1 := RV2.wd.at_ 1 (by omega)
      have v2 := RV2.wd.at_ 2 (by omega)
      have lv := RV2.wd.lt
      have HRV := Lib.hid RV2
      clear RV2
      obtain ⟨ta, hta⟩ : ∃ x, x = turnN (vv 0) [28, 34, 39] := ⟨_, rfl⟩
      obtain ⟨d1, hd1⟩ : ∃ x, x = vv 0 &&& vv 1 := ⟨_, rfl⟩
      obtain ⟨d2, hd2⟩ : ∃ x, x = vv 0 &&& vv 2 := ⟨_, rfl⟩
      obtain ⟨d3, hd3⟩ : ∃ x, x = d1 ^^^ d2 := ⟨_, rfl⟩
      obtain ⟨d4, hd4⟩ : ∃ x, x = vv 1 &&& vv 2 := ⟨_, rfl⟩
      obtain ⟨d5, hd5⟩ : ∃ x, x = d3 ^^^ d4 := ⟨_, rfl⟩
      obtain ⟨t2, ht2⟩ : ∃ x, x = (ta + d5) % 18446744073709551616 := ⟨_, rfl⟩
      have ld1 : d1 < 18446744073709551616 := by rw [hd1]; exact Nat.and_lt_two_pow (n := 64) _ L1.out
      have ld2 : d2 < 18446744073709551616 := by rw [hd2]; exact Nat.and_lt_two_pow (n := 64) _ L2.out
      have ld4 : d4 < 18446744073709551616 := by rw [hd4]; exact Nat.and_lt_two_pow (n := 64) _ L2.out
      have ld3 : d3 < 18446744073709551616 := by rw [hd3]; exact Nat.xor_lt_two_pow (n := 64) ld1 ld2
      have ea1 : bits .and .u64 ((vv 0 : Nat) : Int) ((vv 1 : Nat) : Int) = (d1 : Int) := by rw [bits_and_u64_nat _ _ L0.out L1.out, hd1]
      have ea2 : bits .and .u64 ((vv 0 : Nat) : Int) ((vv 2 : Nat) : Int) = (d2 : Int) := by rw [bits_and_u64_nat _ _ L0.out L2.out, hd2]
      have ex3 : bits .xor .u64 (d1 : Int) (d2 : Int) = (d3 : Int) := by rw [bits_xor_u64_nat _ _ ld1 ld2, hd3]
      have ea4 : bits .and .u64 ((vv 1 : Nat) : Int) ((vv 2 : Nat) : Int) = (d4 : Int) := by rw [bits_and_u64_nat _ _ L1.out L2.out, hd4]
      have ex5 : bits .xor .u64 (d3 : Int) (d4 : Int) = (d5 : Int) := by rw [bits_xor_u64_nat _ _ ld3 ld4, hd5]
      have eb1 : IntKind.u64.wrap ((ta : Int) + (d5 : Int)) = (t2 : Int) := by rw [wrap_u64]; omega
      have HT2b : Hid (t2N vv = t2) := Lib.hid (by rw [HT2.out, ht2, hd5, hd4, hd3, hd2, hd1, hta]; rfl)
      have HTU : Hid (∀ c w, Ints w c [28, 34, 39] → Calls Tryz.prog 189 #[w64 (vv 0), .slice (some ⟨c, 0, none⟩) 3 3] w fun e w' => e = .returned (w64 ta) ∧ Below w.heap.size w w') := Lib.hid (fun c w h => by rw [hta]; exact turned3_any (vv 0) 28 34 39 c 3 w L0.out h (by decide))
      clear hta hd1 hd2 hd3 hd4 hd5 ht2 ld1 ld2 ld3 ld4
      go_upto_region 6 with (fail)
      (refine wp_region_mildF 19 [false, false, false, false, false, false, false, false, false, false, false, false, false, false, false, false, false, false, false] (by kernel_rfl) (by kernel_rfl) ?_; simp only [List.take_succ_cons, List.take_zero, List.drop_succ_cons, List.drop_zero])
      (apply wpMildF_const; (focus (intro wm hm; have hrw := fun p h => Go.RowKit.Below.cell (p := p) hm h; go_simp; exact rfl)); simp only [List.cons_append, List.nil_append])
      (refine wpMildF_some (fun v w' => ∃ c, v = .slice (some ⟨c, 0, none⟩) 3 3 ∧ 0 ≤ c ∧ w'.heap[c]? = some (Obj.cells #[.int .i64 28, .int .i64 34, .int .i64 39] 3)) ?_ ?_ ?_; (focus (intro wm hm; have hrw := fun p h => Go.RowKit.Below.cell (p := p) hm h; go_simp; (exact ⟨(Below.refl _ _).alloc (Nat.le_refl _) _, by first | exact heap_alloc_new _ _ | exact (Array.getElem?_eq_some_iff.1 (heap_alloc_new _ _)).2 | exact ⟨Nat.zero_le _, heap_alloc_new _ _⟩⟩))); (focus (first | exact Go.md_stays_eq _ | (intro v w w' h hb; first | exact Bsl.below h hb | exact Sizes.stays _ _ _ h hb | (obtain ⟨c, h1, h2, h3⟩ := h; exact ⟨c, h1, h2, Vo.heap_below h3 hb⟩) | fail))); simp only [List.cons_append, List.nil_append])
      (apply wpMildF_call; (focus (intro wm hm; have hrw := fun p h => Go.RowKit.Below.cell (p := p) hm h; go_simp; (intro v c hv hc; subst hv; exact Calls.mild (HTU.out c _ (ints3 hc))))); (focus (first | exact Go.md_stays_eq _ | (intro v w w' h hb; first | exact Bsl.below h hb | exact Sizes.stays _ _ _ h hb | (obtain ⟨c, h1, h2, h3⟩ := h; exact ⟨c, h1, h2, Vo.heap_below h3 hb⟩) | fail))); simp only [List.cons_append, List.nil_append])
      (apply wpMildF_const; (focus (intro wm hm; have hrw := fun p h => Go.RowKit.Below.cell (p := p) hm h; go_simp; exact rfl)); simp only [List.cons_append, List.nil_append])
      (apply wpMildF_const; (focus (intro wm hm; have hrw := fun p h => Go.RowKit.Below.cell (p := p) hm h; go_simp; exact rfl)); simp only [List.cons_append, List.nil_append])
      (apply wpMildF_const; (focus (intro wm hm; have hrw := fun p h => Go.RowKit.Below.cell (p := p) hm h; go_simp; exact rfl)); simp only [List.cons_append, List.nil_append])
      (apply wpMildF_const; (focus (intro wm hm; have hrw := fun p h => Go.RowKit.Below.cell (p := p) hm h; go_simp; exact rfl)); simp only [List.cons_append, List.nil_append])
      (apply wpMildF_const; (focus (intro wm hm; have hrw := fun p h => Go.RowKit.Below.cell (p := p) hm h; go_simp; exact rfl)); simp only [List.cons_append, List.nil_append])
      (apply wpMildF_const; (focus (intro wm hm; have hrw := fun p h => Go.RowKit.Below.cell (p := p) hm h; go_simp; exact rfl)); simp only [List.cons_append, List.nil_append])
      (apply wpMildF_const; (focus (intro wm hm; have hrw := fun p h => Go.RowKit.Below.cell (p := p) hm h; go_simp; exact rfl)); simp only [List.cons_append, List.nil_append])
      (apply wpMildF_const; (focus (intro wm hm; have hrw := fun p h => Go.RowKit.Below.cell (p := p) hm h; go_simp; exact rfl)); simp only [List.cons_append, List.nil_append])
      (apply wpMildF_const; (focus (intro wm hm; have hrw := fun p h => Go.RowKit.Below.cell (p := p) hm h; go_simp; exact rfl)); simp only [List.cons_append, List.nil_append])
      (apply wpMildF_const; (focus (intro wm hm; have hrw := fun p h => Go.RowKit.Below.cell (p := p) hm h; go_simp; exact rfl)); simp only [List.cons_append, List.nil_append])
      (apply wpMildF_const; (focus (intro wm hm; have hrw := fun p h => Go.RowKit.Below.cell (p := p) hm h; go_simp; exact rfl)); simp only [List.cons_append, List.nil_append])
      (apply wpMildF_const; (focus (intro wm hm; have hrw := fun p h => Go.RowKit.Below.cell (p := p) hm h; go_simp; exact rfl)); simp only [List.cons_append, List.nil_append])
      (apply wpMildF_const; (focus (intro wm hm; have hrw := fun p h => Go.RowKit.Below.cell (p := p) hm h; go_simp; exact rfl)); simp only [List.cons_append, List.nil_append])
      (apply wpMildF_const; (focus (intro wm hm; have hrw := fun p h => Go.RowKit.Below.cell (p := p) hm h; go_simp; exact rfl)); simp only [List.cons_append, List.nil_append])
      (apply wpMildF_const; (focus (intro wm hm; have hrw := fun p h => Go.RowKit.Below.cell (p := p) hm h; go_simp; exact rfl)); simp only [List.cons_append, List.nil_append])
      (apply wpMildF_const; (focus (intro wm hm; have hrw := fun p h => Go.RowKit.Below.cell (p := p) hm h; go_simp; exact rfl)); simp only [List.cons_append, List.nil_append])
      (refine wpMildF_nil ?_; intro wm hm; simp only [mildAllF, MWord.blk_at, md_off, forall_eq, forall_exists_index, and_imp, and_true, true_implies, Act.put, List.setIfInBounds_toArray, List.set_cons_succ, List.set_cons_zero, forall_eq_apply_imp_iff])
      intro _ _ _ _ _
      have bel3 := bel2.trans (hm.mono bel2.size)
      have RV3 := HRV.out.below hm
      clear v0 v1 v2 lv bel2 HRV hm ea1 ea2 ex3 ea4 ex5 eb1 HTU
      go_upto_region 7 with (fail)
      have lv := RV3.wd.lt
      have HRV := Lib.hid RV3
      (refine wp_region_mildF 2 [false, false] (by kernel_rfl) (by kernel_rfl) ?_; simp only [List.take_succ_cons, List.take_zero, List.drop_succ_cons, List.drop_zero])
      (apply wpMildF_const; (focus (intro wm hm; have hrw := fun p h => Go.RowKit.Below.cell (p := p) hm h; go_simp; exact rfl)); simp only [List.cons_append, List.nil_append])
      (apply wpMildF_const; (focus (intro wm hm; have hrw := fun p h => Go.RowKit.Below.cell (p := p) hm h; go_simp; exact rfl)); simp only [List.cons_append, List.nil_append])
      (refine wpMildF_nil ?_; intro wm hm; simp only [mildAllF, MWord.blk_at, md_off, forall_eq, forall_exists_index, and_imp, and_true, true_implies, Act.put, List.setIfInBounds_toArray, List.set_cons_succ, List.set_cons_zero, forall_eq_apply_imp_iff])
      have RV4 := HRV.out.below hm
      have bel4 := bel3.trans (hm.mono bel3.size)
      clear RV3 HRV bel3 hm lv
      have hcur := RV4
      have RW4 := RV4.wd
      refine wpList_copy_own rfl (.tmp 67) (.tmp 68) 219 219 rfl 148 Tryz.underlying219 (by kernel_rfl) w.heap.size 1 7 7 ⟨w.heap.size, 0, none⟩ 7 8 rfl rfl (wrow 8 vv) 227 hcur
        [w64 (vv 0), w64 (vv 1), w64 (vv 2), w64 (vv 3), w64 (vv 4), w64 (vv 5), w64 (vv 6)] rfl (fun j u hj => by
          have hj7 : j < 7 := by
            have := (List.getElem?_eq_some_iff.1 hj).1
            simpa using this
          have hadd : (⟨w.heap.size, 0, none⟩ : Addr).add j = ⟨w.heap.size, j, none⟩ := by unfold Addr.add; split <;> simp_all
          rw [hadd, RW4.at_ j (by omega)]
          rw [← hj]
          obtain rfl | rfl | rfl | rfl | rfl | rfl | rfl : j = 0 ∨ j = 1 ∨ j = 2 ∨ j = 3 ∨ j = 4 ∨ j = 5 ∨ j = 6 := by omega
          all_goals rfl) (by rw [wrow_size]; simp) (by
          intro u hu
          simp only [List.mem_cons, List.not_mem_nil, or_false] at hu
          rcases hu with rfl | rfl | rfl | rfl | rfl | rfl | rfl
          all_goals rfl) ?_
      have RV5 : Rw (wm.setRow w.heap.size ((wrow 8 vv).toList.take 1 ++ ([w64 (vv 0), w64 (vv 1), w64 (vv 2), w64 (vv 3), w64 (vv 4), w64 (vv 5), w64 (vv 6)] ++ (wrow 8 vv).toList.drop (1 + [w64 (vv 0), w64 (vv 1), w64 (vv 2), w64 (vv 3), w64 (vv 4), w64 (vv 5), w64 (vv 6)].length))).toArray) w.heap.size 8 (fun i => if i = 0 then vv 0 else vv (i - 1)) 227 :=
        setRow_heap wm w.heap.size _ _ _ _ hcur
      have bel5 := Go.below_setRow bel4 (Nat.le_refl _) ((wrow 8 vv).toList.take 1 ++ ([w64 (vv 0), w64 (vv 1), w64 (vv 2), w64 (vv 3), w64 (vv 4), w64 (vv 5), w64 (vv 6)] ++ (wrow 8 vv).toList.drop (1 + [w64 (vv 0), w64 (vv 1), w64 (vv 2), w64 (vv 3), w64 (vv 4), w64 (vv 5), w64 (vv 6)].length))).toArray
      generalize wm.setRow w.heap.size ((wrow 8 vv).toList.take 1 ++ ([w64 (vv 0), w64 (vv 1), w64 (vv 2), w64 (vv 3), w64 (vv 4), w64 (vv 5), w64 (vv 6)] ++ (wrow 8 vv).toList.drop (1 + [w64 (vv 0), w64 (vv 1), w64 (vv 2), w64 (vv 3), w64 (vv 4), w64 (vv 5), w64 (vv 6)].length))).toArray = w5 at *
      clear hcur RW4 RV4 bel4
      have v4 : w5.cell? ⟨w.heap.size, 4, none⟩ = some (w64 (vv 3)) := RV5.wd.at_ 4 (by omega)
      have v0 : w5.cell? ⟨w.heap.size, 0, none⟩ = some (w64 (vv 0)) := RV5.wd.at_ 0 (by omega)
      have fv := RV5.wd.thaw
      have lv := RV5.wd.lt
      obtain ⟨f4, hf4⟩ : ∃ x, x = (vv 3 + t1) % 18446744073709551616 := ⟨_, rfl⟩
      obtain ⟨f0, hf0⟩ : ∃ x, x = (t1 + t2) % 18446744073709551616 := ⟨_, rfl⟩
      have ef4 : IntKind.u64.wrap (((vv 3 : Nat) : Int) + (t1 : Int)) = (f4 : Int) := by rw [wrap_u64]; omega
      have ef0 : IntKind.u64.wrap ((t1 : Int) + (t2 : Int)) = (f0 : Int) := by rw [wrap_u64]; omega
      have HRD : Hid (∀ i, i < 8 → rndN kk wk vv i = if i = 0 then f0 else if i = 4 then f4 else if i = 0 then vv 0 else vv (i - 1)) := Lib.hid (fun i _ => by
        unfold rndN
        rw [HT1b.out, HT2b.out, ← hf0, ← hf4]
        split <;> rfl)
      have HRV := Lib.hid RV5
      clear hf4 hf0 RV5
      go_wp2_with fail
      go_roundw
      case rel =>
        refine ⟨k + 1, by have := HK.out; omega, by simp, (bel5.setCell (Nat.le_refl _) _).setCell (Nat.le_refl _) _, ?_⟩
        rw [HVS.out]
        exact (HRV.out.set 4 f4 (fun i => if i = 4 then f4 else if i = 0 then vv 0 else vv (i - 1)) (fun i _ => rfl)).set 0 f0 _ HRD.out
      case measure => have := HK.out; simp [intOf]; omega
    · obtain rfl : k = 80 := by omega
      have hlt : decide ((80 : Int) < 80) = false := by decide
      have HNX : Hid (∀ i, nextS K W st i = (st i + vst K W st 80 i) % 18446744073709551616) := Lib.hid (fun _ => rfl)
      clear hk hk80
      generalize vst K W st 80 = vv at *
      have hgl := md_heap_lt HG.out
      have hg0 := (bel.block g hgl).trans HG.out
      go_wp2_with fail
      go_loopw [80] (fun c wr => ∃ i : Nat, i ≤ 8 ∧ c = .int .i64 i ∧ w.grownBy wr (some g) ∧ Rw wr w.heap.size 8 vv 227 ∧ wr.heap[g]? = some (.cells (hrow (fun j => if j < i then nextS K W st j else st j) left n size) 229 (0, 0))) (fun c _ => 8 - (intOf c).toNat)
      case atStart => exact ⟨0, by omega, rfl, ⟨bel.os, bel.tape, bel.output, bel.size, fun k hk _ => bel.block k hk⟩, RV, by simpa using hg0⟩
      case round =>
        obtain ⟨i, hi, rfl, hgr, RVi, hgi⟩ := hrel
        clear bel RV hg0
        by_cases hi8 : i < 8
        · have hilt : decide ((i : Int) < 8) = true := decide_eq_true (by omega)
          have hi0 : (0 : Int) ≤ (i : Int) := by omega
          have hii : (i : Int) < 8 := by omega
          have hi1 : IntKind.i64.wrap ((i : Int) + 1) = (i : Int) + 1 := by rw [IntKind.wrap_i64]; omega
          have cg : wr.cell? ⟨g, i, none⟩ = some (w64 (st i)) := by
            rw [cell_of_row wr g i _ _ _ hgi, hrow_at _ _ _ _ i hi8]
            simp
          have fg : wr.frozen? ⟨g, i, none⟩ = false := frozen_of_row wr g i _ _ hgi
          have lg := md_heap_lt hgi
          have cv := RVi.wd.at_ i hi8
          have lv := RVi.wd.lt
          have HNI := Lib.hid (HNX.out i)
          obtain ⟨f, hf⟩ : ∃ f, f = nextS K W st i := ⟨_, rfl⟩
          have ef : IntKind.u64.wrap (((st i : Nat) : Int) + ((vv i : Nat) : Int)) = (f : Int) := by
            rw [wrap_u64, hf, HNI.out]
            omega
          have HF := Lib.hid hf
          have HI := Lib.hid hi8
          have HGI := Lib.hid hgi
          have HRV := Lib.hid RVi
          clear hf hi hi8 hgi RVi
          go_upto_region 14 with (fail)
          (refine wp_region_mildF 11 [false, false, false, false, false, false, false, false, false, false, false] (by kernel_rfl) (by kernel_rfl) ?_; simp only [List.take_succ_cons, List.take_zero, List.drop_succ_cons, List.drop_zero])
          (apply wpMildF_const; (focus (intro wm hm; have hrw := fun p h => Go.RowKit.Below.cell (p := p) hm h; go_simp; exact rfl)); simp only [List.cons_append, List.nil_append])
          (apply wpMildF_const; (focus (intro wm hm; have hrw := fun p h => Go.RowKit.Below.cell (p := p) hm h; go_simp; exact rfl)); simp only [List.cons_append, List.nil_append])
          (apply wpMildF_const; (focus (intro wm hm; have hrw := fun p h => Go.RowKit.Below.cell (p := p) hm h; go_simp; exact rfl)); simp only [List.cons_append, List.nil_append])
          (apply wpMildF_const; (focus (intro wm hm; have hrw := fun p h => Go.RowKit.Below.cell (p := p) hm h; go_simp; exact rfl)); simp only [List.cons_append, List.nil_append])
          (apply wpMildF_const; (focus (intro wm hm; have hrw := fun p h => Go.RowKit.Below.cell (p := p) hm h; go_simp; exact rfl)); simp only [List.cons_append, List.nil_append])
          (apply wpMildF_const; (focus (intro wm hm; have hrw := fun p h => Go.RowKit.Below.cell (p := p) hm h; go_simp; exact rfl)); simp only [List.cons_append, List.nil_append])
          (apply wpMildF_const; (focus (intro wm hm; have hrw := fun p h => Go.RowKit.Below.cell (p := p) hm h; go_simp; exact rfl)); simp only [List.cons_append, List.nil_append])
          (apply wpMildF_const; (focus (intro wm hm; have hrw := fun p h => Go.RowKit.Below.cell (p := p) hm h; go_simp; exact rfl)); simp only [List.cons_append, List.nil_append])
          (apply wpMildF_const; (focus (intro wm hm; have hrw := fun p h => Go.RowKit.Below.cell (p := p) hm h; go_simp; exact rfl)); simp only [List.cons_append, List.nil_append])
          (apply wpMildF_const; (focus (intro wm hm; have hrw := fun p h => Go.RowKit.Below.cell (p := p) hm h; go_simp; exact rfl)); simp only [List.cons_append, List.nil_append])
          (apply wpMildF_const; (focus (intro wm hm; have hrw := fun p h => Go.RowKit.Below.cell (p := p) hm h; go_simp; exact rfl)); simp only [List.cons_append, List.nil_append])
          (refine wpMildF_nil ?_; intro wm hm; simp only [mildAllF, MWord.blk_at, md_off, forall_eq, forall_exists_index, and_imp, and_true, true_implies, Act.put, List.setIfInBounds_toArray, List.set_cons_succ, List.set_cons_zero, forall_eq_apply_imp_iff])
          have hg1 := (hm.block g lg).trans HGI.out
          have cg1 := (hm.cell (p := ⟨g, i, none⟩) lg).trans cg
          have fg1 : wm.frozen? ⟨g, i, none⟩ = false := frozen_of_row wm g i _ _ hg1
          have lg1 := Nat.lt_of_lt_of_le lg hm.size
          have RV1 := HRV.out.below hm
          have hgr1 : w.grownBy wm (some g) := ⟨hm.os.trans hgr.os, hm.tape.trans hgr.tape, hm.output.trans hgr.output, Nat.le_trans hgr.size hm.size, fun k hk hne => (hm.block k (Nat.lt_of_lt_of_le hk hgr.size)).trans (hgr.block k hk hne)⟩
          clear hm cg fg lg cv lv HGI HRV hgr
          have HG1 := Lib.hid hg1
          have HR1 := Lib.hid RV1
          clear hg1 RV1
          go_wp2_with fail
          go_roundw
          case rel =>
            refine ⟨i + 1, by have := HI.out; omega, by simp, ?_, HR1.out.far _ (by omega), ?_⟩
            · exact ⟨hgr1.os, hgr1.tape, hgr1.output, by simpa using hgr1.size, fun k hk hne => (Below.heap_setCell _ _ _ _ (by
                intro e
                exact hne (by rw [e]))).trans (hgr1.block k hk hne)⟩
            · have h1 := heap_setCell_same wm g i _ _ (w64 f) HG1.out
              rw [hrow_set _ (fun j => if j < i + 1 then nextS K W st j else st j) left n size i f HI.out (fun j _ => by
                by_cases hj : j = i
                · subst hj; rw [if_pos rfl, if_pos (by omega), ← HF.out]
                · rw [if_neg hj]
                  by_cases h2 : j < i
                  · rw [if_pos h2, if_pos (by omega)]
                  · rw [if_neg h2, if_neg (by omega)])] at h1
              exact h1
          case measure => have := HI.out; simp [intOf]; omega
        · obtain rfl : i = 8 := by omega
          have hilt : decide ((8 : Int) < 8) = false := by decide
          have hzs := hgr.size
          clear hi hi8
          go_wp2
          have hx : hrow (fun j => if j < 8 then nextS K W st j else st j) left n size = hrow (nextS K W st) left n size := by simp [hrow]
          rw [hx] at hgi
          clear hx HNX
          generalize nextS K W st = ns at *
          refine bodyPost_end (v := .tuple #[]) (by simp [results, Tryz.results135, go_sem]; try rfl) rfl ?_
          exact ⟨rfl, hgr, hgi⟩
end Go.Proofs.YtlgghcffmnofdaaGreatDoor.Sh
