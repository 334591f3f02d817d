/-
  The walks of residue: Mul and Add of several.
-/
import Derived.Test.YtlgghcffmnofdaaGreatDoorNumFQ

namespace Go.Proofs.YtlgghcffmnofdaaGreatDoor.Nu
open Go Go.RowKit Go.Proofs.YtlgghcffmnofdaaGreatDoor.Cn
set_option linter.unusedSimpArgs false
set_option maxRecDepth 100000

/-- Numbers lie in a block, one behind the other. -/
structure Nums (w : World) (b : Nat) (l : List Nat) : Prop where
  at_ : ∀ (i k : Nat) (h : i < l.length), k < 4 → w.cell? ⟨b, i * 4 + k, none⟩ = some (w64 (lim (l[i]'h) k))
  lt : b < w.heap.size
theorem Nums.below {w w' : World} {b : Nat} {l : List Nat} (h : Nums w b l) (hb : Below w.heap.size w w') : Nums w' b l :=
  ⟨fun i k hi hk => by rw [hb.cell h.lt]; exact h.at_ i k hi hk, Nat.lt_of_lt_of_le h.lt hb.size⟩

def mulL (l : List Nat) : Nat := l.foldl mulN 1
def addN (o n : Nat) : Nat := (o + n % pp) % pp
def addL (l : List Nat) : Nat := l.foldl addN 0
theorem mulL_le (l : List Nat) : mulL l < 2 ^ 256 := by
  unfold mulL
  have : ∀ (l : List Nat) (o : Nat), o < 2 ^ 256 → l.foldl mulN o < 2 ^ 256 := by
    intro l
    induction l with
    | nil => intro o h; exact h
    | cons x r ih => intro o _; exact ih _ (mulN_lt _ _)
  exact this l 1 (by decide)
theorem addN_lt (o n : Nat) : addN o n < pp := Nat.mod_lt _ (by decide)
theorem addL_lt (l : List Nat) : addL l < pp := by
  unfold addL
  have : ∀ (l : List Nat) (o : Nat), o < pp → l.foldl addN o < pp := by
    intro l
    induction l with
    | nil => intro o h; exact h
    | cons x r ih => intro o _; exact ih _ (addN_lt _ _)
  exact this l 0 (by decide)

structure VRnd (w : World) (b : Nat) (l : List Nat) (v : Nat) (wr : World) : Prop where
  bel : Below w.heap.size w wr
  ns : Nums wr b l
  ro : Wd wr w.heap.size 4 (fun _ => 0)
  rv : Wd wr (w.heap.size + 1) 4 (lim v)
theorem VRnd.below {w wr w' : World} {b v : Nat} {l : List Nat} (h : VRnd w b l v wr) (hb : Below wr.heap.size wr w') : VRnd w b l v w' :=
  ⟨h.bel.trans (hb.mono h.bel.size), h.ns.below hb, h.ro.below hb, h.rv.below hb⟩
theorem Nums.far {w : World} {b c j : Nat} {l : List Nat} (h : Nums w b l) (v : Value) (hbc : b ≠ c) : Nums (w.setCell ⟨c, j, none⟩ v) b l :=
  ⟨fun i k hi hk => by rw [World.cell?_setCell_other _ _ _ _ (fun x => hbc (by injection x with h1 _ _; exact h1.symm))]; exact h.at_ i k hi hk, by simp [h.lt]⟩
theorem VRnd.set {w wr : World} {b v : Nat} {l : List Nat} (h : VRnd w b l v wr) (hb : b < w.heap.size) (v' : Nat) : VRnd w b l v' ((((wr.setCell ⟨w.heap.size + 1, 0, none⟩ (w64 (lim v' 0))).setCell ⟨w.heap.size + 1, 1, none⟩ (w64 (lim v' 1))).setCell ⟨w.heap.size + 1, 2, none⟩ (w64 (lim v' 2))).setCell ⟨w.heap.size + 1, 3, none⟩ (w64 (lim v' 3))) :=
  ⟨bel_all h.bel (by omega), (((h.ns.far _ (by omega)).far _ (by omega)).far _ (by omega)).far _ (by omega), (((h.ro.far _ (by omega)).far _ (by omega)).far _ (by omega)).far _ (by omega), h.rv.all⟩

set_option maxHeartbeats 4000000 in
theorem mulL_any (l : List Nat) (b cap : Nat) (w : World) (hn : Nums w b l) (hl : ∀ x ∈ l, x < 2 ^ 256) (hlen : l.length ≤ 100) :
    Calls Tryz.prog 156 #[.slice (some ⟨b, 0, none⟩) l.length cap] w fun e w' => e = .returned (numV (mulL l)) ∧ Below w.heap.size w w' := by
  have HL := Lib.hid hl
  have HLEN := Lib.hid hlen
  have hbw := hn.lt
  have HN := Lib.hid hn
  have HB := Lib.hid hbw
  clear hl hlen hn
  go_enter Tryz.func156, Tryz.ntmps156
  go_wp2_with fail
  go_loopw [9] (fun i wr => ∃ k : Nat, k ≤ l.length ∧ i = .int .i64 k ∧ VRnd w b l (mulL (l.take k)) wr) (fun i _ => l.length - (intOf i).toNat)
  case atStart =>
    refine ⟨0, by omega, rfl, ?_, ?_, ?_, ?_⟩
    · go_grown
    · exact (HN.out.below ((Below.refl _ _).alloc (Nat.le_refl _) zero4)).below ((Below.refl _ _).alloc (Nat.le_refl _) _)
    · exact (wd_zero (heap_alloc_new w zero4)).below ((Below.refl _ _).alloc (Nat.le_refl _) _)
    · have := wd_one (heap_alloc_new (w.alloc zero4) (Obj.cells #[Value.int IntKind.u64 1, Value.int IntKind.u64 0, Value.int IntKind.u64 0, Value.int IntKind.u64 0] 150))
      simpa [mulL] using this
  case round =>
    obtain ⟨k, hk, rfl, RN⟩ := hrel
    clear HN hbw
    by_cases hkl : k < l.length
    · have hlt : decide ((k : Int) < (l.length : Int)) = true := decide_eq_true (by omega)
      have hk0 : (0 : Int) ≤ (k : Int) := by omega
      have hk1 : IntKind.i64.wrap ((k : Int) + 1) = (k : Int) + 1 := by have := HLEN.out; rw [IntKind.wrap_i64]; omega
      have hk2 : (k : Int) < (l.length : Int) := by omega
      have n0 : wr.cell? ⟨b, k * 4, none⟩ = some (w64 (lim l[k] 0)) := RN.ns.at_ k 0 hkl (by omega)
      have n1 := RN.ns.at_ k 1 hkl (by omega)
      have n2 := RN.ns.at_ k 2 hkl (by omega)
      have n3 := RN.ns.at_ k 3 hkl (by omega)
      have lb := RN.ns.lt
      have HX := Lib.hid (HL.out l[k] (List.getElem_mem hkl))
      have HT : Hid (mulN (mulL (l.take k)) l[k] = mulL (l.take (k + 1))) := Lib.hid (by
        unfold mulL
        rw [List.take_succ_eq_append_getElem hkl, List.foldl_append]
        rfl)
      have HV := Lib.hid (mulL_le (l.take k))
      have HK := Lib.hid hkl
      generalize mulL (l.take k) = v at *
      generalize hx : l[k] = x at *
      have HRN := Lib.hid RN
      have hba := (Below.refl wr.heap.size wr).alloc (Nat.le_refl _) (row4 x)
      have H2 := Lib.hid (RN.below hba)
      have v0 := RN.rv.at_ 0 (by omega)
      have v1 := RN.rv.at_ 1 (by omega)
      have v2 := RN.rv.at_ 2 (by omega)
      have v3 := RN.rv.at_ 3 (by omega)
      have lv : w.heap.size + 1 < wr.heap.size := RN.rv.lt
      clear RN hkl hk hx hba
      go_wp2_with fail
      refine (muln_any v x _ HV.out HX.out).mono ?_
      rintro e w2 ⟨rfl, hb2⟩
      have R2 := H2.out.below hb2
      have q0 := R2.rv.at_ 0 (by omega)
      have q1 := R2.rv.at_ 1 (by omega)
      have q2 := R2.rv.at_ 2 (by omega)
      have q3 := R2.rv.at_ 3 (by omega)
      have lq := R2.rv.lt
      have fq := R2.rv.thaw
      have HR := Lib.hid (R2.set HB.out (mulN v x))
      clear R2 H2 hb2 v0 v1 v2 v3 lv n0 n1 n2 n3 lb HRN
      go_wp2_with fail
      go_roundw
      case rel =>
        have hk3 := HK.out
        exact ⟨k + 1, by omega, by simp, by rw [← HT.out]; exact HR.out⟩
      case measure => have hk3 := HK.out; simp [intOf]; omega
    · have hlt : decide (k < l.length) = false := decide_eq_false hkl
      have hkl2 : k = l.length := by omega
      have HK : Hid (mulL (l.take k) = mulL l) := Lib.hid (by rw [hkl2, List.take_length])
      have v0 := RN.rv.at_ 0 (by omega)
      have v1 := RN.rv.at_ 1 (by omega)
      have v2 := RN.rv.at_ 2 (by omega)
      have v3 := RN.rv.at_ 3 (by omega)
      have lv := RN.rv.lt
      have o0 := RN.ro.at_ 0 (by omega)
      have o1 := RN.ro.at_ 1 (by omega)
      have o2 := RN.ro.at_ 2 (by omega)
      have o3 := RN.ro.at_ 3 (by omega)
      have lo := RN.ro.lt
      have fo := RN.ro.thaw
      have bel := RN.bel
      have hzs := bel.size
      clear RN hkl hkl2 hk
      generalize mulL (l.take k) = v at *
      go_wp2
      refine bodyPost_ret (by simp [results, Tryz.results156, go_sem, o0, o1, o2, o3]; try rfl) rfl ?_
      exact ⟨by rw [← HK.out], by go_grown⟩
theorem wd_zeroN {w : World} {b : Nat} (h : w.heap[b]? = some zero4) : Wd w b 4 (lim 0) := Wd.row h (by
  intro i hi
  obtain rfl | rfl | rfl | rfl : i = 0 ∨ i = 1 ∨ i = 2 ∨ i = 3 := by omega
  all_goals rfl)

set_option maxHeartbeats 4000000 in
theorem addL_any (l : List Nat) (b cap : Nat) (w : World) (hn : Nums w b l) (hl : ∀ x ∈ l, x < 2 ^ 256) (hlen : l.length ≤ 100) :
    Calls Tryz.prog 196 #[.slice (some ⟨b, 0, none⟩) l.length cap] w fun e w' => e = .returned (numV (addL l)) ∧ Below w.heap.size w w' := by
  have HL := Lib.hid hl
  have HLEN := Lib.hid hlen
  have hbw := hn.lt
  have HN := Lib.hid hn
  have HB := Lib.hid hbw
  clear hl hlen hn
  go_enter Tryz.func196, Tryz.ntmps196
  go_wp2_with fail
  go_loopw [8] (fun i wr => ∃ k : Nat, k ≤ l.length ∧ i = .int .i64 k ∧ VRnd w b l (addL (l.take k)) wr) (fun i _ => l.length - (intOf i).toNat)
  case atStart =>
    refine ⟨0, by omega, rfl, ?_, ?_, ?_, ?_⟩
    · go_grown
    · exact (HN.out.below ((Below.refl _ _).alloc (Nat.le_refl _) zero4)).below ((Below.refl _ _).alloc (Nat.le_refl _) _)
    · exact (wd_zero (heap_alloc_new w zero4)).below ((Below.refl _ _).alloc (Nat.le_refl _) _)
    · have := wd_zeroN (heap_alloc_new (w.alloc zero4) zero4)
      simpa [addL] using this
  case round =>
    obtain ⟨k, hk, rfl, RN⟩ := hrel
    clear HN hbw
    by_cases hkl : k < l.length
    · have hlt : decide ((k : Int) < (l.length : Int)) = true := decide_eq_true (by omega)
      have hk0 : (0 : Int) ≤ (k : Int) := by omega
      have hk1 : IntKind.i64.wrap ((k : Int) + 1) = (k : Int) + 1 := by have := HLEN.out; rw [IntKind.wrap_i64]; omega
      have hk2 : (k : Int) < (l.length : Int) := by omega
      have n0 : wr.cell? ⟨b, k * 4, none⟩ = some (w64 (lim l[k] 0)) := RN.ns.at_ k 0 hkl (by omega)
      have n1 := RN.ns.at_ k 1 hkl (by omega)
      have n2 := RN.ns.at_ k 2 hkl (by omega)
      have n3 := RN.ns.at_ k 3 hkl (by omega)
      have lb := RN.ns.lt
      have HX := Lib.hid (HL.out l[k] (List.getElem_mem hkl))
      have HT : Hid (addN (addL (l.take k)) l[k] = addL (l.take (k + 1))) := Lib.hid (by
        unfold addL
        rw [List.take_succ_eq_append_getElem hkl, List.foldl_append]
        rfl)
      have HV := Lib.hid (addL_lt (l.take k))
      have HK := Lib.hid hkl
      generalize addL (l.take k) = v at *
      generalize hx : l[k] = x at *
      have HRN := Lib.hid RN
      have hba := (Below.refl wr.heap.size wr).alloc (Nat.le_refl _) (row4 x)
      have H2 := Lib.hid (RN.below hba)
      have v0 := RN.rv.at_ 0 (by omega)
      have v1 := RN.rv.at_ 1 (by omega)
      have v2 := RN.rv.at_ 2 (by omega)
      have v3 := RN.rv.at_ 3 (by omega)
      have lv : w.heap.size + 1 < wr.heap.size := RN.rv.lt
      have lw : w.heap.size < wr.heap.size := RN.ro.lt
      clear RN hkl hk hx hba
      have HS : Hid (∀ w, Calls Tryz.prog 227 #[numV v, numV (x % pp)] w fun e w' => e = .returned (numV (addN v x)) ∧ Below w.heap.size w w') := Lib.hid (fun w => add_any v (x % pp) w (by
        have h1 := HV.out
        have h2 : x % pp < pp := Nat.mod_lt _ (by decide)
        unfold pp at *
        omega))
      have HX2 := Lib.hid (fun w => small_any x w HX.out)
      go_wp2_with fail
      (refine wp_region_mild 4 (by kernel_rfl) (by kernel_rfl) ?_; simp only [List.take_succ_cons, List.take_zero, List.drop_succ_cons, List.drop_zero])
      (apply wpMild_const; (focus (intro wm hm; have hrw := fun p h => Go.RowKit.Below.cell (p := p) hm h; go_simp; exact rfl)); simp only [List.cons_append, List.nil_append])
      (apply wpMild_const; (focus (intro wm hm; have hrw := fun p h => Go.RowKit.Below.cell (p := p) hm h; go_simp; exact rfl)); simp only [List.cons_append, List.nil_append])
      (apply wpMild_call; (focus (intro wm hm; have hrw := fun p h => Go.RowKit.Below.cell (p := p) hm h; go_simp; (exact Calls.mild (HX2.out _)))); (focus (first | exact Go.md_stays_eq _ | (intro v w w' h hb; first | exact Bsl.below h hb | exact Sizes.stays _ _ _ h hb | (obtain ⟨c, h1, h2, h3⟩ := h; exact ⟨c, h1, h2, Vo.heap_below h3 hb⟩) | fail))); simp only [List.cons_append, List.nil_append])
      (apply wpMild_call; (focus (intro wm hm; have hrw := fun p h => Go.RowKit.Below.cell (p := p) hm h; go_simp; (exact Calls.mild (HS.out _)))); (focus (first | exact Go.md_stays_eq _ | (intro v w w' h hb; first | exact Bsl.below h hb | exact Sizes.stays _ _ _ h hb | (obtain ⟨c, h1, h2, h3⟩ := h; exact ⟨c, h1, h2, Vo.heap_below h3 hb⟩) | fail))); simp only [List.cons_append, List.nil_append])
      (refine wpMild_nil ?_; intro wm hm; simp only [mildAll, forall_eq, forall_exists_index, and_imp, Act.put, List.setIfInBounds_toArray, List.set_cons_succ, List.set_cons_zero, forall_eq_apply_imp_iff])
      have R2 := H2.out.below hm
      have q0 := R2.rv.at_ 0 (by omega)
      have q1 := R2.rv.at_ 1 (by omega)
      have q2 := R2.rv.at_ 2 (by omega)
      have q3 := R2.rv.at_ 3 (by omega)
      have lq := R2.rv.lt
      have fq := R2.rv.thaw
      have HR := Lib.hid (R2.set HB.out (addN v x))
      clear R2 H2 hm v0 v1 v2 v3 lv lw n0 n1 n2 n3 lb HRN
      go_wp2_with fail
      go_roundw
      case rel =>
        have hk3 := HK.out
        exact ⟨k + 1, by omega, by simp, by rw [← HT.out]; exact HR.out⟩
      case measure => have hk3 := HK.out; simp [intOf]; omega
    · have hlt : decide (k < l.length) = false := decide_eq_false hkl
      have hkl2 : k = l.length := by omega
      have HK : Hid (addL (l.take k) = addL l) := Lib.hid (by rw [hkl2, List.take_length])
      have v0 := RN.rv.at_ 0 (by omega)
      have v1 := RN.rv.at_ 1 (by omega)
      have v2 := RN.rv.at_ 2 (by omega)
      have v3 := RN.rv.at_ 3 (by omega)
      have lv := RN.rv.lt
      have o0 := RN.ro.at_ 0 (by omega)
      have o1 := RN.ro.at_ 1 (by omega)
      have o2 := RN.ro.at_ 2 (by omega)
      have o3 := RN.ro.at_ 3 (by omega)
      have lo := RN.ro.lt
      have fo := RN.ro.thaw
      have bel := RN.bel
      have hzs := bel.size
      clear RN hkl hkl2 hk
      generalize addL (l.take k) = v at *
      go_wp2
      refine bodyPost_ret (by simp [results, Tryz.results196, go_sem, o0, o1, o2, o3]; try rfl) rfl ?_
      exact ⟨by rw [← HK.out], by go_grown⟩
end Go.Proofs.YtlgghcffmnofdaaGreatDoor.Nu
