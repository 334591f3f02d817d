/-
  wrap.Unwrap of a text that begins with another head.
-/
import Derived.Test.YtlgghcffmnofdaaGreatDoorWrapA
namespace Go.Proofs.YtlgghcffmnofdaaGreatDoor.Ke
open Go Go.RowKit Go.Proofs.YtlgghcffmnofdaaGreatDoor.Cn
set_option linter.unusedSimpArgs false
set_option maxRecDepth 100000

def whead (v : Int) (word : ByteArray) : ByteArray := if v = 3 then ⟨#[107, 51, 46]⟩ ++ word else ⟨#[107, 52, 46]⟩ ++ word

theorem whead_any (v p z : Int) (b word : ByteArray) (w : World) (hv : v = 3 ∨ v = 4) (hw : word.size ≤ 100) :
    Calls Tryz.prog 73 #[.agg #[.int .i64 v, .int .i64 1, .string b, .slice none 0 0], .agg #[.int .i64 p, .string word, .int .i64 z]] w fun e w' => e = .returned (.string (whead v word)) ∧ Below w.heap.size w w' := by
  have h3 : ¬ 9223372036854775807 < 3 + word.size := by omega
  rcases hv with rfl | rfl
  · go_enter Tryz.func73, Tryz.ntmps73
    go_wp2
    (refine wp_region_mild 10 (by kernel_rfl) (by kernel_rfl) ?_; simp only [List.take_succ_cons, List.take_zero, List.drop_succ_cons, List.drop_zero])
    repeat (first | (apply wpMild_const; (focus (intro wm hm; have hrw := fun p h => Go.RowKit.Below.cell (p := p) hm h; go_simp; exact rfl)); simp only [List.cons_append, List.nil_append]) | (apply wpMild_call; (focus (intro wm hm; have hrw := fun p h => Go.RowKit.Below.cell (p := p) hm h; go_simp; (first | exact Calls.mild (version_any _ _ _) | exact Calls.mild (itoa3 _) | exact Calls.mild (itoa4 _)))); (focus (first | exact Go.md_stays_eq _ | (intro v w w' h hb; first | exact Bsl.below h hb | exact Sizes.stays _ _ _ h hb | (obtain ⟨c, h1, h2, h3⟩ := h; exact ⟨c, h1, h2, Vo.heap_below h3 hb⟩) | fail))); simp only [List.cons_append, List.nil_append]))
    (refine wpMild_nil ?_; intro wm hm; simp only [mildAll, forall_eq, forall_exists_index, and_imp, Act.put, List.setIfInBounds_toArray, List.set_cons_succ, List.set_cons_zero, forall_eq_apply_imp_iff])
    have bel := (((Below.refl w.heap.size w).alloc (Nat.le_refl _) (Obj.cells #[Value.int IntKind.i64 3, Value.int IntKind.i64 1, Value.string b, Value.slice none 0 0] 132)).alloc (by simp) (Obj.cells #[Value.int IntKind.i64 p, Value.string word, Value.int IntKind.i64 z] 137)).trans (hm.mono (by simp; omega))
    go_wp2
    go_returns
    exact ⟨rfl, bel⟩
  · go_enter Tryz.func73, Tryz.ntmps73
    go_wp2
    (refine wp_region_mild 10 (by kernel_rfl) (by kernel_rfl) ?_; simp only [List.take_succ_cons, List.take_zero, List.drop_succ_cons, List.drop_zero])
    repeat (first | (apply wpMild_const; (focus (intro wm hm; have hrw := fun p h => Go.RowKit.Below.cell (p := p) hm h; go_simp; exact rfl)); simp only [List.cons_append, List.nil_append]) | (apply wpMild_call; (focus (intro wm hm; have hrw := fun p h => Go.RowKit.Below.cell (p := p) hm h; go_simp; (first | exact Calls.mild (version_any _ _ _) | exact Calls.mild (itoa3 _) | exact Calls.mild (itoa4 _)))); (focus (first | exact Go.md_stays_eq _ | (intro v w w' h hb; first | exact Bsl.below h hb | exact Sizes.stays _ _ _ h hb | (obtain ⟨c, h1, h2, h3⟩ := h; exact ⟨c, h1, h2, Vo.heap_below h3 hb⟩) | fail))); simp only [List.cons_append, List.nil_append]))
    (refine wpMild_nil ?_; intro wm hm; simp only [mildAll, forall_eq, forall_exists_index, and_imp, Act.put, List.setIfInBounds_toArray, List.set_cons_succ, List.set_cons_zero, forall_eq_apply_imp_iff])
    have bel := (((Below.refl w.heap.size w).alloc (Nat.le_refl _) (Obj.cells #[Value.int IntKind.i64 4, Value.int IntKind.i64 1, Value.string b, Value.slice none 0 0] 132)).alloc (by simp) (Obj.cells #[Value.int IntKind.i64 p, Value.string word, Value.int IntKind.i64 z] 137)).trans (hm.mono (by simp; omega))
    go_wp2
    go_returns
    exact ⟨rfl, bel⟩

theorem hasPrefix_append (l p q : List UInt8) (h : Lib.hasPrefix l p = false) : Lib.hasPrefix l (p ++ q) = false := by
  unfold Lib.hasPrefix at *
  rw [Bool.eq_false_iff] at *
  intro h2
  rw [ne_eq, List.isPrefixOf_iff_prefix] at h
  rw [List.isPrefixOf_iff_prefix] at h2
  exact h ((List.prefix_append p q).trans h2)

def wmark (v : Int) : List UInt8 := if v = 3 then [107, 51, 46] else [107, 52, 46]
theorem whead_mis (v : Int) (word : ByteArray) (l : List UInt8) (h : Lib.hasPrefix l (wmark v) = false) : Lib.hasPrefix l (whead v word).data.toList = false := by
  have e : (whead v word).data.toList = wmark v ++ word.data.toList := by
    unfold whead wmark
    split <;> simp
  rw [e]
  exact hasPrefix_append _ _ _ h

/-- Rows of kinds. -/
def KindRows (w : World) (b n : Nat) : Prop := ∀ j : Nat, j < n → ∃ p word z, word.size ≤ 100 ∧ w.cell? ⟨b, j * 3, none⟩ = some (.int .i64 p) ∧ w.cell? ⟨b, j * 3 + 1, none⟩ = some (.string word) ∧ w.cell? ⟨b, j * 3 + 2, none⟩ = some (.int .i64 z)
theorem KindRows.below {w w' : World} {b n : Nat} (h : KindRows w b n) (hb : Below w.heap.size w w') : KindRows w' b n := fun j hj => by
  obtain ⟨p, word, z, h0, h1, h2, h3⟩ := h j hj
  exact ⟨p, word, z, h0, cell_below h1 hb, cell_below h2 hb, cell_below h3 hb⟩

theorem wkinds_any (v : Int) (w : World) (hv : v = 3 ∨ v = 4) : Calls Tryz.prog 71 #[.int .i64 v] w fun e w' =>
    ∃ n b cap : Nat, e = .returned (.slice (some ⟨b, 0, none⟩) n cap) ∧ n ≤ 2 ∧ w.heap.size ≤ b ∧ KindRows w' b n ∧ Below w.heap.size w w' := by
  rcases hv with rfl | rfl
  · refine (kinds_3 w).mono ?_
    rintro e w' ⟨b, rfl, h1, h2, h3⟩
    refine ⟨1, b, 1, rfl, by omega, h1, fun j hj => ?_, h3⟩
    obtain rfl : j = 0 := by omega
    exact ⟨1, lwBytes, 32, by decide, cell_of_row w' b 0 _ _ _ h2, cell_of_row w' b 1 _ _ _ h2, cell_of_row w' b 2 _ _ _ h2⟩
  · refine (kinds_4 w).mono ?_
    rintro e w' ⟨b, cap, rest, rfl, h1, h2, h3⟩
    have c : ∀ j : Nat, w'.cell? ⟨b, j, none⟩ = (#[.int .i64 1, .string lwBytes, .int .i64 32, .int .i64 2, .string swBytes, .int .i64 64] ++ rest)[j]? := fun j => cell_of_row w' b j _ _ _ h2
    refine ⟨2, b, cap, rfl, by omega, h1, fun j hj => ?_, h3⟩
    obtain rfl | rfl : j = 0 ∨ j = 1 := by omega
    · exact ⟨1, lwBytes, 32, by decide, by rw [c, Array.getElem?_append_left (by simp)]; rfl, by rw [c, Array.getElem?_append_left (by simp)]; rfl, by rw [c, Array.getElem?_append_left (by simp)]; rfl⟩
    · exact ⟨2, swBytes, 64, by decide, by rw [c, Array.getElem?_append_left (by simp)]; rfl, by rw [c, Array.getElem?_append_left (by simp)]; rfl, by rw [c, Array.getElem?_append_left (by simp)]; rfl⟩

structure URnd (w : World) (v : Int) (b : ByteArray) (pb kb n : Nat) (wr : World) : Prop where
  bel : Below w.heap.size w wr
  res : wr.heap[w.heap.size + 1]? = some (.cells #[.int .i64 0, .int .i64 0, .string ⟨#[]⟩] 28)
  p0 : wr.cell? ⟨pb, 0, none⟩ = some (.int .i64 v)
  p1 : wr.cell? ⟨pb, 1, none⟩ = some (.int .i64 1)
  p2 : wr.cell? ⟨pb, 2, none⟩ = some (.string b)
  p3 : wr.cell? ⟨pb, 3, none⟩ = some (.slice none 0 0)
  rows : KindRows wr kb n
theorem URnd.below {w wr w' : World} {v : Int} {b : ByteArray} {pb kb n : Nat} (h : URnd w v b pb kb n wr) (hb : Below wr.heap.size wr w') : URnd w v b pb kb n w' :=
  ⟨h.bel.trans (hb.mono h.bel.size), Vo.heap_below h.res hb, cell_below h.p0 hb, cell_below h.p1 hb, cell_below h.p2 hb, cell_below h.p3 hb, h.rows.below hb⟩

set_option maxHeartbeats 1600000 in
theorem unwrap_mis (v : Int) (b s : ByteArray) (w : World) (hv : v = 3 ∨ v = 4) (hp : Lib.hasPrefix s.data.toList (wmark v) = false) :
    Calls Tryz.prog 34 #[keyV v 1 b, .string s] w fun e w' => e = .returned (.tuple #[key0, .int .i64 7]) ∧ Below w.heap.size w w' := by
  have HK := Lib.hid (fun w => wkinds_any v w hv)
  have HH := Lib.hid (fun p z b word w => whead_any v p z b word w hv)
  have HP := Lib.hid (fun word => whead_mis v word s.data.toList hp)
  clear hv hp
  go_enter Tryz.func34, Tryz.ntmps34
  go_wp2_with fail
  refine (purpose_any _ _ _).mono ?_
  rintro e w1 ⟨rfl, hb1⟩
  have a0 := Vo.heap_below (Vo.heap_below (heap_alloc_new w (Obj.cells #[Value.int IntKind.i64 v, Value.int IntKind.i64 1, Value.string b] 28)) ((Below.refl _ _).alloc (Nat.le_refl _) (Obj.cells #[Value.int IntKind.i64 0, Value.int IntKind.i64 0, Value.string ⟨#[]⟩] 28))) hb1
  have r0 := Vo.heap_below (heap_alloc_new (w.alloc (Obj.cells #[Value.int IntKind.i64 v, Value.int IntKind.i64 1, Value.string b] 28)) (Obj.cells #[Value.int IntKind.i64 0, Value.int IntKind.i64 0, Value.string ⟨#[]⟩] 28)) hb1
  have bel1 := (((Below.refl w.heap.size w).alloc (Nat.le_refl _) (Obj.cells #[Value.int IntKind.i64 v, Value.int IntKind.i64 1, Value.string b] 28)).alloc (by simp) (Obj.cells #[Value.int IntKind.i64 0, Value.int IntKind.i64 0, Value.string ⟨#[]⟩] 28)).trans (hb1.mono (by simp; omega))
  rw [show (w.alloc (Obj.cells #[Value.int IntKind.i64 v, Value.int IntKind.i64 1, Value.string b] 28)).heap.size = w.heap.size + 1 by simp] at r0
  have c0 := cell_of_row w1 _ 0 _ _ _ a0
  have c1 := cell_of_row w1 _ 1 _ _ _ a0
  have c2 := cell_of_row w1 _ 2 _ _ _ a0
  have hlt1 := Vo.heap_lt r0
  have hlt0 : w.heap.size < w1.heap.size := by omega
  clear hb1 a0
  go_wp2_with fail
  refine (version_any _ _ _).mono ?_
  rintro e w2 ⟨rfl, hb2⟩
  have q0 := Vo.heap_below (heap_alloc_new w1 (Obj.cells #[Value.int IntKind.i64 v, Value.int IntKind.i64 1, Value.string b, Value.slice none 0 0] 132)) hb2
  have hba := (Below.refl w1.heap.size w1).alloc (Nat.le_refl _) (Obj.cells #[Value.int IntKind.i64 v, Value.int IntKind.i64 1, Value.string b, Value.slice none 0 0] 132)
  have r2 := Vo.heap_below (Vo.heap_below r0 hba) hb2
  have bel2 := bel1.trans ((hba.trans (hb2.mono (by simp))).mono bel1.size)
  generalize w1.heap.size = pb at *
  clear hb2 hba c0 c1 c2 r0 hlt0 hlt1 bel1
  go_wp2_with fail
  refine (HK.out _).mono ?_
  rintro e w3 ⟨n, kb, cap, rfl, hn, _, hrows, hb3⟩
  have q3 := Vo.heap_below q0 hb3
  have RN : URnd w v b pb kb n w3 := ⟨bel2.trans (hb3.mono bel2.size), Vo.heap_below r2 hb3, cell_of_row w3 _ 0 _ _ _ q3, cell_of_row w3 _ 1 _ _ _ q3, cell_of_row w3 _ 2 _ _ _ q3, cell_of_row w3 _ 3 _ _ _ q3, hrows⟩
  clear q0 q3 r2 bel2 hb3 hrows HK
  go_wp2_with fail
  go_loopw [23] (fun i wr => ∃ k : Nat, k ≤ n ∧ i = .int .i64 k ∧ URnd w v b pb kb n wr) (fun i _ => n - (intOf i).toNat)
  case atStart => exact ⟨0, by omega, rfl, RN⟩
  case round =>
    obtain ⟨k, hkn, rfl, RN⟩ := hrel
    by_cases hk : k < n
    · have hlt : decide ((k : Int) < (n : Int)) = true := decide_eq_true (by omega)
      obtain ⟨p, word, z, hw, d0, d1, d2⟩ := RN.rows k hk
      have hkb := World.block_lt_of_cell? _ _ d0
      have hpb := World.block_lt_of_cell? _ _ RN.p0
      have p0 := RN.p0
      have p1 := RN.p1
      have p2 := RN.p2
      have p3 := RN.p3
      go_wp2_with fail
      refine (HH.out p z b word _ hw).mono ?_
      rintro e w4 ⟨rfl, hb4⟩
      have hba := (Below.refl wr.heap.size wr).alloc (Nat.le_refl _) (Obj.cells #[Value.int IntKind.i64 p, Value.string word, Value.int IntKind.i64 z] 137)
      have RN2 := (RN.below hba).below hb4
      have HN := Lib.hid RN2
      clear RN RN2 hba hb4 d0 d1 d2 hkb hpb p0 p1 p2 p3
      go_wp2_with fail
      refine (Tryz.strings_CutPrefix s (whead v word) w4).mono ?_
      rintro e w5 ⟨rfl, rfl⟩
      rw [HP.out word]
      go_wp2_with fail
      go_roundw
      case rel => exact ⟨k + 1, by omega, by simp, HN.out⟩
      case measure => simp [intOf]; omega
    · have hlt : decide ((k : Int) < (n : Int)) = false := decide_eq_false (by omega)
      have c0 := cell_of_row wr _ 0 _ _ _ RN.res
      have c1 := cell_of_row wr _ 1 _ _ _ RN.res
      have c2 := cell_of_row wr _ 2 _ _ _ RN.res
      have f0 : ∀ j, wr.frozen? ⟨w.heap.size + 1, j, none⟩ = false := fun j => frozen_of_row wr _ j _ _ RN.res
      have bel := RN.bel
      have hz := bel.size
      clear RN
      go_wp2_with fail
      refine bodyPost_ret (by simp [results, Tryz.results34, go_sem, c0, c1, c2]; try rfl) rfl ?_
      exact ⟨rfl, by go_grown⟩
end Go.Proofs.YtlgghcffmnofdaaGreatDoor.Ke
