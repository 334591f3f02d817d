/-
  The law's own functions: its fixed fact, its heads.
-/
import Derived.Test.YtlgghcffmnofdaaGreatDoorNamedQ

namespace Go.Proofs.YtlgghcffmnofdaaGreatDoor.Ke
open Go Go.RowKit Go.Proofs.YtlgghcffmnofdaaGreatDoor.Cn
set_option maxRecDepth 100000

theorem extract_prefix (s h : ByteArray) : ((s.extract 0 h.size).toList == h.toList) = Lib.hasPrefix s.data.toList h.data.toList := by
  rw [ByteArray.toList_eq, ByteArray.toList_eq]
  have e : (s.extract 0 h.size).data.toList = s.data.toList.take h.data.toList.length := by
    rw [ByteArray.data_extract, Array.toList_extract]
    simp only [List.extract_eq_take_drop, List.drop_zero, Nat.sub_zero]
    rfl
  rw [e]
  unfold Lib.hasPrefix
  rw [Bool.eq_iff_iff]
  simp only [beq_iff_eq, List.isPrefixOf_iff_prefix]
  exact ⟨fun h1 => List.prefix_iff_eq_take.2 h1.symm, fun h1 => (List.prefix_iff_eq_take.1 h1).symm⟩

theorem begins_any (s h : ByteArray) (w : World) :
    Calls Tryz.prog 14 #[.string s, .string h] w fun e w' => e = .returned (.bool (Lib.hasPrefix s.data.toList h.data.toList)) ∧ w' = w := by
  by_cases hl : h.size ≤ s.size
  · have h1 : decide ((h.size : Int) ≤ (s.size : Int)) = true := decide_eq_true (by omega)
    have HE := Lib.hid (extract_prefix s h)
    go_enter Tryz.func14, Tryz.ntmps14
    go_wp2
    go_returns
    exact ⟨by rw [HE.out]; rfl, rfl⟩
  · have h1 : decide ((h.size : Int) ≤ (s.size : Int)) = false := decide_eq_false (by omega)
    have HE : Hid (Lib.hasPrefix s.data.toList h.data.toList = false) := Lib.hid (by
      rw [Bool.eq_false_iff]
      intro h2
      unfold Lib.hasPrefix at h2
      rw [List.isPrefixOf_iff_prefix] at h2
      exact hl h2.length_le)
    go_enter Tryz.func14, Tryz.ntmps14
    go_wp2
    go_returns
    exact ⟨by rw [HE.out]; rfl, rfl⟩

theorem bsl_zeros (w : World) (n : Nat) : Bsl (w.alloc (.cells (Array.replicate n (.int .u8 0)) 5)) (.slice (some ⟨w.heap.size, 0, none⟩) n n) (List.replicate n 0) := by
  have h := bsl_build w (List.replicate n 0)
  simpa [cs] using h

/-- make([]byte, n). -/
theorem makeBytes (w : World) (n : Nat) (hn : n ≤ 1000000) : (Instr.makeSlice 36 (.int .i64 (n : Int)) (.int .i64 (n : Int))).run Tryz.prog w =
    .ok (.slice (some ⟨w.heap.size, 0, none⟩) n n) (w.alloc (.cells (Array.replicate n (.int .u8 0)) 5)) := by
  obtain ⟨i0, hi, hz0, hz1, hz2⟩ := info_parts (show (Tryz.prog.info? 5).map (fun i => (i.zero, i.size, i.bytes)) = some (some (.int .u8 0), 1, 1) by kernel_rfl)
  have h := run_makeSlice (P := Tryz.prog) (w := w) 36 5 i0 (.int .u8 0) Tryz.underlying36 hi hz0 .i64 .i64 n n (by omega) (by omega) (by rw [hz1]; simp; omega) (by rw [hz2]; omega) (by omega)
  rw [h, hz1]
  have e : madeCells (Value.cells (.int .u8 0)) ((n : Int).toNat * 1) = Array.replicate n (.int .u8 0) := by
    apply Array.ext
    · simp [madeCells]
    · intro i h1 h2
      simp [madeCells, Value.cells, Nat.mod_one]
  rw [e]
  simp

theorem awake15 (w : World) (hw : Words w) (hg : Base w) : Calls Tryz.prog 11 #[] w fun e w' => e = .returned (.bool true) ∧ Below w.heap.size w w' := by
  have htx : (⟨#[107, 51, 46, 108, 111, 99, 97, 108, 46]⟩ ++ ⟨(txt sg64 6 (List.replicate 32 0)).toArray⟩ : ByteArray) = ⟨#[107, 51, 46, 108, 111, 99, 97, 108, 46, 65, 65, 65, 65, 65, 65, 65, 65, 65, 65, 65, 65, 65, 65, 65, 65, 65, 65, 65, 65, 65, 65, 65, 65, 65, 65, 65, 65, 65, 65, 65, 65, 65, 65, 65, 65, 65, 65, 65, 65, 65, 65, 65]⟩ := by decide +kernel
  have hmk := makeBytes w 32 (by omega)
  rw [show ((32 : Nat) : Int) = 32 from rfl] at hmk
  have hB := bsl_zeros w 32
  have hnew := Lib.hid (new_early 3 1 (List.replicate 32 0) _ _ hB (.inr ⟨32, rfl, .inr rfl⟩))
  have hbz : Below w.heap.size w (w.alloc (.cells (Array.replicate 32 (.int .u8 0)) 5)) := (Below.refl _ _).alloc (Nat.le_refl _) _
  generalize hz : (w.alloc (.cells (Array.replicate 32 (.int .u8 0)) 5)) = wz at *
  clear hz hB
  go_enter Tryz.func11, Tryz.ntmps11
  go_wp2_with fail
  refine hnew.out.mono ?_
  rintro e w1 ⟨rfl, hb1⟩
  rw [show newRes 3 1 (List.replicate 32 0) = .tuple #[keyV 3 1 ⟨(List.replicate 32 0).toArray⟩, .int .i64 0] from rfl]
  have bel1 := hbz.trans (hb1.mono hbz.size)
  have hw1 := hw.below bel1
  have hg1 := hg.below bel1
  clear hnew hmk hbz hb1
  have htz : (⟨#[107, 51, 46, 108, 111, 99, 97, 108, 46]⟩ ++ ⟨(txt sg64 6 (⟨(List.replicate 32 0).toArray⟩ : ByteArray).data.toList).toArray⟩ : ByteArray) = _ := htx
  have hsz : (⟨(List.replicate 32 0).toArray⟩ : ByteArray).size ≤ 1000000 := by decide
  generalize (⟨(List.replicate 32 0).toArray⟩ : ByteArray) = Z at *
  have HT := Lib.hid htz
  clear htx htz
  go_wp2_with fail
  have hba := (Below.refl w1.heap.size w1).alloc (Nat.le_refl _) (Obj.cells #[Value.int IntKind.i64 3, Value.int IntKind.i64 1, Value.string Z] 28)
  refine (textK_31 Z _ (hw1.below hba) (hg1.below hba) hsz).mono ?_
  rintro e w2 ⟨rfl, hb2⟩
  rw [HT.out]
  have bel2 := bel1.trans (((hba.trans (hb2.mono hba.size))).mono bel1.size)
  clear hba hb2
  go_wp2_with fail
  go_returns
  exact ⟨rfl, bel2⟩

theorem heads_any (w : World) : Calls Tryz.prog 13 #[] w fun e w' => e = .returned (.agg #[.string ⟨#[107, 51, 46, 108, 111, 99, 97, 108, 46]⟩, .string ⟨#[107, 51, 46, 108, 105, 100, 46]⟩, .string ⟨#[107, 52, 46, 108, 111, 99, 97, 108, 46]⟩, .string ⟨#[107, 52, 46, 108, 105, 100, 46]⟩, .string ⟨#[107, 52, 46, 115, 101, 99, 114, 101, 116, 46]⟩, .string ⟨#[107, 52, 46, 115, 105, 100, 46]⟩, .string ⟨#[107, 52, 46, 112, 117, 98, 108, 105, 99, 46]⟩, .string ⟨#[107, 52, 46, 112, 105, 100, 46]⟩]) ∧ Below w.heap.size w w' := by
  go_enter Tryz.func13, Tryz.ntmps13
  go_wp2
  go_returns
  exact ⟨rfl, by go_grown⟩
end Go.Proofs.YtlgghcffmnofdaaGreatDoor.Ke
