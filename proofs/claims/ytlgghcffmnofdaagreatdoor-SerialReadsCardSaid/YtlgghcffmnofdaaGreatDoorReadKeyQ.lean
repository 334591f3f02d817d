/-
  The walk of serial.Read.
-/
import Derived.Test.YtlgghcffmnofdaaGreatDoorKeyFullQ
import Derived.Test.YtlgghcffmnofdaaGreatDoorSearchQ

namespace Go.Proofs.YtlgghcffmnofdaaGreatDoor.Ke
open Go Go.RowKit Go.Proofs.YtlgghcffmnofdaaGreatDoor.Cn Go.Proofs.YtlgghcffmnofdaaGreatDoor.Nu Go.Proofs.YtlgghcffmnofdaaGreatDoor.Sh
set_option maxRecDepth 100000

/-- What a text is read as: a key's version, purpose, bytes; the error. -/
noncomputable def readK (K st : Nat → Nat) (R : Option (Int × Int × List UInt8)) : Int × Int × List UInt8 × Nat :=
  match R with
  | none => (0, 0, [], 7)
  | some (v, p, r) => if (rdv sg64 6 ⟨r.toArray⟩).2 = 0 then newR K st v p (rdv sg64 6 ⟨r.toArray⟩).1 else (0, 0, [], (rdv sg64 6 ⟨r.toArray⟩).2)

set_option maxHeartbeats 8000000 in
theorem readKey_any (K st : Nat → Nat) (s : ByteArray) (w : World) (hw : Words w) (hg : Base w) (hs : s.size ≤ 1000000) (hst : ∀ i, i < 8 → st i < 18446744073709551616) (hS : Wd w 2 8 st) (hK : Wd w 6 80 K) :
    Calls Tryz.prog 12 #[.string s] w fun e w' => e = .returned (newV (readK K st (findHead keyHeads s.data.toList))) ∧ Below w.heap.size w w' := by
  have HSE := Lib.hid (fun w hw hg => search_keys s w hw hg hs)
  have HW := Lib.hid hw
  have HGB := Lib.hid hg
  have HSW := Lib.hid hS
  have HKW := Lib.hid hK
  generalize findHead keyHeads s.data.toList = R at *
  obtain ⟨r, hr⟩ : ∃ r, readK K st R = r := ⟨_, rfl⟩
  rw [hr]
  have HR := Lib.hid hr
  clear hr hw hg hS hK
  go_enter Tryz.func12, Tryz.ntmps12
  go_upto_region 1 with (fail)
  refine wp_start1 ?_
  intro w0 B0 hO
  have HO := Lib.hid hO
  have HB0 := Lib.hid B0
  clear hO B0
  go_wp2_with fail
  refine (HSE.out _ (HW.out.below HB0.out) (HGB.out.below HB0.out)).mono ?_
  rintro e w1 ⟨v, rfl, hbv, hb1⟩
  have HB1 := Lib.hid (HB0.out.trans (hb1.mono HB0.out.size))
  have HO1 := Lib.hid (Vo.heap_below HO.out hb1)
  clear hb1 HB0 HO HSE
  cases R with
  | none =>
    have HRR : Hid ((0, 0, [], 7) = r) := HR
    clear HR
    simp only [sK, sE]
    go_upto_region 2 with (fail)
    refine wp_start1 ?_
    intro w2 hb2 hN
    have o := Vo.heap_below HO1.out hb2
    have hb := HB1.out.trans (hb2.mono HB1.out.size)
    have hlw := Vo.heap_lt o
    have c0 : w2.cell? ⟨w.heap.size, 0, none⟩ = some (.int .i64 0) := by rw [cell_of_row w2 w.heap.size 0 _ _ _ o]; rfl
    have c1 : w2.cell? ⟨w.heap.size, 1, none⟩ = some (.int .i64 0) := by rw [cell_of_row w2 w.heap.size 1 _ _ _ o]; rfl
    have c2 : w2.cell? ⟨w.heap.size, 2, none⟩ = some (.string ⟨#[]⟩) := by rw [cell_of_row w2 w.heap.size 2 _ _ _ o]; rfl
    have f0 : ∀ j, w2.frozen? ⟨w.heap.size, j, none⟩ = false := fun j => frozen_of_row w2 w.heap.size j _ _ o
    clear o hb2 hN HB1 HO1
    go_wp2
    refine bodyPost_ret (by simp [results, Tryz.results12, go_sem, c0, c1, c2]; try rfl) rfl ?_
    exact ⟨by rw [← HRR.out, newV_mk]; try rfl, by go_grown⟩
  | some x =>
    obtain ⟨kv, kp, rest⟩ := x
    have HR : Hid ((if (rdv sg64 6 ⟨rest.toArray⟩).2 = 0 then newR K st kv kp (rdv sg64 6 ⟨rest.toArray⟩).1 else (0, 0, [], (rdv sg64 6 ⟨rest.toArray⟩).2)) = r) := HR
    simp only [sK, sE, sB] at hbv ⊢
    generalize rdv sg64 6 ⟨rest.toArray⟩ = q at *
    obtain ⟨bl, code⟩ := q
    simp only at HR hbv ⊢
    have HBV := Lib.hid hbv
    clear hbv
    by_cases hc : code = 0
    · subst hc
      have HRR : Hid (newR K st kv kp bl = r) := HR
      clear HR
      have HNEW := Lib.hid (fun w hv hS hK => new_any K st kv kp bl v w hv hst hS hK)
      rw [HRR.out] at HNEW
      obtain ⟨ra, rb, rl, re⟩ := r
      go_upto_region 2 with (fail)
      refine wp_start1 ?_
      intro w2 hb2 hN
      have HB2 := Lib.hid (HB1.out.trans (hb2.mono HB1.out.size))
      have HO2 := Lib.hid (Vo.heap_below HO1.out hb2)
      have HBV2 := Lib.hid (HBV.out.below hb2)
      have n0 : w2.cell? ⟨w1.heap.size, 0, none⟩ = some (.int .i64 kv) := by rw [cell_of_row w2 w1.heap.size 0 _ _ _ hN]; rfl
      have n1 : w2.cell? ⟨w1.heap.size, 1, none⟩ = some (.int .i64 kp) := by rw [cell_of_row w2 w1.heap.size 1 _ _ _ hN]; rfl
      have ln := Vo.heap_lt hN
      clear hb2 hN HB1 HO1 HBV
      go_wp2_with fail
      refine (HNEW.out _ HBV2.out (HSW.out.below HB2.out) (HKW.out.below HB2.out)).mono ?_
      rintro e w3 ⟨rfl, hb3⟩
      rw [newV_mk]
      have o := Vo.heap_below HO2.out hb3
      have hb := HB2.out.trans (hb3.mono HB2.out.size)
      have hlw := Vo.heap_lt o
      have c0 : w3.cell? ⟨w.heap.size, 0, none⟩ = some (.int .i64 0) := by rw [cell_of_row w3 w.heap.size 0 _ _ _ o]; rfl
      have c1 : w3.cell? ⟨w.heap.size, 1, none⟩ = some (.int .i64 0) := by rw [cell_of_row w3 w.heap.size 1 _ _ _ o]; rfl
      have c2 : w3.cell? ⟨w.heap.size, 2, none⟩ = some (.string ⟨#[]⟩) := by rw [cell_of_row w3 w.heap.size 2 _ _ _ o]; rfl
      have f0 : ∀ j, w3.frozen? ⟨w.heap.size, j, none⟩ = false := fun j => frozen_of_row w3 w.heap.size j _ _ o
      clear o n0 n1 ln hb3 HB2 HO2 HBV2 HNEW
      go_wp2
      refine bodyPost_ret (by simp [results, Tryz.results12, go_sem, c0, c1, c2]; try rfl) rfl ?_
      exact ⟨by rw [newV_mk]; try rfl, by go_grown⟩
    · have HRR : Hid ((0, 0, [], code) = r) := Lib.hid (by have := HR.out; rwa [if_neg hc] at this)
      have hcb : ((code : Int) != 0) = true := by simp [hc]
      clear HR hc
      go_upto_region 2 with (fail)
      refine wp_start1 ?_
      intro w2 hb2 hN
      have o := Vo.heap_below HO1.out hb2
      have hb := HB1.out.trans (hb2.mono HB1.out.size)
      have hlw := Vo.heap_lt o
      have c0 : w2.cell? ⟨w.heap.size, 0, none⟩ = some (.int .i64 0) := by rw [cell_of_row w2 w.heap.size 0 _ _ _ o]; rfl
      have c1 : w2.cell? ⟨w.heap.size, 1, none⟩ = some (.int .i64 0) := by rw [cell_of_row w2 w.heap.size 1 _ _ _ o]; rfl
      have c2 : w2.cell? ⟨w.heap.size, 2, none⟩ = some (.string ⟨#[]⟩) := by rw [cell_of_row w2 w.heap.size 2 _ _ _ o]; rfl
      have f0 : ∀ j, w2.frozen? ⟨w.heap.size, j, none⟩ = false := fun j => frozen_of_row w2 w.heap.size j _ _ o
      clear o hb2 hN HB1 HO1
      go_wp2
      refine bodyPost_ret (by simp [results, Tryz.results12, go_sem, c0, c1, c2]; try rfl) rfl ?_
      exact ⟨by rw [← HRR.out, newV_mk]; try rfl, by go_grown⟩
end Go.Proofs.YtlgghcffmnofdaaGreatDoor.Ke
