/-
  key.New, of any bytes.
-/
import Derived.Test.YtlgghcffmnofdaaGreatDoorKeyAll
import Derived.Test.YtlgghcffmnofdaaGreatDoorSignCQ

namespace Go.Proofs.YtlgghcffmnofdaaGreatDoor.Ke
open Go Go.RowKit Go.Proofs.YtlgghcffmnofdaaGreatDoor.Cn Go.Proofs.YtlgghcffmnofdaaGreatDoor.Nu Go.Proofs.YtlgghcffmnofdaaGreatDoor.Sh
set_option linter.unusedSimpArgs false
set_option maxRecDepth 100000

/-- What New answers: a key's version, purpose, bytes; the error. -/
noncomputable def newR (K st : Nat → Nat) (v p : Int) (l : List UInt8) : Int × Int × List UInt8 × Nat :=
  match sizeOf v p with
  | none => (0, 0, [], 7)
  | some z => if (l.length : Int) = z then
      (if p = 3 then (if goodN l = 0 then (v, p, l, 0) else (0, 0, [], goodN l))
       else if p = 2 then (if pubB (openN K st (l.take 32)) = l.drop 32 then (v, p, l, 0) else (0, 0, [], 8))
       else (v, p, l, 0))
    else (0, 0, [], 3)
def newV (r : Int × Int × List UInt8 × Nat) : Value := .tuple #[keyV r.1 r.2.1 ⟨r.2.2.1.toArray⟩, .int .i64 r.2.2.2]
theorem newV_mk (a b : Int) (l : List UInt8) (e : Nat) : newV (a, b, l, e) = .tuple #[.agg #[.int .i64 a, .int .i64 b, .string ⟨l.toArray⟩], .int .i64 e] := rfl

set_option maxHeartbeats 8000000 in
theorem new_any (K st : Nat → Nat) (v p : Int) (l : List UInt8) (bv : Value) (w : World) (hv : Bsl w bv l) (hst : ∀ i, i < 8 → st i < 18446744073709551616) (hS : Wd w 2 8 st) (hK : Wd w 6 80 K) :
    Calls Tryz.prog 17 #[.int .i64 v, .int .i64 p, bv] w fun e w' => e = .returned (newV (newR K st v p l)) ∧ Below w.heap.size w w' := by
  have HV := Lib.hid hv
  have HSW := Lib.hid hS
  have HKW := Lib.hid hK
  have HST := Lib.hid hst
  obtain ⟨a, cap, hbv, hcap, _⟩ := hv
  subst hbv
  have HCAP := Lib.hid hcap
  have hc0 := conv_bsl (HV.out.below ((Below.refl w.heap.size w).alloc (Nat.le_refl _) (.cells #[.int .i64 0, .int .i64 0, .string ⟨#[]⟩] 28)))
  obtain ⟨r, hr⟩ : ∃ r, newR K st v p l = r := ⟨_, rfl⟩
  rw [hr]
  have HR := Lib.hid hr
  clear hr hS hK hst hcap
  go_enter Tryz.func17, Tryz.ntmps17
  go_wp2
  (refine wp_region_mild 9 (by kernel_rfl) (by kernel_rfl) ?_; simp only [List.take_succ_cons, List.take_zero, List.drop_succ_cons, List.drop_zero])
  (apply wpMild_call; (focus (intro wm hm; have hrw := fun p h => Go.RowKit.Below.cell (p := p) hm h; go_simp; (exact sizes_any _))); (focus (first | exact Go.md_stays_eq _ | (intro v w w' h hb; first | exact Bsl.below h hb | exact Sizes.stays _ _ _ h hb | (obtain ⟨c, h1, h2, h3⟩ := h; exact ⟨c, h1, h2, Vo.heap_below h3 hb⟩) | fail))); simp only [List.cons_append, List.nil_append])
  (apply wpMild_const; (focus (intro wm hm; have hrw := fun p h => Go.RowKit.Below.cell (p := p) hm h; go_simp; exact rfl)); simp only [List.cons_append, List.nil_append])
  (apply wpMild_const; (focus (intro wm hm; have hrw := fun p h => Go.RowKit.Below.cell (p := p) hm h; go_simp; exact rfl)); simp only [List.cons_append, List.nil_append])
  (apply wpMild_const; (focus (intro wm hm; have hrw := fun p h => Go.RowKit.Below.cell (p := p) hm h; go_simp; (intro vm hvm; have hl := run_sizes hvm v p; go_simp; exact rfl))); simp only [List.cons_append, List.nil_append])
  repeat (apply wpMild_const; (focus (intro wm hm; have hrw := fun p h => Go.RowKit.Below.cell (p := p) hm h; go_simp; exact rfl)); simp only [List.cons_append, List.nil_append])
  (refine wpMild_nil ?_; intro wm hm; simp only [mildAll, forall_eq, forall_exists_index, and_imp, Act.put, List.setIfInBounds_toArray, List.set_cons_succ, List.set_cons_zero, forall_eq_apply_imp_iff])
  intro vm _
  have bel := ((((Below.refl w.heap.size w).alloc (Nat.le_refl _) (Obj.cells #[Value.int IntKind.i64 0, Value.int IntKind.i64 0, Value.string ⟨#[]⟩] 28)).alloc (by simp) (Obj.cells #[Value.int IntKind.i64 v, Value.int IntKind.i64 p, Value.string ⟨l.toArray⟩] 28)).trans (hm.mono (by simp; omega)))
  have o0 : wm.heap[w.heap.size]? = some (Obj.cells #[Value.int IntKind.i64 0, Value.int IntKind.i64 0, Value.string ⟨#[]⟩] 28) := Vo.heap_below (start2 w _ _).2.1 hm
  have o1 : wm.heap[w.heap.size + 1]? = some (Obj.cells #[Value.int IntKind.i64 v, Value.int IntKind.i64 p, Value.string ⟨l.toArray⟩] 28) := Vo.heap_below (start2 w _ _).2.2 hm
  have HO0 := Lib.hid o0
  have HO1 := Lib.hid o1
  have HB := Lib.hid bel
  clear hc0 hm bel o0 o1
  have c0 : wm.cell? ⟨w.heap.size, 0, none⟩ = some (.int .i64 0) := by rw [cell_of_row wm w.heap.size 0 _ _ _ HO0.out]; rfl
  have c1 : wm.cell? ⟨w.heap.size, 1, none⟩ = some (.int .i64 0) := by rw [cell_of_row wm w.heap.size 1 _ _ _ HO0.out]; rfl
  have c2 : wm.cell? ⟨w.heap.size, 2, none⟩ = some (.string ⟨#[]⟩) := by rw [cell_of_row wm w.heap.size 2 _ _ _ HO0.out]; rfl
  have d0 : wm.cell? ⟨w.heap.size + 1, 0, none⟩ = some (.int .i64 v) := by rw [cell_of_row wm (w.heap.size + 1) 0 _ _ _ HO1.out]; rfl
  have d1 : wm.cell? ⟨w.heap.size + 1, 1, none⟩ = some (.int .i64 p) := by rw [cell_of_row wm (w.heap.size + 1) 1 _ _ _ HO1.out]; rfl
  have d2 : wm.cell? ⟨w.heap.size + 1, 2, none⟩ = some (.string ⟨l.toArray⟩) := by rw [cell_of_row wm (w.heap.size + 1) 2 _ _ _ HO1.out]; rfl
  have f0 : ∀ j, wm.frozen? ⟨w.heap.size, j, none⟩ = false := fun j => frozen_of_row wm w.heap.size j _ _ HO0.out
  have lw := Vo.heap_lt HO1.out
  have bel := HB.out
  unfold newR at HR
  rcases hs : sizeOf v p with _ | z
  · rw [hs] at HR
    simp only at HR
    have HRR : Hid ((0, 0, [], 7) = r) := HR
    clear HR
    go_wp2
    refine bodyPost_ret (by simp [results, Tryz.results17, go_sem, c0, c1, c2]; try rfl) rfl ?_
    exact ⟨by rw [← HRR.out, newV_mk]; rfl, by go_grown⟩
  · have hg : (some z).getD 0 = z := rfl
    rw [hs] at HR
    simp only at HR
    by_cases hl : (l.length : Int) = z
    · rw [if_pos hl] at HR
      have hb1 : ((l.length : Int) != z) = false := by simp [hl]
      by_cases hp3 : p = 3
      · rw [if_pos hp3] at HR
        have hpb3 : (p == 3) = true := by simp [hp3]
        have HGD := Lib.hid (fun w h => good_any l (.slice a l.length cap) w h)
        generalize goodN l = gd at *
        have HBSL := Lib.hid (HV.out.below bel)
        go_wp2_with fail
        refine (HGD.out _ HBSL.out).mono ?_
        rintro e w2 ⟨rfl, hb2⟩
        have o0 := Vo.heap_below HO0.out hb2
        have o1 := Vo.heap_below HO1.out hb2
        have bel2 := bel.trans (hb2.mono bel.size)
        have c0' : w2.cell? ⟨w.heap.size, 0, none⟩ = some (.int .i64 0) := by rw [cell_of_row w2 w.heap.size 0 _ _ _ o0]; rfl
        have c1' : w2.cell? ⟨w.heap.size, 1, none⟩ = some (.int .i64 0) := by rw [cell_of_row w2 w.heap.size 1 _ _ _ o0]; rfl
        have c2' : w2.cell? ⟨w.heap.size, 2, none⟩ = some (.string ⟨#[]⟩) := by rw [cell_of_row w2 w.heap.size 2 _ _ _ o0]; rfl
        have d0' : w2.cell? ⟨w.heap.size + 1, 0, none⟩ = some (.int .i64 v) := by rw [cell_of_row w2 (w.heap.size + 1) 0 _ _ _ o1]; rfl
        have d1' : w2.cell? ⟨w.heap.size + 1, 1, none⟩ = some (.int .i64 p) := by rw [cell_of_row w2 (w.heap.size + 1) 1 _ _ _ o1]; rfl
        have d2' : w2.cell? ⟨w.heap.size + 1, 2, none⟩ = some (.string ⟨l.toArray⟩) := by rw [cell_of_row w2 (w.heap.size + 1) 2 _ _ _ o1]; rfl
        have f0' : ∀ j, w2.frozen? ⟨w.heap.size, j, none⟩ = false := fun j => frozen_of_row w2 w.heap.size j _ _ o0
        have lw' := Vo.heap_lt o1
        clear o0 o1 hb2 c0 c1 c2 d0 d1 d2 f0 lw bel HB HO0 HO1
        clear HBSL HGD
        by_cases hgd : gd = 0
        · rw [if_pos hgd] at HR
          have hgb : ((gd : Int) != 0) = false := by simp [hgd]
          have HRR : Hid ((v, p, l, 0) = r) := HR
          clear HR hgd hp3 hl hs
          go_wp2
          refine bodyPost_ret (by simp [results, Tryz.results17, go_sem, c0', c1', c2']; try rfl) rfl ?_
          exact ⟨by rw [← HRR.out, newV_mk]; try rfl, by go_grown⟩
        · rw [if_neg hgd] at HR
          have hgb : ((gd : Int) != 0) = true := by simp [hgd]
          have HRR : Hid ((0, 0, [], gd) = r) := HR
          clear HR hgd hp3 hl hs
          go_wp2
          refine bodyPost_ret (by simp [results, Tryz.results17, go_sem, c0', c1', c2']; try rfl) rfl ?_
          exact ⟨by rw [← HRR.out, newV_mk]; try rfl, by go_grown⟩
      · rw [if_neg hp3] at HR
        have hpb3 : (p == 3) = false := by simp [hp3]
        by_cases hp2 : p = 2
        · rw [if_pos hp2] at HR
          have hpb2 : (p == 2) = true := by simp [hp2]
          have hl64 : l.length = 64 := by
            rw [hp2] at hs
            unfold sizeOf at hs
            simp only [show ((2 : Int) = 1) = False by simp, show ((2 : Int) = 2) = True by simp, show ((2 : Int) = 3) = False by simp, and_false, and_true, if_false] at hs
            split at hs
            · cases hs; omega
            · cases hs
          obtain ⟨vb, vo, rfl⟩ : ∃ vb vo, a = some ⟨vb, vo, none⟩ := by
            obtain ⟨a', c', he, _, hc⟩ := HV.out
            obtain ⟨b', o', h1, _⟩ := hc 0 (by omega)
            simp only [Value.slice.injEq] at he
            exact ⟨b', o', by rw [he.1, h1]⟩
          have hc1 : (32 : Int) ≤ (cap : Int) := by have := HCAP.out; omega
          have hc2 : (32 : Int) ≤ (l.length : Int) := by omega
          have hcne : ¬ cap = 32 := by have := HCAP.out; omega
          have HL64 := Lib.hid hl64
          have HBA : Hid (Bsl wm (.slice (some ⟨vb, vo, none⟩) 32 cap) (l.take 32)) := Lib.hid (by
            have := Bsl.sub (HV.out.below bel) 0 32 cap (by omega) (by have := HCAP.out; omega)
            simpa using this)
          have HPU := Lib.hid (signPublic_any K st (l.take 32) HST.out (by rw [List.length_take]; omega) _ wm HBA.out (HSW.out.below bel) (HKW.out.below bel))
          clear hl64 HBA hp2 hp3 hl
          have HPL : Hid ((pubB (openN K st (l.take 32))).length = 32) := Lib.hid (pubB_length _)
          generalize pubB (openN K st (l.take 32)) = pk at *
          go_wp2_with fail
          refine HPU.out.mono ?_
          rintro e w2 ⟨pv, rfl, hbp, hb2⟩
          have HBV2 := Lib.hid ((HV.out.below bel).below hb2)
          have HOA := Lib.hid (Vo.heap_below HO0.out hb2)
          have HOB := Lib.hid (Vo.heap_below HO1.out hb2)
          have o0 := Vo.heap_below HO0.out hb2
          have o1 := Vo.heap_below HO1.out hb2
          have bel2 := bel.trans (hb2.mono bel.size)
          have c0' : w2.cell? ⟨w.heap.size, 0, none⟩ = some (.int .i64 0) := by rw [cell_of_row w2 w.heap.size 0 _ _ _ o0]; rfl
          have c1' : w2.cell? ⟨w.heap.size, 1, none⟩ = some (.int .i64 0) := by rw [cell_of_row w2 w.heap.size 1 _ _ _ o0]; rfl
          have c2' : w2.cell? ⟨w.heap.size, 2, none⟩ = some (.string ⟨#[]⟩) := by rw [cell_of_row w2 w.heap.size 2 _ _ _ o0]; rfl
          have d0' : w2.cell? ⟨w.heap.size + 1, 0, none⟩ = some (.int .i64 v) := by rw [cell_of_row w2 (w.heap.size + 1) 0 _ _ _ o1]; rfl
          have d1' : w2.cell? ⟨w.heap.size + 1, 1, none⟩ = some (.int .i64 p) := by rw [cell_of_row w2 (w.heap.size + 1) 1 _ _ _ o1]; rfl
          have d2' : w2.cell? ⟨w.heap.size + 1, 2, none⟩ = some (.string ⟨l.toArray⟩) := by rw [cell_of_row w2 (w.heap.size + 1) 2 _ _ _ o1]; rfl
          have f0' : ∀ j, w2.frozen? ⟨w.heap.size, j, none⟩ = false := fun j => frozen_of_row w2 w.heap.size j _ _ o0
          have lw' := Vo.heap_lt o1
          clear o0 o1 hb2 c0 c1 c2 d0 d1 d2 f0 lw bel HB HO0 HO1
          have HO0 := Lib.hid (show w2.heap[w.heap.size]? = some (Obj.cells #[Value.int IntKind.i64 0, Value.int IntKind.i64 0, Value.string ⟨#[]⟩] 28) from HOA.out)
          have HO1 := Lib.hid (show w2.heap[w.heap.size + 1]? = some (Obj.cells #[Value.int IntKind.i64 v, Value.int IntKind.i64 p, Value.string ⟨l.toArray⟩] 28) from HOB.out)
          have HSM := Lib.hid (same_any pk (l.drop 32) pv (.slice (some ⟨vb, vo + 32, none⟩) (l.length - 32) (cap - 32)) w2 hbp (by
            have := Bsl.sub HBV2.out 32 (l.length - 32) (cap - 32) (by have := HL64.out; omega) (by have := HCAP.out; omega)
            rwa [List.take_of_length_le (by rw [List.length_drop]; exact Nat.le_refl _)] at this) (by have h := hbp; have := HPL.out; omega))
          clear HPU hbp HBV2 HOA HOB
          go_wp2_with fail
          refine HSM.out.mono ?_
          rintro e w3 ⟨rfl, hb3⟩
          have o0 := Vo.heap_below HO0.out hb3
          have o1 := Vo.heap_below HO1.out hb3
          have bel := bel2.trans (hb3.mono bel2.size)
          have c0 : w3.cell? ⟨w.heap.size, 0, none⟩ = some (.int .i64 0) := by rw [cell_of_row w3 w.heap.size 0 _ _ _ o0]; rfl
          have c1 : w3.cell? ⟨w.heap.size, 1, none⟩ = some (.int .i64 0) := by rw [cell_of_row w3 w.heap.size 1 _ _ _ o0]; rfl
          have c2 : w3.cell? ⟨w.heap.size, 2, none⟩ = some (.string ⟨#[]⟩) := by rw [cell_of_row w3 w.heap.size 2 _ _ _ o0]; rfl
          have d0 : w3.cell? ⟨w.heap.size + 1, 0, none⟩ = some (.int .i64 v) := by rw [cell_of_row w3 (w.heap.size + 1) 0 _ _ _ o1]; rfl
          have d1 : w3.cell? ⟨w.heap.size + 1, 1, none⟩ = some (.int .i64 p) := by rw [cell_of_row w3 (w.heap.size + 1) 1 _ _ _ o1]; rfl
          have d2 : w3.cell? ⟨w.heap.size + 1, 2, none⟩ = some (.string ⟨l.toArray⟩) := by rw [cell_of_row w3 (w.heap.size + 1) 2 _ _ _ o1]; rfl
          have f0 : ∀ j, w3.frozen? ⟨w.heap.size, j, none⟩ = false := fun j => frozen_of_row w3 w.heap.size j _ _ o0
          have lw := Vo.heap_lt o1
          clear o0 o1 hb3 c0' c1' c2' d0' d1' d2' f0' lw' bel2 HO0 HO1 HSM
          by_cases hpk : pk = l.drop 32
          · rw [if_pos hpk] at HR
            have hdp : decide (pk = l.drop 32) = true := decide_eq_true hpk
            have HRR : Hid ((v, p, l, 0) = r) := HR
            clear HR hpk hs
            go_wp2
            refine bodyPost_ret (by simp [results, Tryz.results17, go_sem, c0, c1, c2]; try rfl) rfl ?_
            exact ⟨by rw [← HRR.out, newV_mk]; try rfl, by go_grown⟩
          · rw [if_neg hpk] at HR
            have hdp : decide (pk = l.drop 32) = false := decide_eq_false hpk
            have HRR : Hid ((0, 0, [], 8) = r) := HR
            clear HR hpk hs
            go_wp2
            refine bodyPost_ret (by simp [results, Tryz.results17, go_sem, c0, c1, c2]; try rfl) rfl ?_
            exact ⟨by rw [← HRR.out, newV_mk]; try rfl, by go_grown⟩
        · rw [if_neg hp2] at HR
          have hpb2 : (p == 2) = false := by simp [hp2]
          have HRR : Hid ((v, p, l, 0) = r) := HR
          clear HR hp3 hp2 hl hs
          go_wp2
          refine bodyPost_ret (by simp [results, Tryz.results17, go_sem, c0, c1, c2]; try rfl) rfl ?_
          exact ⟨by rw [← HRR.out, newV_mk]; rfl, by go_grown⟩
    · rw [if_neg hl] at HR
      have hb1 : ((l.length : Int) != z) = true := by simp [hl]
      have HRR : Hid ((0, 0, [], 3) = r) := HR
      clear HR hl
      go_wp2
      refine bodyPost_ret (by simp [results, Tryz.results17, go_sem, c0, c1, c2]; try rfl) rfl ?_
      exact ⟨by rw [← HRR.out, newV_mk]; rfl, by go_grown⟩
end Go.Proofs.YtlgghcffmnofdaaGreatDoor.Ke
