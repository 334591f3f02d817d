/-
  The walk of TopKinds.
-/
import Derived.Test.YtlgghcffmnofdaaGreatDoorTopAwake
import Derived.Test.YtlgghcffmnofdaaGreatDoorUnwrap
import Derived.Test.YtlgghcffmnofdaaGreatDoorDecrypt
import Derived.Test.YtlgghcffmnofdaaGreatDoorLaw15
import Derived.Deep.DeepCutAuto
namespace Go.Proofs.YtlgghcffmnofdaaGreatDoor.Ke
open Go Go.RowKit Go.Proofs.YtlgghcffmnofdaaGreatDoor.Cn
set_option maxRecDepth 100000

theorem bsl_row {w : World} {b : Nat} {l : List UInt8} {t : TypeId} {fr : Nat × Nat} {n : Nat} (h : w.heap[b]? = some (.cells (cs l).toArray t fr)) (hn : l.length = n) : Bsl w (.slice (some ⟨b, 0, none⟩) n n) l := by
  subst hn
  refine ⟨_, _, rfl, Nat.le_refl _, fun j hj => ⟨b, 0, rfl, ?_⟩⟩
  rw [cell_of_row _ b (0 + j) _ _ _ h, Nat.zero_add]
  simp [cs, hj]

structure KRnd (w : World) (la lb : List UInt8) (wr : World) : Prop where
  bel : Below w.heap.size w wr
  ra : wr.heap[w.heap.size]? = some (.cells (cs la).toArray 64)
  rb : wr.heap[w.heap.size + 1]? = some (.cells (cs lb).toArray 64)
theorem KRnd.below {w wr w' : World} {la lb : List UInt8} (h : KRnd w la lb wr) (hb : Below wr.heap.size wr w') : KRnd w la lb w' :=
  ⟨h.bel.trans (hb.mono h.bel.size), Vo.heap_below h.ra hb, Vo.heap_below h.rb hb⟩

theorem index_vers (w : World) :
    (Instr.index 65 (.agg #[.int .i64 3, .int .i64 4]) (.int .i64 0)).run Tryz.prog w = .ok (.int .i64 3) w ∧
    (Instr.index 65 (.agg #[.int .i64 3, .int .i64 4]) (.int .i64 1)).run Tryz.prog w = .ok (.int .i64 4) w := by
  refine ⟨?_, ?_⟩ <;> kernel_rfl
theorem index_marks (w : World) :
    (Instr.index 32 (.agg #[.string ⟨#[107, 51, 46]⟩, .string ⟨#[107, 52, 46]⟩]) (.int .i64 0)).run Tryz.prog w = .ok (.string ⟨#[107, 51, 46]⟩) w ∧
    (Instr.index 32 (.agg #[.string ⟨#[107, 51, 46]⟩, .string ⟨#[107, 52, 46]⟩]) (.int .i64 1)).run Tryz.prog w = .ok (.string ⟨#[107, 52, 46]⟩) w := by
  refine ⟨?_, ?_⟩ <;> kernel_rfl

set_option maxHeartbeats 8000000 in
theorem topKinds_any (la lb : List UInt8) (s : ByteArray) (w : World) (hm : Mx w) (hg : Base w) (hla : la.length = 32) (hlb : lb.length = 32) :
    Calls Tryz.prog 7 #[.agg (cs la).toArray, .agg (cs lb).toArray, .string s] w fun e w' => e = .returned (.bool true) ∧ Below w.heap.size w w' := by
  have HL := Lib.hid hla
  have HLB := Lib.hid hlb
  have HH3 : Hid (∀ w, Calls Tryz.prog 29 #[.int .i64 3, .int .i64 1] w fun e w' => e = .returned (.string h31) ∧ Below w.heap.size w w') := Lib.hid lhead_31
  have HH4 : Hid (∀ w, Calls Tryz.prog 29 #[.int .i64 4, .int .i64 1] w fun e w' => e = .returned (.string h41) ∧ Below w.heap.size w w') := Lib.hid lhead_41
  clear hla hlb
  go_enter Tryz.func7, Tryz.ntmps7
  go_wp2_with fail
  have hba := ((Below.refl w.heap.size w).alloc (Nat.le_refl _) (Obj.cells (cs la).toArray 64)).alloc (by simp) (Obj.cells (cs lb).toArray 64)
  refine (topAwake _ (hm.below hba) (hg.below hba)).mono ?_
  rintro e w1 ⟨rfl, hb1⟩
  have RN : KRnd w la lb w1 := ⟨hba.trans (hb1.mono (by simp; omega)), Vo.heap_below (Vo.heap_below (heap_alloc_new w _) ((Below.refl _ _).alloc (Nat.le_refl _) _)) hb1, Vo.heap_below (by have := heap_alloc_new (w.alloc (Obj.cells (cs la).toArray 64)) (Obj.cells (cs lb).toArray 64); simpa using this) hb1⟩
  have HRN := Lib.hid RN
  clear RN hba hb1
  go_wp2_with fail
  · refine (topAwake _ (hm.below HRN.out.bel) (hg.below HRN.out.bel)).mono ?_
    rintro e w2 ⟨rfl, hb2⟩
    go_wp2_with fail
    go_returns
    exact ⟨rfl, HRN.out.bel.trans (hb2.mono HRN.out.bel.size)⟩
  go_loopw [32] (fun i wr => ∃ k : Nat, k ≤ 2 ∧ i = .int .i64 k ∧ KRnd w la lb wr) (fun i _ => 2 - (intOf i).toNat)
  case atStart => exact ⟨0, by omega, rfl, HRN.out⟩
  case round =>
    obtain ⟨k, hk, rfl, RN⟩ := hrel
    clear HRN
    obtain rfl | rfl | rfl : k = 0 ∨ k = 1 ∨ k = 2 := by omega
    · obtain ⟨x0, x1⟩ := index_vers wr
      go_wp2_with fail
      clear x0 x1
      refine (make_local 3 la _ _ (bsl_row RN.ra HL.out) rfl HL.out).mono ?_
      rintro e w2 ⟨rfl, hb2⟩
      have RN2 := RN.below hb2
      have hba2 := (Below.refl w2.heap.size w2).alloc (Nat.le_refl _) (Obj.cells #[Value.int IntKind.i64 3, Value.int IntKind.i64 1, Value.string ⟨la.toArray⟩] 28)
      have RN2a := RN2.below hba2
      have HB := Lib.hid (bsl_row RN2a.rb HLB.out)
      have HRN := Lib.hid RN2a
      clear RN RN2 hb2 hba2 RN2a
      go_wp2_with fail
      refine (make_local 3 lb _ _ HB.out rfl HLB.out).mono ?_
      rintro e w3 ⟨rfl, hb3⟩
      have ka := Vo.heap_below (heap_alloc_new w2 (Obj.cells #[Value.int IntKind.i64 3, Value.int IntKind.i64 1, Value.string ⟨la.toArray⟩] 28)) hb3
      have RN3 := HRN.out.below hb3
      have hba3 := (Below.refl w3.heap.size w3).alloc (Nat.le_refl _) (Obj.cells #[Value.int IntKind.i64 3, Value.int IntKind.i64 1, Value.string ⟨lb.toArray⟩] 28)
      have RN3a := RN3.below hba3
      have ka3 := Vo.heap_below ka hba3
      have kb3 := heap_alloc_new w3 (Obj.cells #[Value.int IntKind.i64 3, Value.int IntKind.i64 1, Value.string ⟨lb.toArray⟩] 28)
      clear HB HRN hb3 ka RN3
      go_wp2_with fail
      refine (HH3.out _).mono ?_
      rintro e w4 ⟨rfl, hb4⟩
      have RN4 := RN3a.below hb4
      have ka4 := Vo.heap_below ka3 hb4
      have kb4 := Vo.heap_below kb3 hb4
      have hlta := Vo.heap_lt ka4
      have hltb := Vo.heap_lt kb4
      have ca0 := cell_of_row w4 _ 0 _ _ _ ka4
      have ca1 := cell_of_row w4 _ 1 _ _ _ ka4
      have ca2 := cell_of_row w4 _ 2 _ _ _ ka4
      have cb0 := cell_of_row w4 _ 0 _ _ _ kb4
      have cb1 := cell_of_row w4 _ 1 _ _ _ kb4
      have cb2 := cell_of_row w4 _ 2 _ _ _ kb4
      have HRN := Lib.hid RN4
      clear hba3 hb4 RN3a RN4 ka3 kb3 ka4 kb4
      generalize w2.heap.size = pa at *
      generalize w3.heap.size = pb at *
      go_upto_region 11 with (fail)
      go_cut [67] (fun s67 wx => s67 = .bool (!Lib.hasPrefix s.data.toList h31.data.toList) ∧ wx = w4)
      case first =>
        have hh : h31.size = 9 := rfl
        by_cases hl : 9 ≤ s.size
        · have hd : decide ((s.size : Int) < 9) = false := decide_eq_false (by omega)
          go_wp2_with fail
          go_meet
          exact ⟨by rw [show (9 : Nat) = h31.size from rfl, extract_prefix], rfl⟩
        · have hd : decide ((s.size : Int) < 9) = true := decide_eq_true (by omega)
          go_wp2_with fail
          go_meet
          refine ⟨?_, rfl⟩
          rw [show Lib.hasPrefix s.data.toList h31.data.toList = false from by
            rw [Bool.eq_false_iff]
            intro h2
            unfold Lib.hasPrefix at h2
            rw [List.isPrefixOf_iff_prefix] at h2
            exact hl h2.length_le]
          rfl
      case rest =>
        obtain ⟨rfl, rfl⟩ := hcut
        have HD : Hid (∀ b w, Lib.hasPrefix s.data.toList h31.data.toList = false → Calls Tryz.prog 26 #[keyV 3 1 b, .string s, .slice none 0 0] w fun e w' => e = .returned (.tuple #[.agg #[.slice none 0 0, .slice none 0 0, .slice none 0 0], .int .i64 7]) ∧ Below w.heap.size w w') := Lib.hid (fun b w h => decrypt_mis 3 b s w (by decide) h)
        generalize Lib.hasPrefix s.data.toList h31.data.toList = H at *
        rcases H with _ | _
        · go_wp2_with fail
          refine (HD.out _ _ trivial).mono ?_
          rintro e w5 ⟨rfl, hb5⟩
          have da0 := cell_below ca0 hb5
          have da1 := cell_below ca1 hb5
          have da2 := cell_below ca2 hb5
          have db0 := cell_below cb0 hb5
          have db1 := cell_below cb1 hb5
          have db2 := cell_below cb2 hb5
          have hlta5 := World.block_lt_of_cell? _ _ da0
          have hltb5 := World.block_lt_of_cell? _ _ db0
          have HR5 := Lib.hid (HRN.out.below hb5)
          have hba5 := (Below.refl w5.heap.size w5).alloc (Nat.le_refl _) (Obj.cells #[Value.slice none 0 0, Value.slice none 0 0, Value.slice none 0 0] 53)
          have HR5a := Lib.hid (HR5.out.below hba5)
          have ea0 := cell_below da0 hba5
          have ea1 := cell_below da1 hba5
          have ea2 := cell_below da2 hba5
          have eb0 := cell_below db0 hba5
          have eb1 := cell_below db1 hba5
          have eb2 := cell_below db2 hba5
          clear hb5 hba5 HRN HR5 ca0 ca1 ca2 cb0 cb1 cb2 hlta hltb
          go_wp2_with fail
          refine (HD.out _ _ trivial).mono ?_
          rintro e w6 ⟨rfl, hb6⟩
          have HR6 := Lib.hid (HR5a.out.below hb6)
          have hba6 := (Below.refl w6.heap.size w6).alloc (Nat.le_refl _) (Obj.cells #[Value.slice none 0 0, Value.slice none 0 0, Value.slice none 0 0] 53)
          have HRN := Lib.hid (HR6.out.below hba6)
          have ca0 := cell_below (cell_below ea0 hb6) hba6
          have ca1 := cell_below (cell_below ea1 hb6) hba6
          have ca2 := cell_below (cell_below ea2 hb6) hba6
          have cb0 := cell_below (cell_below eb0 hb6) hba6
          have cb1 := cell_below (cell_below eb1 hb6) hba6
          have cb2 := cell_below (cell_below eb2 hb6) hba6
          clear hb6 HR6 hba6 HR5a da0 da1 da2 db0 db1 db2 ea0 ea1 ea2 eb0 eb1 eb2 hlta5 hltb5
          have x0 := fun w => (index_marks w).1
          have x1 := fun w => (index_marks w).2
          have hlta := World.block_lt_of_cell? _ _ ca0
          have hltb := World.block_lt_of_cell? _ _ cb0
          go_upto_region 17 with (fail)
          clear x0 x1
          go_cut [98] (fun s98 wx => s98 = .bool (!Lib.hasPrefix s.data.toList (wmark 3)) ∧ Hid (KRnd w la lb wx) ∧ wx.cell? ⟨pa, 0, none⟩ = some (.int .i64 3) ∧ wx.cell? ⟨pa, 1, none⟩ = some (.int .i64 1) ∧ wx.cell? ⟨pa, 2, none⟩ = some (.string ⟨la.toArray⟩) ∧ wx.cell? ⟨pb, 0, none⟩ = some (.int .i64 3) ∧ wx.cell? ⟨pb, 1, none⟩ = some (.int .i64 1) ∧ wx.cell? ⟨pb, 2, none⟩ = some (.string ⟨lb.toArray⟩))
          case first =>
            by_cases hl : 3 ≤ s.size
            · have hd : decide ((s.size : Int) < 3) = false := decide_eq_false (by omega)
              go_wp2_with fail
              go_meet
              exact ⟨congrArg (fun b => Value.bool (!b)) (by have h := extract_prefix s ⟨#[107, 51, 46]⟩; rw [show (⟨#[107, 51, 46]⟩ : ByteArray).toList = [107, 51, 46] from by decide +kernel] at h; exact h), HRN, ca0, ca1, ca2, cb0, cb1, cb2⟩
            · have hd : decide ((s.size : Int) < 3) = true := decide_eq_true (by omega)
              go_wp2_with fail
              go_meet
              refine ⟨?_, HRN, ca0, ca1, ca2, cb0, cb1, cb2⟩
              rw [show Lib.hasPrefix s.data.toList (wmark 3) = false from by
                rw [Bool.eq_false_iff]
                intro h2
                unfold Lib.hasPrefix at h2
                rw [List.isPrefixOf_iff_prefix] at h2
                exact hl h2.length_le]
              rfl
          case rest =>
            clear HRN ca0 ca1 ca2 cb0 cb1 cb2 hlta hltb
            obtain ⟨rfl, HRN, ca0, ca1, ca2, cb0, cb1, cb2⟩ := hcut
            have hlta := World.block_lt_of_cell? _ _ ca0
            have hltb := World.block_lt_of_cell? _ _ cb0
            have HU : Hid (∀ b w, Lib.hasPrefix s.data.toList (wmark 3) = false → Calls Tryz.prog 34 #[keyV 3 1 b, .string s] w fun e w' => e = .returned (.tuple #[key0, .int .i64 7]) ∧ Below w.heap.size w w') := Lib.hid (fun b w h => unwrap_mis 3 b s w (by decide) h)
            generalize Lib.hasPrefix s.data.toList (wmark 3) = M at *
            rcases M with _ | _
            · go_wp2_with fail
              refine (HU.out _ _ trivial).mono ?_
              rintro e w8 ⟨rfl, hb8⟩
              have HR8 := Lib.hid (HRN.out.below hb8)
              have hba8 := (Below.refl w8.heap.size w8).alloc (Nat.le_refl _) (Obj.cells #[Value.int IntKind.i64 0, Value.int IntKind.i64 0, Value.string ⟨#[]⟩] 28)
              have HR8a := Lib.hid (HR8.out.below hba8)
              have eb0 := cell_below (cell_below cb0 hb8) hba8
              have eb1 := cell_below (cell_below cb1 hb8) hba8
              have eb2 := cell_below (cell_below cb2 hb8) hba8
              have db0 := cell_below cb0 hb8
              have hlt8 := World.block_lt_of_cell? _ _ db0
              have db1 := cell_below cb1 hb8
              have db2 := cell_below cb2 hb8
              clear hb8 hba8 HR8 ca0 ca1 ca2 cb0 cb1 cb2 hlta hltb HRN
              go_wp2_with fail
              refine (HU.out _ _ trivial).mono ?_
              rintro e w9 ⟨rfl, hb9⟩
              have HR9 := Lib.hid (HR8a.out.below hb9)
              have hba9 := (Below.refl w9.heap.size w9).alloc (Nat.le_refl _) (Obj.cells #[Value.int IntKind.i64 0, Value.int IntKind.i64 0, Value.string ⟨#[]⟩] 28)
              have HR9a := Lib.hid (HR9.out.below hba9)
              clear hb9 hba9 HR9 HR8a db0 db1 db2 eb0 eb1 eb2 hlt8
              go_wp2_with fail
              go_roundw
              case rel => exact ⟨1, by omega, by simp, HR9a.out⟩
              case measure => simp [intOf]
            · go_wp2_with fail
              go_roundw
              case rel => exact ⟨1, by omega, by simp, HRN.out⟩
              case measure => simp [intOf]
        · have x0 := fun w => (index_marks w).1
          have x1 := fun w => (index_marks w).2
          have hlta := World.block_lt_of_cell? _ _ ca0
          have hltb := World.block_lt_of_cell? _ _ cb0
          go_upto_region 17 with (fail)
          clear x0 x1
          go_cut [98] (fun s98 wx => s98 = .bool (!Lib.hasPrefix s.data.toList (wmark 3)) ∧ Hid (KRnd w la lb wx) ∧ wx.cell? ⟨pa, 0, none⟩ = some (.int .i64 3) ∧ wx.cell? ⟨pa, 1, none⟩ = some (.int .i64 1) ∧ wx.cell? ⟨pa, 2, none⟩ = some (.string ⟨la.toArray⟩) ∧ wx.cell? ⟨pb, 0, none⟩ = some (.int .i64 3) ∧ wx.cell? ⟨pb, 1, none⟩ = some (.int .i64 1) ∧ wx.cell? ⟨pb, 2, none⟩ = some (.string ⟨lb.toArray⟩))
          case first =>
            by_cases hl : 3 ≤ s.size
            · have hd : decide ((s.size : Int) < 3) = false := decide_eq_false (by omega)
              go_wp2_with fail
              go_meet
              exact ⟨congrArg (fun b => Value.bool (!b)) (by have h := extract_prefix s ⟨#[107, 51, 46]⟩; rw [show (⟨#[107, 51, 46]⟩ : ByteArray).toList = [107, 51, 46] from by decide +kernel] at h; exact h), HRN, ca0, ca1, ca2, cb0, cb1, cb2⟩
            · have hd : decide ((s.size : Int) < 3) = true := decide_eq_true (by omega)
              go_wp2_with fail
              go_meet
              refine ⟨?_, HRN, ca0, ca1, ca2, cb0, cb1, cb2⟩
              rw [show Lib.hasPrefix s.data.toList (wmark 3) = false from by
                rw [Bool.eq_false_iff]
                intro h2
                unfold Lib.hasPrefix at h2
                rw [List.isPrefixOf_iff_prefix] at h2
                exact hl h2.length_le]
              rfl
          case rest =>
            clear HRN ca0 ca1 ca2 cb0 cb1 cb2 hlta hltb
            obtain ⟨rfl, HRN, ca0, ca1, ca2, cb0, cb1, cb2⟩ := hcut
            have hlta := World.block_lt_of_cell? _ _ ca0
            have hltb := World.block_lt_of_cell? _ _ cb0
            have HU : Hid (∀ b w, Lib.hasPrefix s.data.toList (wmark 3) = false → Calls Tryz.prog 34 #[keyV 3 1 b, .string s] w fun e w' => e = .returned (.tuple #[key0, .int .i64 7]) ∧ Below w.heap.size w w') := Lib.hid (fun b w h => unwrap_mis 3 b s w (by decide) h)
            generalize Lib.hasPrefix s.data.toList (wmark 3) = M at *
            rcases M with _ | _
            · go_wp2_with fail
              refine (HU.out _ _ trivial).mono ?_
              rintro e w8 ⟨rfl, hb8⟩
              have HR8 := Lib.hid (HRN.out.below hb8)
              have hba8 := (Below.refl w8.heap.size w8).alloc (Nat.le_refl _) (Obj.cells #[Value.int IntKind.i64 0, Value.int IntKind.i64 0, Value.string ⟨#[]⟩] 28)
              have HR8a := Lib.hid (HR8.out.below hba8)
              have eb0 := cell_below (cell_below cb0 hb8) hba8
              have eb1 := cell_below (cell_below cb1 hb8) hba8
              have eb2 := cell_below (cell_below cb2 hb8) hba8
              have db0 := cell_below cb0 hb8
              have hlt8 := World.block_lt_of_cell? _ _ db0
              have db1 := cell_below cb1 hb8
              have db2 := cell_below cb2 hb8
              clear hb8 hba8 HR8 ca0 ca1 ca2 cb0 cb1 cb2 hlta hltb HRN
              go_wp2_with fail
              refine (HU.out _ _ trivial).mono ?_
              rintro e w9 ⟨rfl, hb9⟩
              have HR9 := Lib.hid (HR8a.out.below hb9)
              have hba9 := (Below.refl w9.heap.size w9).alloc (Nat.le_refl _) (Obj.cells #[Value.int IntKind.i64 0, Value.int IntKind.i64 0, Value.string ⟨#[]⟩] 28)
              have HR9a := Lib.hid (HR9.out.below hba9)
              clear hb9 hba9 HR9 HR8a db0 db1 db2 eb0 eb1 eb2 hlt8
              go_wp2_with fail
              go_roundw
              case rel => exact ⟨1, by omega, by simp, HR9a.out⟩
              case measure => simp [intOf]
            · go_wp2_with fail
              go_roundw
              case rel => exact ⟨1, by omega, by simp, HRN.out⟩
              case measure => simp [intOf]
    · obtain ⟨x0, x1⟩ := index_vers wr
      go_wp2_with fail
      clear x0 x1
      refine (make_local 4 la _ _ (bsl_row RN.ra HL.out) rfl HL.out).mono ?_
      rintro e w2 ⟨rfl, hb2⟩
      have RN2 := RN.below hb2
      have hba2 := (Below.refl w2.heap.size w2).alloc (Nat.le_refl _) (Obj.cells #[Value.int IntKind.i64 4, Value.int IntKind.i64 1, Value.string ⟨la.toArray⟩] 28)
      have RN2a := RN2.below hba2
      have HB := Lib.hid (bsl_row RN2a.rb HLB.out)
      have HRN := Lib.hid RN2a
      clear RN RN2 hb2 hba2 RN2a
      go_wp2_with fail
      refine (make_local 4 lb _ _ HB.out rfl HLB.out).mono ?_
      rintro e w3 ⟨rfl, hb3⟩
      have ka := Vo.heap_below (heap_alloc_new w2 (Obj.cells #[Value.int IntKind.i64 4, Value.int IntKind.i64 1, Value.string ⟨la.toArray⟩] 28)) hb3
      have RN3 := HRN.out.below hb3
      have hba3 := (Below.refl w3.heap.size w3).alloc (Nat.le_refl _) (Obj.cells #[Value.int IntKind.i64 4, Value.int IntKind.i64 1, Value.string ⟨lb.toArray⟩] 28)
      have RN3a := RN3.below hba3
      have ka3 := Vo.heap_below ka hba3
      have kb3 := heap_alloc_new w3 (Obj.cells #[Value.int IntKind.i64 4, Value.int IntKind.i64 1, Value.string ⟨lb.toArray⟩] 28)
      clear HB HRN hb3 ka RN3
      go_wp2_with fail
      refine (HH4.out _).mono ?_
      rintro e w4 ⟨rfl, hb4⟩
      have RN4 := RN3a.below hb4
      have ka4 := Vo.heap_below ka3 hb4
      have kb4 := Vo.heap_below kb3 hb4
      have hlta := Vo.heap_lt ka4
      have hltb := Vo.heap_lt kb4
      have ca0 := cell_of_row w4 _ 0 _ _ _ ka4
      have ca1 := cell_of_row w4 _ 1 _ _ _ ka4
      have ca2 := cell_of_row w4 _ 2 _ _ _ ka4
      have cb0 := cell_of_row w4 _ 0 _ _ _ kb4
      have cb1 := cell_of_row w4 _ 1 _ _ _ kb4
      have cb2 := cell_of_row w4 _ 2 _ _ _ kb4
      have HRN := Lib.hid RN4
      clear hba3 hb4 RN3a RN4 ka3 kb3 ka4 kb4
      generalize w2.heap.size = pa at *
      generalize w3.heap.size = pb at *
      go_upto_region 11 with (fail)
      go_cut [67] (fun s67 wx => s67 = .bool (!Lib.hasPrefix s.data.toList h41.data.toList) ∧ wx = w4)
      case first =>
        have hh : h41.size = 9 := rfl
        by_cases hl : 9 ≤ s.size
        · have hd : decide ((s.size : Int) < 9) = false := decide_eq_false (by omega)
          go_wp2_with fail
          go_meet
          exact ⟨by rw [show (9 : Nat) = h41.size from rfl, extract_prefix], rfl⟩
        · have hd : decide ((s.size : Int) < 9) = true := decide_eq_true (by omega)
          go_wp2_with fail
          go_meet
          refine ⟨?_, rfl⟩
          rw [show Lib.hasPrefix s.data.toList h41.data.toList = false from by
            rw [Bool.eq_false_iff]
            intro h2
            unfold Lib.hasPrefix at h2
            rw [List.isPrefixOf_iff_prefix] at h2
            exact hl h2.length_le]
          rfl
      case rest =>
        obtain ⟨rfl, rfl⟩ := hcut
        have HD : Hid (∀ b w, Lib.hasPrefix s.data.toList h41.data.toList = false → Calls Tryz.prog 26 #[keyV 4 1 b, .string s, .slice none 0 0] w fun e w' => e = .returned (.tuple #[.agg #[.slice none 0 0, .slice none 0 0, .slice none 0 0], .int .i64 7]) ∧ Below w.heap.size w w') := Lib.hid (fun b w h => decrypt_mis 4 b s w (by decide) h)
        generalize Lib.hasPrefix s.data.toList h41.data.toList = H at *
        rcases H with _ | _
        · go_wp2_with fail
          refine (HD.out _ _ trivial).mono ?_
          rintro e w5 ⟨rfl, hb5⟩
          have da0 := cell_below ca0 hb5
          have da1 := cell_below ca1 hb5
          have da2 := cell_below ca2 hb5
          have db0 := cell_below cb0 hb5
          have db1 := cell_below cb1 hb5
          have db2 := cell_below cb2 hb5
          have hlta5 := World.block_lt_of_cell? _ _ da0
          have hltb5 := World.block_lt_of_cell? _ _ db0
          have HR5 := Lib.hid (HRN.out.below hb5)
          have hba5 := (Below.refl w5.heap.size w5).alloc (Nat.le_refl _) (Obj.cells #[Value.slice none 0 0, Value.slice none 0 0, Value.slice none 0 0] 53)
          have HR5a := Lib.hid (HR5.out.below hba5)
          have ea0 := cell_below da0 hba5
          have ea1 := cell_below da1 hba5
          have ea2 := cell_below da2 hba5
          have eb0 := cell_below db0 hba5
          have eb1 := cell_below db1 hba5
          have eb2 := cell_below db2 hba5
          clear hb5 hba5 HRN HR5 ca0 ca1 ca2 cb0 cb1 cb2 hlta hltb
          go_wp2_with fail
          refine (HD.out _ _ trivial).mono ?_
          rintro e w6 ⟨rfl, hb6⟩
          have HR6 := Lib.hid (HR5a.out.below hb6)
          have hba6 := (Below.refl w6.heap.size w6).alloc (Nat.le_refl _) (Obj.cells #[Value.slice none 0 0, Value.slice none 0 0, Value.slice none 0 0] 53)
          have HRN := Lib.hid (HR6.out.below hba6)
          have ca0 := cell_below (cell_below ea0 hb6) hba6
          have ca1 := cell_below (cell_below ea1 hb6) hba6
          have ca2 := cell_below (cell_below ea2 hb6) hba6
          have cb0 := cell_below (cell_below eb0 hb6) hba6
          have cb1 := cell_below (cell_below eb1 hb6) hba6
          have cb2 := cell_below (cell_below eb2 hb6) hba6
          clear hb6 HR6 hba6 HR5a da0 da1 da2 db0 db1 db2 ea0 ea1 ea2 eb0 eb1 eb2 hlta5 hltb5
          have x0 := fun w => (index_marks w).1
          have x1 := fun w => (index_marks w).2
          have hlta := World.block_lt_of_cell? _ _ ca0
          have hltb := World.block_lt_of_cell? _ _ cb0
          go_upto_region 17 with (fail)
          clear x0 x1
          go_cut [98] (fun s98 wx => s98 = .bool (!Lib.hasPrefix s.data.toList (wmark 4)) ∧ Hid (KRnd w la lb wx) ∧ wx.cell? ⟨pa, 0, none⟩ = some (.int .i64 4) ∧ wx.cell? ⟨pa, 1, none⟩ = some (.int .i64 1) ∧ wx.cell? ⟨pa, 2, none⟩ = some (.string ⟨la.toArray⟩) ∧ wx.cell? ⟨pb, 0, none⟩ = some (.int .i64 4) ∧ wx.cell? ⟨pb, 1, none⟩ = some (.int .i64 1) ∧ wx.cell? ⟨pb, 2, none⟩ = some (.string ⟨lb.toArray⟩))
          case first =>
            by_cases hl : 3 ≤ s.size
            · have hd : decide ((s.size : Int) < 3) = false := decide_eq_false (by omega)
              go_wp2_with fail
              go_meet
              exact ⟨congrArg (fun b => Value.bool (!b)) (by have h := extract_prefix s ⟨#[107, 52, 46]⟩; rw [show (⟨#[107, 52, 46]⟩ : ByteArray).toList = [107, 52, 46] from by decide +kernel] at h; exact h), HRN, ca0, ca1, ca2, cb0, cb1, cb2⟩
            · have hd : decide ((s.size : Int) < 3) = true := decide_eq_true (by omega)
              go_wp2_with fail
              go_meet
              refine ⟨?_, HRN, ca0, ca1, ca2, cb0, cb1, cb2⟩
              rw [show Lib.hasPrefix s.data.toList (wmark 4) = false from by
                rw [Bool.eq_false_iff]
                intro h2
                unfold Lib.hasPrefix at h2
                rw [List.isPrefixOf_iff_prefix] at h2
                exact hl h2.length_le]
              rfl
          case rest =>
            clear HRN ca0 ca1 ca2 cb0 cb1 cb2 hlta hltb
            obtain ⟨rfl, HRN, ca0, ca1, ca2, cb0, cb1, cb2⟩ := hcut
            have hlta := World.block_lt_of_cell? _ _ ca0
            have hltb := World.block_lt_of_cell? _ _ cb0
            have HU : Hid (∀ b w, Lib.hasPrefix s.data.toList (wmark 4) = false → Calls Tryz.prog 34 #[keyV 4 1 b, .string s] w fun e w' => e = .returned (.tuple #[key0, .int .i64 7]) ∧ Below w.heap.size w w') := Lib.hid (fun b w h => unwrap_mis 4 b s w (by decide) h)
            generalize Lib.hasPrefix s.data.toList (wmark 4) = M at *
            rcases M with _ | _
            · go_wp2_with fail
              refine (HU.out _ _ trivial).mono ?_
              rintro e w8 ⟨rfl, hb8⟩
              have HR8 := Lib.hid (HRN.out.below hb8)
              have hba8 := (Below.refl w8.heap.size w8).alloc (Nat.le_refl _) (Obj.cells #[Value.int IntKind.i64 0, Value.int IntKind.i64 0, Value.string ⟨#[]⟩] 28)
              have HR8a := Lib.hid (HR8.out.below hba8)
              have eb0 := cell_below (cell_below cb0 hb8) hba8
              have eb1 := cell_below (cell_below cb1 hb8) hba8
              have eb2 := cell_below (cell_below cb2 hb8) hba8
              have db0 := cell_below cb0 hb8
              have hlt8 := World.block_lt_of_cell? _ _ db0
              have db1 := cell_below cb1 hb8
              have db2 := cell_below cb2 hb8
              clear hb8 hba8 HR8 ca0 ca1 ca2 cb0 cb1 cb2 hlta hltb HRN
              go_wp2_with fail
              refine (HU.out _ _ trivial).mono ?_
              rintro e w9 ⟨rfl, hb9⟩
              have HR9 := Lib.hid (HR8a.out.below hb9)
              have hba9 := (Below.refl w9.heap.size w9).alloc (Nat.le_refl _) (Obj.cells #[Value.int IntKind.i64 0, Value.int IntKind.i64 0, Value.string ⟨#[]⟩] 28)
              have HR9a := Lib.hid (HR9.out.below hba9)
              clear hb9 hba9 HR9 HR8a db0 db1 db2 eb0 eb1 eb2 hlt8
              go_wp2_with fail
              go_roundw
              case rel => exact ⟨2, by omega, by simp, HR9a.out⟩
              case measure => simp [intOf]
            · go_wp2_with fail
              go_roundw
              case rel => exact ⟨2, by omega, by simp, HRN.out⟩
              case measure => simp [intOf]
        · have x0 := fun w => (index_marks w).1
          have x1 := fun w => (index_marks w).2
          have hlta := World.block_lt_of_cell? _ _ ca0
          have hltb := World.block_lt_of_cell? _ _ cb0
          go_upto_region 17 with (fail)
          clear x0 x1
          go_cut [98] (fun s98 wx => s98 = .bool (!Lib.hasPrefix s.data.toList (wmark 4)) ∧ Hid (KRnd w la lb wx) ∧ wx.cell? ⟨pa, 0, none⟩ = some (.int .i64 4) ∧ wx.cell? ⟨pa, 1, none⟩ = some (.int .i64 1) ∧ wx.cell? ⟨pa, 2, none⟩ = some (.string ⟨la.toArray⟩) ∧ wx.cell? ⟨pb, 0, none⟩ = some (.int .i64 4) ∧ wx.cell? ⟨pb, 1, none⟩ = some (.int .i64 1) ∧ wx.cell? ⟨pb, 2, none⟩ = some (.string ⟨lb.toArray⟩))
          case first =>
            by_cases hl : 3 ≤ s.size
            · have hd : decide ((s.size : Int) < 3) = false := decide_eq_false (by omega)
              go_wp2_with fail
              go_meet
              exact ⟨congrArg (fun b => Value.bool (!b)) (by have h := extract_prefix s ⟨#[107, 52, 46]⟩; rw [show (⟨#[107, 52, 46]⟩ : ByteArray).toList = [107, 52, 46] from by decide +kernel] at h; exact h), HRN, ca0, ca1, ca2, cb0, cb1, cb2⟩
            · have hd : decide ((s.size : Int) < 3) = true := decide_eq_true (by omega)
              go_wp2_with fail
              go_meet
              refine ⟨?_, HRN, ca0, ca1, ca2, cb0, cb1, cb2⟩
              rw [show Lib.hasPrefix s.data.toList (wmark 4) = false from by
                rw [Bool.eq_false_iff]
                intro h2
                unfold Lib.hasPrefix at h2
                rw [List.isPrefixOf_iff_prefix] at h2
                exact hl h2.length_le]
              rfl
          case rest =>
            clear HRN ca0 ca1 ca2 cb0 cb1 cb2 hlta hltb
            obtain ⟨rfl, HRN, ca0, ca1, ca2, cb0, cb1, cb2⟩ := hcut
            have hlta := World.block_lt_of_cell? _ _ ca0
            have hltb := World.block_lt_of_cell? _ _ cb0
            have HU : Hid (∀ b w, Lib.hasPrefix s.data.toList (wmark 4) = false → Calls Tryz.prog 34 #[keyV 4 1 b, .string s] w fun e w' => e = .returned (.tuple #[key0, .int .i64 7]) ∧ Below w.heap.size w w') := Lib.hid (fun b w h => unwrap_mis 4 b s w (by decide) h)
            generalize Lib.hasPrefix s.data.toList (wmark 4) = M at *
            rcases M with _ | _
            · go_wp2_with fail
              refine (HU.out _ _ trivial).mono ?_
              rintro e w8 ⟨rfl, hb8⟩
              have HR8 := Lib.hid (HRN.out.below hb8)
              have hba8 := (Below.refl w8.heap.size w8).alloc (Nat.le_refl _) (Obj.cells #[Value.int IntKind.i64 0, Value.int IntKind.i64 0, Value.string ⟨#[]⟩] 28)
              have HR8a := Lib.hid (HR8.out.below hba8)
              have eb0 := cell_below (cell_below cb0 hb8) hba8
              have eb1 := cell_below (cell_below cb1 hb8) hba8
              have eb2 := cell_below (cell_below cb2 hb8) hba8
              have db0 := cell_below cb0 hb8
              have hlt8 := World.block_lt_of_cell? _ _ db0
              have db1 := cell_below cb1 hb8
              have db2 := cell_below cb2 hb8
              clear hb8 hba8 HR8 ca0 ca1 ca2 cb0 cb1 cb2 hlta hltb HRN
              go_wp2_with fail
              refine (HU.out _ _ trivial).mono ?_
              rintro e w9 ⟨rfl, hb9⟩
              have HR9 := Lib.hid (HR8a.out.below hb9)
              have hba9 := (Below.refl w9.heap.size w9).alloc (Nat.le_refl _) (Obj.cells #[Value.int IntKind.i64 0, Value.int IntKind.i64 0, Value.string ⟨#[]⟩] 28)
              have HR9a := Lib.hid (HR9.out.below hba9)
              clear hb9 hba9 HR9 HR8a db0 db1 db2 eb0 eb1 eb2 hlt8
              go_wp2_with fail
              go_roundw
              case rel => exact ⟨2, by omega, by simp, HR9a.out⟩
              case measure => simp [intOf]
            · go_wp2_with fail
              go_roundw
              case rel => exact ⟨2, by omega, by simp, HRN.out⟩
              case measure => simp [intOf]
    · have HRN := Lib.hid RN
      clear RN
      go_wp2
      go_returns
      exact ⟨rfl, HRN.out.bel⟩
end Go.Proofs.YtlgghcffmnofdaaGreatDoor.Ke
