/-
  The walk of serial.search.
-/
import Derived.Test.YtlgghcffmnofdaaGreatDoorSerialQ

namespace Go.Proofs.YtlgghcffmnofdaaGreatDoor.Ke
open Go Go.RowKit Go.Proofs.YtlgghcffmnofdaaGreatDoor.Cn
set_option maxRecDepth 100000

/-- The cells of the slice of the kinds. -/
abbrev kindCells : Array Value := #[.int .i64 3, .int .i64 1, .int .i64 4, .int .i64 1, .int .i64 4, .int .i64 2, .int .i64 4, .int .i64 3]

theorem kinds_any (w : World) : Calls Tryz.prog 83 #[] w fun e w' => ∃ b, e = .returned (.slice (some ⟨b, 0, none⟩) 4 4) ∧ Below w.heap.size w w' ∧ w.heap.size ≤ b ∧ w'.heap[b]? = some (.cells kindCells 79) := by
  go_enter Tryz.func83, Tryz.ntmps83
  go_wp2
  go_returns
  exact ⟨_, rfl, by go_grown, Nat.le_refl _, heap_alloc_new w _⟩

/-- The heads of the kinds. -/
abbrev KH := Int × Int × ByteArray
def keyHeads : List KH := [(3, 1, ⟨#[107, 51, 46, 108, 111, 99, 97, 108, 46]⟩), (4, 1, ⟨#[107, 52, 46, 108, 111, 99, 97, 108, 46]⟩), (4, 2, ⟨#[107, 52, 46, 115, 101, 99, 114, 101, 116, 46]⟩), (4, 3, ⟨#[107, 52, 46, 112, 117, 98, 108, 105, 99, 46]⟩)]
def nameHeads : List KH := [(3, 1, ⟨#[107, 51, 46, 108, 105, 100, 46]⟩), (4, 1, ⟨#[107, 52, 46, 108, 105, 100, 46]⟩), (4, 2, ⟨#[107, 52, 46, 115, 105, 100, 46]⟩), (4, 3, ⟨#[107, 52, 46, 112, 105, 100, 46]⟩)]
/-- The first head that a text begins with, and what is behind. -/
def findHead : List KH → List UInt8 → Option (Int × Int × List UInt8)
  | [], _ => none
  | (v, p, h) :: t, s => if Lib.hasPrefix s h.data.toList then some (v, p, Lib.trimPrefix s h.data.toList) else findHead t s
def sK : Option (Int × Int × List UInt8) → Value
  | none => kindV 0 0
  | some (v, p, _) => kindV v p
def sB : Option (Int × Int × List UInt8) → List UInt8
  | none => []
  | some (_, _, r) => (rdv sg64 6 ⟨r.toArray⟩).1
def sE : Option (Int × Int × List UInt8) → Int
  | none => 7
  | some (_, _, r) => (rdv sg64 6 ⟨r.toArray⟩).2
def SearchPost (R : Option (Int × Int × List UInt8)) (w : World) (e : Ending) (w' : World) : Prop :=
  ∃ v, e = .returned (.tuple #[sK R, v, .int .i64 (sE R)]) ∧ Bsl w' v (sB R) ∧ Below w.heap.size w w'

/-- What a round of the search stands on. -/
structure Rnd (w : World) (b : Nat) (wr : World) : Prop where
  bel : Below w.heap.size w wr
  kinds : wr.heap[b]? = some (.cells kindCells 79)
  res : wr.heap[w.heap.size]? = some (.cells #[.int .i64 0, .int .i64 0] 79)
theorem Rnd.below {w wr w' : World} {b : Nat} (h : Rnd w b wr) (hb : Below wr.heap.size wr w') : Rnd w b w' :=
  ⟨h.bel.trans (hb.mono h.bel.size), Vo.heap_below h.kinds hb, Vo.heap_below h.res hb⟩

theorem _root_.Go.Proofs.YtlgghcffmnofdaaGreatDoor.Cn.Bsl.set {w : World} {v : Value} {l : List UInt8} {a : Addr} {x : Int} (h : Bsl w v l) (ha : w.cell? a = some (.int .i64 x)) (u : Value) : Bsl (w.setCell a u) v l := by
  obtain ⟨ad, cap, rfl, hle, hc⟩ := h
  refine ⟨ad, cap, rfl, hle, fun j hj => ?_⟩
  obtain ⟨b, off, rfl, h1⟩ := hc j hj
  refine ⟨b, off, rfl, ?_⟩
  rw [World.cell?_setCell_other]
  · exact h1
  · intro e
    subst e
    rw [h1] at ha
    cases ha

theorem trimPrefix_le (s p : List UInt8) : (Lib.trimPrefix s p).length ≤ s.length := by
  unfold Lib.trimPrefix
  split <;> simp

set_option maxHeartbeats 4000000 in
theorem search_names (s : ByteArray) (w : World) (hw : Words w) (hg : Base w) (hs : s.size ≤ 1000000) :
    Calls Tryz.prog 39 #[.string s, .int .i64 1] w (SearchPost (findHead nameHeads s.data.toList) w) := by
  generalize hR : findHead nameHeads s.data.toList = R
  have HR := Lib.hid (show findHead (List.drop 0 nameHeads) s.data.toList = R from hR)
  clear hR
  have hsl : s.data.toList.length ≤ 1000000 := hs
  go_enter Tryz.func39, Tryz.ntmps39
  go_wp2_with fail
  refine (kinds_any _).mono ?_
  rintro e w1 ⟨b, rfl, hb1, hge, hk⟩
  have hge' : w.heap.size < b := by simp at hge; omega
  have hr : w1.heap[w.heap.size]? = some (.cells #[.int .i64 0, .int .i64 0] 79) := Vo.heap_below (heap_alloc_new w _) hb1
  have hbel : Below w.heap.size w w1 := ((Below.refl _ _).alloc (Nat.le_refl _) _).trans (hb1.mono (by simp))
  clear hb1 hge
  go_wp2_with fail
  go_loopw [15] (fun i wr => ∃ k : Nat, k ≤ 4 ∧ i = .int .i64 k ∧ Rnd w b wr ∧ Hid (findHead (nameHeads.drop k) s.data.toList = R)) (fun i _ => 4 - (intOf i).toNat)
  case atStart => exact ⟨0, by omega, rfl, ⟨hbel, hk, hr⟩, HR⟩
  case round =>
    obtain ⟨k, hk4, rfl, RN, HD⟩ := hrel
    clear HR hk hr hbel
    obtain ⟨bel, hkc, hrc⟩ := id RN
    have hwr := hw.below bel
    have hgr := hg.below bel
    have hklt := Vo.heap_lt hkc
    have hrlt := Vo.heap_lt hrc
    obtain rfl | rfl | rfl | rfl | rfl : k = 0 ∨ k = 1 ∨ k = 2 ∨ k = 3 ∨ k = 4 := by omega
    · have c0 : wr.cell? ⟨b, 0, none⟩ = some (.int .i64 3) := cell_of_row wr b 0 _ _ _ hkc
      have c1 : wr.cell? ⟨b, 1, none⟩ = some (.int .i64 1) := cell_of_row wr b 1 _ _ _ hkc
      have hst : findHead (nameHeads.drop 0) s.data.toList = (if Lib.hasPrefix s.data.toList (⟨#[107, 51, 46, 108, 105, 100, 46]⟩ : ByteArray).data.toList then some (3, 1, Lib.trimPrefix s.data.toList (⟨#[107, 51, 46, 108, 105, 100, 46]⟩ : ByteArray).data.toList) else findHead (nameHeads.drop 1) s.data.toList) := rfl
      have HD := Lib.hid (hst.symm.trans HD.out)
      clear hst
      go_wp2_with fail
      have hba := (Below.refl wr.heap.size wr).alloc (Nat.le_refl _) (Obj.cells #[Value.int IntKind.i64 3, Value.int IntKind.i64 1] 79)
      refine (head_311 _ (hwr.below hba)).mono ?_
      rintro e w2 ⟨rfl, hb2⟩
      have RN2 := Lib.hid ((RN.below hba).below hb2)
      have g8 : w2.heap[wr.heap.size]? = some (.cells #[.int .i64 3, .int .i64 1] 79) := Vo.heap_below (heap_alloc_new wr _) hb2
      have e0 : w2.cell? ⟨wr.heap.size, 0, none⟩ = some (.int .i64 3) := cell_of_row w2 wr.heap.size 0 _ _ _ g8
      have e1 : w2.cell? ⟨wr.heap.size, 1, none⟩ = some (.int .i64 1) := cell_of_row w2 wr.heap.size 1 _ _ _ g8
      have hg2 := (hgr.below hba).below hb2
      clear hba hb2 RN hkc hrc c0 c1 g8 hwr hgr bel
      go_wp2_with fail
      refine (Tryz.strings_CutPrefix s ⟨#[107, 51, 46, 108, 105, 100, 46]⟩ w2).mono ?_
      rintro e w2' ⟨rfl, rfl⟩
      have hts := trimPrefix_le s.data.toList (⟨#[107, 51, 46, 108, 105, 100, 46]⟩ : ByteArray).data.toList
      generalize (Lib.trimPrefix s.data.toList (⟨#[107, 51, 46, 108, 105, 100, 46]⟩ : ByteArray).data.toList) = T at HD hts ⊢
      generalize (Lib.hasPrefix s.data.toList (⟨#[107, 51, 46, 108, 105, 100, 46]⟩ : ByteArray).data.toList) = H at HD ⊢
      rcases H with _ | _
      · go_wp2_with fail
        exact ⟨⟨1, by omega, rfl, RN2.out, Lib.hid HD.out⟩, by decide⟩
      · have HB := Lib.hid (bytes_any ⟨T.toArray⟩ w2' hg2 (by simp [ByteArray.size]; omega))
        have hRR : some (3, 1, T) = R := HD.out
        clear HD
        go_wp2_with fail
        refine HB.out.mono ?_
        rintro e w3 ⟨bv, rfl, hbv, hb3⟩
        have e0' := cell_below e0 hb3
        have e1' := cell_below e1 hb3
        have RN3 := RN2.out.below hb3
        obtain ⟨bel3, _, hrc3⟩ := RN3
        have r0 : w3.cell? ⟨w.heap.size, 0, none⟩ = some (.int .i64 0) := cell_of_row w3 w.heap.size 0 _ _ _ hrc3
        have r1 : w3.cell? ⟨w.heap.size, 1, none⟩ = some (.int .i64 0) := cell_of_row w3 w.heap.size 1 _ _ _ hrc3
        have q0 : w3.frozen? ⟨w.heap.size, 0, none⟩ = false := frozen_of_row w3 w.heap.size 0 _ _ hrc3
        have q1 : w3.frozen? ⟨w.heap.size, 1, none⟩ = false := frozen_of_row w3 w.heap.size 1 _ _ hrc3
        have hne : wr.heap.size ≠ w.heap.size := by omega
        clear HB RN2 hrc3
        have hs1 := hbv.set r0 (.int .i64 3)
        have r1' : (w3.setCell ⟨w.heap.size, 0, none⟩ (.int .i64 3)).cell? ⟨w.heap.size, 1, none⟩ = some (.int .i64 0) := (World.cell?_setCell_other _ _ _ _ (by simp)).trans r1
        have HS2 := Lib.hid (hs1.set r1' (.int .i64 1))
        clear hs1 r1' hbv
        go_wp2_with fail
        refine bodyPost_ret (by simp [results, Tryz.results39, go_sem, r0, r1]; try rfl) rfl ?_
        subst hRR
        exact ⟨bv, rfl, HS2.out, by go_grown⟩
    · have c0 : wr.cell? ⟨b, 2, none⟩ = some (.int .i64 4) := cell_of_row wr b 2 _ _ _ hkc
      have c1 : wr.cell? ⟨b, 3, none⟩ = some (.int .i64 1) := cell_of_row wr b 3 _ _ _ hkc
      have hst : findHead (nameHeads.drop 1) s.data.toList = (if Lib.hasPrefix s.data.toList (⟨#[107, 52, 46, 108, 105, 100, 46]⟩ : ByteArray).data.toList then some (4, 1, Lib.trimPrefix s.data.toList (⟨#[107, 52, 46, 108, 105, 100, 46]⟩ : ByteArray).data.toList) else findHead (nameHeads.drop 2) s.data.toList) := rfl
      have HD := Lib.hid (hst.symm.trans HD.out)
      clear hst
      go_wp2_with fail
      have hba := (Below.refl wr.heap.size wr).alloc (Nat.le_refl _) (Obj.cells #[Value.int IntKind.i64 4, Value.int IntKind.i64 1] 79)
      refine (head_411 _ (hwr.below hba)).mono ?_
      rintro e w2 ⟨rfl, hb2⟩
      have RN2 := Lib.hid ((RN.below hba).below hb2)
      have g8 : w2.heap[wr.heap.size]? = some (.cells #[.int .i64 4, .int .i64 1] 79) := Vo.heap_below (heap_alloc_new wr _) hb2
      have e0 : w2.cell? ⟨wr.heap.size, 0, none⟩ = some (.int .i64 4) := cell_of_row w2 wr.heap.size 0 _ _ _ g8
      have e1 : w2.cell? ⟨wr.heap.size, 1, none⟩ = some (.int .i64 1) := cell_of_row w2 wr.heap.size 1 _ _ _ g8
      have hg2 := (hgr.below hba).below hb2
      clear hba hb2 RN hkc hrc c0 c1 g8 hwr hgr bel
      go_wp2_with fail
      refine (Tryz.strings_CutPrefix s ⟨#[107, 52, 46, 108, 105, 100, 46]⟩ w2).mono ?_
      rintro e w2' ⟨rfl, rfl⟩
      have hts := trimPrefix_le s.data.toList (⟨#[107, 52, 46, 108, 105, 100, 46]⟩ : ByteArray).data.toList
      generalize (Lib.trimPrefix s.data.toList (⟨#[107, 52, 46, 108, 105, 100, 46]⟩ : ByteArray).data.toList) = T at HD hts ⊢
      generalize (Lib.hasPrefix s.data.toList (⟨#[107, 52, 46, 108, 105, 100, 46]⟩ : ByteArray).data.toList) = H at HD ⊢
      rcases H with _ | _
      · go_wp2_with fail
        exact ⟨⟨2, by omega, rfl, RN2.out, Lib.hid HD.out⟩, by decide⟩
      · have HB := Lib.hid (bytes_any ⟨T.toArray⟩ w2' hg2 (by simp [ByteArray.size]; omega))
        have hRR : some (4, 1, T) = R := HD.out
        clear HD
        go_wp2_with fail
        refine HB.out.mono ?_
        rintro e w3 ⟨bv, rfl, hbv, hb3⟩
        have e0' := cell_below e0 hb3
        have e1' := cell_below e1 hb3
        have RN3 := RN2.out.below hb3
        obtain ⟨bel3, _, hrc3⟩ := RN3
        have r0 : w3.cell? ⟨w.heap.size, 0, none⟩ = some (.int .i64 0) := cell_of_row w3 w.heap.size 0 _ _ _ hrc3
        have r1 : w3.cell? ⟨w.heap.size, 1, none⟩ = some (.int .i64 0) := cell_of_row w3 w.heap.size 1 _ _ _ hrc3
        have q0 : w3.frozen? ⟨w.heap.size, 0, none⟩ = false := frozen_of_row w3 w.heap.size 0 _ _ hrc3
        have q1 : w3.frozen? ⟨w.heap.size, 1, none⟩ = false := frozen_of_row w3 w.heap.size 1 _ _ hrc3
        have hne : wr.heap.size ≠ w.heap.size := by omega
        clear HB RN2 hrc3
        have hs1 := hbv.set r0 (.int .i64 4)
        have r1' : (w3.setCell ⟨w.heap.size, 0, none⟩ (.int .i64 4)).cell? ⟨w.heap.size, 1, none⟩ = some (.int .i64 0) := (World.cell?_setCell_other _ _ _ _ (by simp)).trans r1
        have HS2 := Lib.hid (hs1.set r1' (.int .i64 1))
        clear hs1 r1' hbv
        go_wp2_with fail
        refine bodyPost_ret (by simp [results, Tryz.results39, go_sem, r0, r1]; try rfl) rfl ?_
        subst hRR
        exact ⟨bv, rfl, HS2.out, by go_grown⟩
    · have c0 : wr.cell? ⟨b, 4, none⟩ = some (.int .i64 4) := cell_of_row wr b 4 _ _ _ hkc
      have c1 : wr.cell? ⟨b, 5, none⟩ = some (.int .i64 2) := cell_of_row wr b 5 _ _ _ hkc
      have hst : findHead (nameHeads.drop 2) s.data.toList = (if Lib.hasPrefix s.data.toList (⟨#[107, 52, 46, 115, 105, 100, 46]⟩ : ByteArray).data.toList then some (4, 2, Lib.trimPrefix s.data.toList (⟨#[107, 52, 46, 115, 105, 100, 46]⟩ : ByteArray).data.toList) else findHead (nameHeads.drop 3) s.data.toList) := rfl
      have HD := Lib.hid (hst.symm.trans HD.out)
      clear hst
      go_wp2_with fail
      have hba := (Below.refl wr.heap.size wr).alloc (Nat.le_refl _) (Obj.cells #[Value.int IntKind.i64 4, Value.int IntKind.i64 2] 79)
      refine (head_421 _ (hwr.below hba)).mono ?_
      rintro e w2 ⟨rfl, hb2⟩
      have RN2 := Lib.hid ((RN.below hba).below hb2)
      have g8 : w2.heap[wr.heap.size]? = some (.cells #[.int .i64 4, .int .i64 2] 79) := Vo.heap_below (heap_alloc_new wr _) hb2
      have e0 : w2.cell? ⟨wr.heap.size, 0, none⟩ = some (.int .i64 4) := cell_of_row w2 wr.heap.size 0 _ _ _ g8
      have e1 : w2.cell? ⟨wr.heap.size, 1, none⟩ = some (.int .i64 2) := cell_of_row w2 wr.heap.size 1 _ _ _ g8
      have hg2 := (hgr.below hba).below hb2
      clear hba hb2 RN hkc hrc c0 c1 g8 hwr hgr bel
      go_wp2_with fail
      refine (Tryz.strings_CutPrefix s ⟨#[107, 52, 46, 115, 105, 100, 46]⟩ w2).mono ?_
      rintro e w2' ⟨rfl, rfl⟩
      have hts := trimPrefix_le s.data.toList (⟨#[107, 52, 46, 115, 105, 100, 46]⟩ : ByteArray).data.toList
      generalize (Lib.trimPrefix s.data.toList (⟨#[107, 52, 46, 115, 105, 100, 46]⟩ : ByteArray).data.toList) = T at HD hts ⊢
      generalize (Lib.hasPrefix s.data.toList (⟨#[107, 52, 46, 115, 105, 100, 46]⟩ : ByteArray).data.toList) = H at HD ⊢
      rcases H with _ | _
      · go_wp2_with fail
        exact ⟨⟨3, by omega, rfl, RN2.out, Lib.hid HD.out⟩, by decide⟩
      · have HB := Lib.hid (bytes_any ⟨T.toArray⟩ w2' hg2 (by simp [ByteArray.size]; omega))
        have hRR : some (4, 2, T) = R := HD.out
        clear HD
        go_wp2_with fail
        refine HB.out.mono ?_
        rintro e w3 ⟨bv, rfl, hbv, hb3⟩
        have e0' := cell_below e0 hb3
        have e1' := cell_below e1 hb3
        have RN3 := RN2.out.below hb3
        obtain ⟨bel3, _, hrc3⟩ := RN3
        have r0 : w3.cell? ⟨w.heap.size, 0, none⟩ = some (.int .i64 0) := cell_of_row w3 w.heap.size 0 _ _ _ hrc3
        have r1 : w3.cell? ⟨w.heap.size, 1, none⟩ = some (.int .i64 0) := cell_of_row w3 w.heap.size 1 _ _ _ hrc3
        have q0 : w3.frozen? ⟨w.heap.size, 0, none⟩ = false := frozen_of_row w3 w.heap.size 0 _ _ hrc3
        have q1 : w3.frozen? ⟨w.heap.size, 1, none⟩ = false := frozen_of_row w3 w.heap.size 1 _ _ hrc3
        have hne : wr.heap.size ≠ w.heap.size := by omega
        clear HB RN2 hrc3
        have hs1 := hbv.set r0 (.int .i64 4)
        have r1' : (w3.setCell ⟨w.heap.size, 0, none⟩ (.int .i64 4)).cell? ⟨w.heap.size, 1, none⟩ = some (.int .i64 0) := (World.cell?_setCell_other _ _ _ _ (by simp)).trans r1
        have HS2 := Lib.hid (hs1.set r1' (.int .i64 2))
        clear hs1 r1' hbv
        go_wp2_with fail
        refine bodyPost_ret (by simp [results, Tryz.results39, go_sem, r0, r1]; try rfl) rfl ?_
        subst hRR
        exact ⟨bv, rfl, HS2.out, by go_grown⟩
    · have c0 : wr.cell? ⟨b, 6, none⟩ = some (.int .i64 4) := cell_of_row wr b 6 _ _ _ hkc
      have c1 : wr.cell? ⟨b, 7, none⟩ = some (.int .i64 3) := cell_of_row wr b 7 _ _ _ hkc
      have hst : findHead (nameHeads.drop 3) s.data.toList = (if Lib.hasPrefix s.data.toList (⟨#[107, 52, 46, 112, 105, 100, 46]⟩ : ByteArray).data.toList then some (4, 3, Lib.trimPrefix s.data.toList (⟨#[107, 52, 46, 112, 105, 100, 46]⟩ : ByteArray).data.toList) else findHead (nameHeads.drop 4) s.data.toList) := rfl
      have HD := Lib.hid (hst.symm.trans HD.out)
      clear hst
      go_wp2_with fail
      have hba := (Below.refl wr.heap.size wr).alloc (Nat.le_refl _) (Obj.cells #[Value.int IntKind.i64 4, Value.int IntKind.i64 3] 79)
      refine (head_431 _ (hwr.below hba)).mono ?_
      rintro e w2 ⟨rfl, hb2⟩
      have RN2 := Lib.hid ((RN.below hba).below hb2)
      have g8 : w2.heap[wr.heap.size]? = some (.cells #[.int .i64 4, .int .i64 3] 79) := Vo.heap_below (heap_alloc_new wr _) hb2
      have e0 : w2.cell? ⟨wr.heap.size, 0, none⟩ = some (.int .i64 4) := cell_of_row w2 wr.heap.size 0 _ _ _ g8
      have e1 : w2.cell? ⟨wr.heap.size, 1, none⟩ = some (.int .i64 3) := cell_of_row w2 wr.heap.size 1 _ _ _ g8
      have hg2 := (hgr.below hba).below hb2
      clear hba hb2 RN hkc hrc c0 c1 g8 hwr hgr bel
      go_wp2_with fail
      refine (Tryz.strings_CutPrefix s ⟨#[107, 52, 46, 112, 105, 100, 46]⟩ w2).mono ?_
      rintro e w2' ⟨rfl, rfl⟩
      have hts := trimPrefix_le s.data.toList (⟨#[107, 52, 46, 112, 105, 100, 46]⟩ : ByteArray).data.toList
      generalize (Lib.trimPrefix s.data.toList (⟨#[107, 52, 46, 112, 105, 100, 46]⟩ : ByteArray).data.toList) = T at HD hts ⊢
      generalize (Lib.hasPrefix s.data.toList (⟨#[107, 52, 46, 112, 105, 100, 46]⟩ : ByteArray).data.toList) = H at HD ⊢
      rcases H with _ | _
      · go_wp2_with fail
        exact ⟨⟨4, by omega, rfl, RN2.out, Lib.hid HD.out⟩, by decide⟩
      · have HB := Lib.hid (bytes_any ⟨T.toArray⟩ w2' hg2 (by simp [ByteArray.size]; omega))
        have hRR : some (4, 3, T) = R := HD.out
        clear HD
        go_wp2_with fail
        refine HB.out.mono ?_
        rintro e w3 ⟨bv, rfl, hbv, hb3⟩
        have e0' := cell_below e0 hb3
        have e1' := cell_below e1 hb3
        have RN3 := RN2.out.below hb3
        obtain ⟨bel3, _, hrc3⟩ := RN3
        have r0 : w3.cell? ⟨w.heap.size, 0, none⟩ = some (.int .i64 0) := cell_of_row w3 w.heap.size 0 _ _ _ hrc3
        have r1 : w3.cell? ⟨w.heap.size, 1, none⟩ = some (.int .i64 0) := cell_of_row w3 w.heap.size 1 _ _ _ hrc3
        have q0 : w3.frozen? ⟨w.heap.size, 0, none⟩ = false := frozen_of_row w3 w.heap.size 0 _ _ hrc3
        have q1 : w3.frozen? ⟨w.heap.size, 1, none⟩ = false := frozen_of_row w3 w.heap.size 1 _ _ hrc3
        have hne : wr.heap.size ≠ w.heap.size := by omega
        clear HB RN2 hrc3
        have hs1 := hbv.set r0 (.int .i64 4)
        have r1' : (w3.setCell ⟨w.heap.size, 0, none⟩ (.int .i64 4)).cell? ⟨w.heap.size, 1, none⟩ = some (.int .i64 0) := (World.cell?_setCell_other _ _ _ _ (by simp)).trans r1
        have HS2 := Lib.hid (hs1.set r1' (.int .i64 3))
        clear hs1 r1' hbv
        go_wp2_with fail
        refine bodyPost_ret (by simp [results, Tryz.results39, go_sem, r0, r1]; try rfl) rfl ?_
        subst hRR
        exact ⟨bv, rfl, HS2.out, by go_grown⟩
    · have hRR : none = R := HD.out
      have r0 : wr.cell? ⟨w.heap.size, 0, none⟩ = some (.int .i64 0) := cell_of_row wr w.heap.size 0 _ _ _ hrc
      have r1 : wr.cell? ⟨w.heap.size, 1, none⟩ = some (.int .i64 0) := cell_of_row wr w.heap.size 1 _ _ _ hrc
      have q0 : wr.frozen? ⟨w.heap.size, 0, none⟩ = false := frozen_of_row wr w.heap.size 0 _ _ hrc
      have q1 : wr.frozen? ⟨w.heap.size, 1, none⟩ = false := frozen_of_row wr w.heap.size 1 _ _ hrc
      clear RN hkc hrc HD hwr hgr
      go_wp2_with fail
      refine bodyPost_ret (by simp [results, Tryz.results39, go_sem, r0, r1]; try rfl) rfl ?_
      subst hRR
      exact ⟨_, rfl, Bsl.nil _, by go_grown⟩

set_option maxHeartbeats 4000000 in
theorem search_keys (s : ByteArray) (w : World) (hw : Words w) (hg : Base w) (hs : s.size ≤ 1000000) :
    Calls Tryz.prog 39 #[.string s, .int .i64 0] w (SearchPost (findHead keyHeads s.data.toList) w) := by
  generalize hR : findHead keyHeads s.data.toList = R
  have HR := Lib.hid (show findHead (List.drop 0 keyHeads) s.data.toList = R from hR)
  clear hR
  have hsl : s.data.toList.length ≤ 1000000 := hs
  go_enter Tryz.func39, Tryz.ntmps39
  go_wp2_with fail
  refine (kinds_any _).mono ?_
  rintro e w1 ⟨b, rfl, hb1, hge, hk⟩
  have hge' : w.heap.size < b := by simp at hge; omega
  have hr : w1.heap[w.heap.size]? = some (.cells #[.int .i64 0, .int .i64 0] 79) := Vo.heap_below (heap_alloc_new w _) hb1
  have hbel : Below w.heap.size w w1 := ((Below.refl _ _).alloc (Nat.le_refl _) _).trans (hb1.mono (by simp))
  clear hb1 hge
  go_wp2_with fail
  go_loopw [15] (fun i wr => ∃ k : Nat, k ≤ 4 ∧ i = .int .i64 k ∧ Rnd w b wr ∧ Hid (findHead (keyHeads.drop k) s.data.toList = R)) (fun i _ => 4 - (intOf i).toNat)
  case atStart => exact ⟨0, by omega, rfl, ⟨hbel, hk, hr⟩, HR⟩
  case round =>
    obtain ⟨k, hk4, rfl, RN, HD⟩ := hrel
    clear HR hk hr hbel
    obtain ⟨bel, hkc, hrc⟩ := id RN
    have hwr := hw.below bel
    have hgr := hg.below bel
    have hklt := Vo.heap_lt hkc
    have hrlt := Vo.heap_lt hrc
    obtain rfl | rfl | rfl | rfl | rfl : k = 0 ∨ k = 1 ∨ k = 2 ∨ k = 3 ∨ k = 4 := by omega
    · have c0 : wr.cell? ⟨b, 0, none⟩ = some (.int .i64 3) := cell_of_row wr b 0 _ _ _ hkc
      have c1 : wr.cell? ⟨b, 1, none⟩ = some (.int .i64 1) := cell_of_row wr b 1 _ _ _ hkc
      have hst : findHead (keyHeads.drop 0) s.data.toList = (if Lib.hasPrefix s.data.toList (⟨#[107, 51, 46, 108, 111, 99, 97, 108, 46]⟩ : ByteArray).data.toList then some (3, 1, Lib.trimPrefix s.data.toList (⟨#[107, 51, 46, 108, 111, 99, 97, 108, 46]⟩ : ByteArray).data.toList) else findHead (keyHeads.drop 1) s.data.toList) := rfl
      have HD := Lib.hid (hst.symm.trans HD.out)
      clear hst
      go_wp2_with fail
      have hba := (Below.refl wr.heap.size wr).alloc (Nat.le_refl _) (Obj.cells #[Value.int IntKind.i64 3, Value.int IntKind.i64 1] 79)
      refine (head_310 _ (hwr.below hba)).mono ?_
      rintro e w2 ⟨rfl, hb2⟩
      have RN2 := Lib.hid ((RN.below hba).below hb2)
      have g8 : w2.heap[wr.heap.size]? = some (.cells #[.int .i64 3, .int .i64 1] 79) := Vo.heap_below (heap_alloc_new wr _) hb2
      have e0 : w2.cell? ⟨wr.heap.size, 0, none⟩ = some (.int .i64 3) := cell_of_row w2 wr.heap.size 0 _ _ _ g8
      have e1 : w2.cell? ⟨wr.heap.size, 1, none⟩ = some (.int .i64 1) := cell_of_row w2 wr.heap.size 1 _ _ _ g8
      have hg2 := (hgr.below hba).below hb2
      clear hba hb2 RN hkc hrc c0 c1 g8 hwr hgr bel
      go_wp2_with fail
      refine (Tryz.strings_CutPrefix s ⟨#[107, 51, 46, 108, 111, 99, 97, 108, 46]⟩ w2).mono ?_
      rintro e w2' ⟨rfl, rfl⟩
      have hts := trimPrefix_le s.data.toList (⟨#[107, 51, 46, 108, 111, 99, 97, 108, 46]⟩ : ByteArray).data.toList
      generalize (Lib.trimPrefix s.data.toList (⟨#[107, 51, 46, 108, 111, 99, 97, 108, 46]⟩ : ByteArray).data.toList) = T at HD hts ⊢
      generalize (Lib.hasPrefix s.data.toList (⟨#[107, 51, 46, 108, 111, 99, 97, 108, 46]⟩ : ByteArray).data.toList) = H at HD ⊢
      rcases H with _ | _
      · go_wp2_with fail
        exact ⟨⟨1, by omega, rfl, RN2.out, Lib.hid HD.out⟩, by decide⟩
      · have HB := Lib.hid (bytes_any ⟨T.toArray⟩ w2' hg2 (by simp [ByteArray.size]; omega))
        have hRR : some (3, 1, T) = R := HD.out
        clear HD
        go_wp2_with fail
        refine HB.out.mono ?_
        rintro e w3 ⟨bv, rfl, hbv, hb3⟩
        have e0' := cell_below e0 hb3
        have e1' := cell_below e1 hb3
        have RN3 := RN2.out.below hb3
        obtain ⟨bel3, _, hrc3⟩ := RN3
        have r0 : w3.cell? ⟨w.heap.size, 0, none⟩ = some (.int .i64 0) := cell_of_row w3 w.heap.size 0 _ _ _ hrc3
        have r1 : w3.cell? ⟨w.heap.size, 1, none⟩ = some (.int .i64 0) := cell_of_row w3 w.heap.size 1 _ _ _ hrc3
        have q0 : w3.frozen? ⟨w.heap.size, 0, none⟩ = false := frozen_of_row w3 w.heap.size 0 _ _ hrc3
        have q1 : w3.frozen? ⟨w.heap.size, 1, none⟩ = false := frozen_of_row w3 w.heap.size 1 _ _ hrc3
        have hne : wr.heap.size ≠ w.heap.size := by omega
        clear HB RN2 hrc3
        have hs1 := hbv.set r0 (.int .i64 3)
        have r1' : (w3.setCell ⟨w.heap.size, 0, none⟩ (.int .i64 3)).cell? ⟨w.heap.size, 1, none⟩ = some (.int .i64 0) := (World.cell?_setCell_other _ _ _ _ (by simp)).trans r1
        have HS2 := Lib.hid (hs1.set r1' (.int .i64 1))
        clear hs1 r1' hbv
        go_wp2_with fail
        refine bodyPost_ret (by simp [results, Tryz.results39, go_sem, r0, r1]; try rfl) rfl ?_
        subst hRR
        exact ⟨bv, rfl, HS2.out, by go_grown⟩
    · have c0 : wr.cell? ⟨b, 2, none⟩ = some (.int .i64 4) := cell_of_row wr b 2 _ _ _ hkc
      have c1 : wr.cell? ⟨b, 3, none⟩ = some (.int .i64 1) := cell_of_row wr b 3 _ _ _ hkc
      have hst : findHead (keyHeads.drop 1) s.data.toList = (if Lib.hasPrefix s.data.toList (⟨#[107, 52, 46, 108, 111, 99, 97, 108, 46]⟩ : ByteArray).data.toList then some (4, 1, Lib.trimPrefix s.data.toList (⟨#[107, 52, 46, 108, 111, 99, 97, 108, 46]⟩ : ByteArray).data.toList) else findHead (keyHeads.drop 2) s.data.toList) := rfl
      have HD := Lib.hid (hst.symm.trans HD.out)
      clear hst
      go_wp2_with fail
      have hba := (Below.refl wr.heap.size wr).alloc (Nat.le_refl _) (Obj.cells #[Value.int IntKind.i64 4, Value.int IntKind.i64 1] 79)
      refine (head_410 _ (hwr.below hba)).mono ?_
      rintro e w2 ⟨rfl, hb2⟩
      have RN2 := Lib.hid ((RN.below hba).below hb2)
      have g8 : w2.heap[wr.heap.size]? = some (.cells #[.int .i64 4, .int .i64 1] 79) := Vo.heap_below (heap_alloc_new wr _) hb2
      have e0 : w2.cell? ⟨wr.heap.size, 0, none⟩ = some (.int .i64 4) := cell_of_row w2 wr.heap.size 0 _ _ _ g8
      have e1 : w2.cell? ⟨wr.heap.size, 1, none⟩ = some (.int .i64 1) := cell_of_row w2 wr.heap.size 1 _ _ _ g8
      have hg2 := (hgr.below hba).below hb2
      clear hba hb2 RN hkc hrc c0 c1 g8 hwr hgr bel
      go_wp2_with fail
      refine (Tryz.strings_CutPrefix s ⟨#[107, 52, 46, 108, 111, 99, 97, 108, 46]⟩ w2).mono ?_
      rintro e w2' ⟨rfl, rfl⟩
      have hts := trimPrefix_le s.data.toList (⟨#[107, 52, 46, 108, 111, 99, 97, 108, 46]⟩ : ByteArray).data.toList
      generalize (Lib.trimPrefix s.data.toList (⟨#[107, 52, 46, 108, 111, 99, 97, 108, 46]⟩ : ByteArray).data.toList) = T at HD hts ⊢
      generalize (Lib.hasPrefix s.data.toList (⟨#[107, 52, 46, 108, 111, 99, 97, 108, 46]⟩ : ByteArray).data.toList) = H at HD ⊢
      rcases H with _ | _
      · go_wp2_with fail
        exact ⟨⟨2, by omega, rfl, RN2.out, Lib.hid HD.out⟩, by decide⟩
      · have HB := Lib.hid (bytes_any ⟨T.toArray⟩ w2' hg2 (by simp [ByteArray.size]; omega))
        have hRR : some (4, 1, T) = R := HD.out
        clear HD
        go_wp2_with fail
        refine HB.out.mono ?_
        rintro e w3 ⟨bv, rfl, hbv, hb3⟩
        have e0' := cell_below e0 hb3
        have e1' := cell_below e1 hb3
        have RN3 := RN2.out.below hb3
        obtain ⟨bel3, _, hrc3⟩ := RN3
        have r0 : w3.cell? ⟨w.heap.size, 0, none⟩ = some (.int .i64 0) := cell_of_row w3 w.heap.size 0 _ _ _ hrc3
        have r1 : w3.cell? ⟨w.heap.size, 1, none⟩ = some (.int .i64 0) := cell_of_row w3 w.heap.size 1 _ _ _ hrc3
        have q0 : w3.frozen? ⟨w.heap.size, 0, none⟩ = false := frozen_of_row w3 w.heap.size 0 _ _ hrc3
        have q1 : w3.frozen? ⟨w.heap.size, 1, none⟩ = false := frozen_of_row w3 w.heap.size 1 _ _ hrc3
        have hne : wr.heap.size ≠ w.heap.size := by omega
        clear HB RN2 hrc3
        have hs1 := hbv.set r0 (.int .i64 4)
        have r1' : (w3.setCell ⟨w.heap.size, 0, none⟩ (.int .i64 4)).cell? ⟨w.heap.size, 1, none⟩ = some (.int .i64 0) := (World.cell?_setCell_other _ _ _ _ (by simp)).trans r1
        have HS2 := Lib.hid (hs1.set r1' (.int .i64 1))
        clear hs1 r1' hbv
        go_wp2_with fail
        refine bodyPost_ret (by simp [results, Tryz.results39, go_sem, r0, r1]; try rfl) rfl ?_
        subst hRR
        exact ⟨bv, rfl, HS2.out, by go_grown⟩
    · have c0 : wr.cell? ⟨b, 4, none⟩ = some (.int .i64 4) := cell_of_row wr b 4 _ _ _ hkc
      have c1 : wr.cell? ⟨b, 5, none⟩ = some (.int .i64 2) := cell_of_row wr b 5 _ _ _ hkc
      have hst : findHead (keyHeads.drop 2) s.data.toList = (if Lib.hasPrefix s.data.toList (⟨#[107, 52, 46, 115, 101, 99, 114, 101, 116, 46]⟩ : ByteArray).data.toList then some (4, 2, Lib.trimPrefix s.data.toList (⟨#[107, 52, 46, 115, 101, 99, 114, 101, 116, 46]⟩ : ByteArray).data.toList) else findHead (keyHeads.drop 3) s.data.toList) := rfl
      have HD := Lib.hid (hst.symm.trans HD.out)
      clear hst
      go_wp2_with fail
      have hba := (Below.refl wr.heap.size wr).alloc (Nat.le_refl _) (Obj.cells #[Value.int IntKind.i64 4, Value.int IntKind.i64 2] 79)
      refine (head_420 _ (hwr.below hba)).mono ?_
      rintro e w2 ⟨rfl, hb2⟩
      have RN2 := Lib.hid ((RN.below hba).below hb2)
      have g8 : w2.heap[wr.heap.size]? = some (.cells #[.int .i64 4, .int .i64 2] 79) := Vo.heap_below (heap_alloc_new wr _) hb2
      have e0 : w2.cell? ⟨wr.heap.size, 0, none⟩ = some (.int .i64 4) := cell_of_row w2 wr.heap.size 0 _ _ _ g8
      have e1 : w2.cell? ⟨wr.heap.size, 1, none⟩ = some (.int .i64 2) := cell_of_row w2 wr.heap.size 1 _ _ _ g8
      have hg2 := (hgr.below hba).below hb2
      clear hba hb2 RN hkc hrc c0 c1 g8 hwr hgr bel
      go_wp2_with fail
      refine (Tryz.strings_CutPrefix s ⟨#[107, 52, 46, 115, 101, 99, 114, 101, 116, 46]⟩ w2).mono ?_
      rintro e w2' ⟨rfl, rfl⟩
      have hts := trimPrefix_le s.data.toList (⟨#[107, 52, 46, 115, 101, 99, 114, 101, 116, 46]⟩ : ByteArray).data.toList
      generalize (Lib.trimPrefix s.data.toList (⟨#[107, 52, 46, 115, 101, 99, 114, 101, 116, 46]⟩ : ByteArray).data.toList) = T at HD hts ⊢
      generalize (Lib.hasPrefix s.data.toList (⟨#[107, 52, 46, 115, 101, 99, 114, 101, 116, 46]⟩ : ByteArray).data.toList) = H at HD ⊢
      rcases H with _ | _
      · go_wp2_with fail
        exact ⟨⟨3, by omega, rfl, RN2.out, Lib.hid HD.out⟩, by decide⟩
      · have HB := Lib.hid (bytes_any ⟨T.toArray⟩ w2' hg2 (by simp [ByteArray.size]; omega))
        have hRR : some (4, 2, T) = R := HD.out
        clear HD
        go_wp2_with fail
        refine HB.out.mono ?_
        rintro e w3 ⟨bv, rfl, hbv, hb3⟩
        have e0' := cell_below e0 hb3
        have e1' := cell_below e1 hb3
        have RN3 := RN2.out.below hb3
        obtain ⟨bel3, _, hrc3⟩ := RN3
        have r0 : w3.cell? ⟨w.heap.size, 0, none⟩ = some (.int .i64 0) := cell_of_row w3 w.heap.size 0 _ _ _ hrc3
        have r1 : w3.cell? ⟨w.heap.size, 1, none⟩ = some (.int .i64 0) := cell_of_row w3 w.heap.size 1 _ _ _ hrc3
        have q0 : w3.frozen? ⟨w.heap.size, 0, none⟩ = false := frozen_of_row w3 w.heap.size 0 _ _ hrc3
        have q1 : w3.frozen? ⟨w.heap.size, 1, none⟩ = false := frozen_of_row w3 w.heap.size 1 _ _ hrc3
        have hne : wr.heap.size ≠ w.heap.size := by omega
        clear HB RN2 hrc3
        have hs1 := hbv.set r0 (.int .i64 4)
        have r1' : (w3.setCell ⟨w.heap.size, 0, none⟩ (.int .i64 4)).cell? ⟨w.heap.size, 1, none⟩ = some (.int .i64 0) := (World.cell?_setCell_other _ _ _ _ (by simp)).trans r1
        have HS2 := Lib.hid (hs1.set r1' (.int .i64 2))
        clear hs1 r1' hbv
        go_wp2_with fail
        refine bodyPost_ret (by simp [results, Tryz.results39, go_sem, r0, r1]; try rfl) rfl ?_
        subst hRR
        exact ⟨bv, rfl, HS2.out, by go_grown⟩
    · have c0 : wr.cell? ⟨b, 6, none⟩ = some (.int .i64 4) := cell_of_row wr b 6 _ _ _ hkc
      have c1 : wr.cell? ⟨b, 7, none⟩ = some (.int .i64 3) := cell_of_row wr b 7 _ _ _ hkc
      have hst : findHead (keyHeads.drop 3) s.data.toList = (if Lib.hasPrefix s.data.toList (⟨#[107, 52, 46, 112, 117, 98, 108, 105, 99, 46]⟩ : ByteArray).data.toList then some (4, 3, Lib.trimPrefix s.data.toList (⟨#[107, 52, 46, 112, 117, 98, 108, 105, 99, 46]⟩ : ByteArray).data.toList) else findHead (keyHeads.drop 4) s.data.toList) := rfl
      have HD := Lib.hid (hst.symm.trans HD.out)
      clear hst
      go_wp2_with fail
      have hba := (Below.refl wr.heap.size wr).alloc (Nat.le_refl _) (Obj.cells #[Value.int IntKind.i64 4, Value.int IntKind.i64 3] 79)
      refine (head_430 _ (hwr.below hba)).mono ?_
      rintro e w2 ⟨rfl, hb2⟩
      have RN2 := Lib.hid ((RN.below hba).below hb2)
      have g8 : w2.heap[wr.heap.size]? = some (.cells #[.int .i64 4, .int .i64 3] 79) := Vo.heap_below (heap_alloc_new wr _) hb2
      have e0 : w2.cell? ⟨wr.heap.size, 0, none⟩ = some (.int .i64 4) := cell_of_row w2 wr.heap.size 0 _ _ _ g8
      have e1 : w2.cell? ⟨wr.heap.size, 1, none⟩ = some (.int .i64 3) := cell_of_row w2 wr.heap.size 1 _ _ _ g8
      have hg2 := (hgr.below hba).below hb2
      clear hba hb2 RN hkc hrc c0 c1 g8 hwr hgr bel
      go_wp2_with fail
      refine (Tryz.strings_CutPrefix s ⟨#[107, 52, 46, 112, 117, 98, 108, 105, 99, 46]⟩ w2).mono ?_
      rintro e w2' ⟨rfl, rfl⟩
      have hts := trimPrefix_le s.data.toList (⟨#[107, 52, 46, 112, 117, 98, 108, 105, 99, 46]⟩ : ByteArray).data.toList
      generalize (Lib.trimPrefix s.data.toList (⟨#[107, 52, 46, 112, 117, 98, 108, 105, 99, 46]⟩ : ByteArray).data.toList) = T at HD hts ⊢
      generalize (Lib.hasPrefix s.data.toList (⟨#[107, 52, 46, 112, 117, 98, 108, 105, 99, 46]⟩ : ByteArray).data.toList) = H at HD ⊢
      rcases H with _ | _
      · go_wp2_with fail
        exact ⟨⟨4, by omega, rfl, RN2.out, Lib.hid HD.out⟩, by decide⟩
      · have HB := Lib.hid (bytes_any ⟨T.toArray⟩ w2' hg2 (by simp [ByteArray.size]; omega))
        have hRR : some (4, 3, T) = R := HD.out
        clear HD
        go_wp2_with fail
        refine HB.out.mono ?_
        rintro e w3 ⟨bv, rfl, hbv, hb3⟩
        have e0' := cell_below e0 hb3
        have e1' := cell_below e1 hb3
        have RN3 := RN2.out.below hb3
        obtain ⟨bel3, _, hrc3⟩ := RN3
        have r0 : w3.cell? ⟨w.heap.size, 0, none⟩ = some (.int .i64 0) := cell_of_row w3 w.heap.size 0 _ _ _ hrc3
        have r1 : w3.cell? ⟨w.heap.size, 1, none⟩ = some (.int .i64 0) := cell_of_row w3 w.heap.size 1 _ _ _ hrc3
        have q0 : w3.frozen? ⟨w.heap.size, 0, none⟩ = false := frozen_of_row w3 w.heap.size 0 _ _ hrc3
        have q1 : w3.frozen? ⟨w.heap.size, 1, none⟩ = false := frozen_of_row w3 w.heap.size 1 _ _ hrc3
        have hne : wr.heap.size ≠ w.heap.size := by omega
        clear HB RN2 hrc3
        have hs1 := hbv.set r0 (.int .i64 4)
        have r1' : (w3.setCell ⟨w.heap.size, 0, none⟩ (.int .i64 4)).cell? ⟨w.heap.size, 1, none⟩ = some (.int .i64 0) := (World.cell?_setCell_other _ _ _ _ (by simp)).trans r1
        have HS2 := Lib.hid (hs1.set r1' (.int .i64 3))
        clear hs1 r1' hbv
        go_wp2_with fail
        refine bodyPost_ret (by simp [results, Tryz.results39, go_sem, r0, r1]; try rfl) rfl ?_
        subst hRR
        exact ⟨bv, rfl, HS2.out, by go_grown⟩
    · have hRR : none = R := HD.out
      have r0 : wr.cell? ⟨w.heap.size, 0, none⟩ = some (.int .i64 0) := cell_of_row wr w.heap.size 0 _ _ _ hrc
      have r1 : wr.cell? ⟨w.heap.size, 1, none⟩ = some (.int .i64 0) := cell_of_row wr w.heap.size 1 _ _ _ hrc
      have q0 : wr.frozen? ⟨w.heap.size, 0, none⟩ = false := frozen_of_row wr w.heap.size 0 _ _ hrc
      have q1 : wr.frozen? ⟨w.heap.size, 1, none⟩ = false := frozen_of_row wr w.heap.size 1 _ _ hrc
      clear RN hkc hrc HD hwr hgr
      go_wp2_with fail
      refine bodyPost_ret (by simp [results, Tryz.results39, go_sem, r0, r1]; try rfl) rfl ?_
      subst hRR
      exact ⟨_, rfl, Bsl.nil _, by go_grown⟩

end Go.Proofs.YtlgghcffmnofdaaGreatDoor.Ke
