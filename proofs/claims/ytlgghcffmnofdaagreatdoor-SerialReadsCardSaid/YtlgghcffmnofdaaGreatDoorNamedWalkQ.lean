/-
  The walk of SerialNamed.
-/
import Derived.Test.YtlgghcffmnofdaaGreatDoorLaw15Q
import Derived.Test.YtlgghcffmnofdaaGreatDoorRefBQ

namespace Go.Proofs.YtlgghcffmnofdaaGreatDoor.Ke
open Go Go.RowKit Go.Proofs.YtlgghcffmnofdaaGreatDoor.Cn Go.Proofs.YtlgghcffmnofdaaGreatDoor.PSerialReads Go.Proofs.YtlgghcffmnofdaaGreatDoorW.PrintWords
set_option maxRecDepth 100000

theorem bsl_kd {w : World} {base : Nat} {v : Value} {l : List UInt8} (h : Kd.R (Kd.int .u8) 5 w base (fun _ => True) v (ints (by_ l))) : Bsl w v l := by
  have h1 := Kd.own_of_R h
  refine Bsl.owns (base := base) ?_
  have e1 : encs (Value.int .u8) (ints (by_ l)) = cs l := by
    simp only [encs, ints, by_, cs, List.map_map]
    rfl
  have e2 : (ints (by_ l)).length = l.length := by simp [ints, by_]
  rw [e1, e2] at h1
  exact h1

theorem refBytes_any (s : ByteArray) (w : World) (hs : s.size ≤ 400) :
    Calls Tryz.prog 15 #[.string s] w (ReadPost (rdv sg64 6 s) w) := by
  obtain ⟨k, hk⟩ := refBytes s hs
  refine (escutcheonref01_Bytes.calls k s _ _ w hk).mono ?_
  rintro e w1 ⟨v, rfl, hv, hb⟩
  exact ⟨v, rfl, bsl_kd hv, hb⟩

theorem extract_drop (s : ByteArray) (n : Nat) : s.extract n s.size = ⟨(s.data.toList.drop n).toArray⟩ := by
  cases s with
  | mk d =>
    rw [show ((⟨d⟩ : ByteArray).extract n (⟨d⟩ : ByteArray).size) = ⟨d.extract n d.size⟩ from by apply ByteArray.ext; rw [ByteArray.data_extract]; rfl]
    congr 1
    apply Array.ext'
    simp only [Array.toList_extract, List.extract_eq_take_drop]
    rw [List.take_of_length_le (by simp)]

/-- The heads as a value. -/
abbrev headsV : Value := .agg #[.string ⟨#[107, 51, 46, 108, 111, 99, 97, 108, 46]⟩, .string ⟨#[107, 51, 46, 108, 105, 100, 46]⟩, .string ⟨#[107, 52, 46, 108, 111, 99, 97, 108, 46]⟩, .string ⟨#[107, 52, 46, 108, 105, 100, 46]⟩, .string ⟨#[107, 52, 46, 115, 101, 99, 114, 101, 116, 46]⟩, .string ⟨#[107, 52, 46, 115, 105, 100, 46]⟩, .string ⟨#[107, 52, 46, 112, 117, 98, 108, 105, 99, 46]⟩, .string ⟨#[107, 52, 46, 112, 105, 100, 46]⟩]
theorem index_heads (w : World) :
    (Instr.index 33 headsV (.int .i64 0)).run Tryz.prog w = .ok (.agg #[.string ⟨#[107, 51, 46, 108, 111, 99, 97, 108, 46]⟩, .string ⟨#[107, 51, 46, 108, 105, 100, 46]⟩]) w ∧
    (Instr.index 33 headsV (.int .i64 1)).run Tryz.prog w = .ok (.agg #[.string ⟨#[107, 52, 46, 108, 111, 99, 97, 108, 46]⟩, .string ⟨#[107, 52, 46, 108, 105, 100, 46]⟩]) w ∧
    (Instr.index 33 headsV (.int .i64 2)).run Tryz.prog w = .ok (.agg #[.string ⟨#[107, 52, 46, 115, 101, 99, 114, 101, 116, 46]⟩, .string ⟨#[107, 52, 46, 115, 105, 100, 46]⟩]) w ∧
    (Instr.index 33 headsV (.int .i64 3)).run Tryz.prog w = .ok (.agg #[.string ⟨#[107, 52, 46, 112, 117, 98, 108, 105, 99, 46]⟩, .string ⟨#[107, 52, 46, 112, 105, 100, 46]⟩]) w := by
  refine ⟨?_, ?_, ?_, ?_⟩ <;> kernel_rfl

theorem size_mk (l : List UInt8) : (⟨l.toArray⟩ : ByteArray).size = l.length := by simp [ByteArray.size]
theorem size_drop (s : ByteArray) (n : Nat) : (⟨(s.data.toList.drop n).toArray⟩ : ByteArray).size ≤ s.size := by
  rw [size_mk, List.length_drop]
  have : s.data.toList.length = s.size := rfl
  omega

theorem prefix_drop {s p : List UInt8} (h : Lib.hasPrefix s p = true) : Lib.trimPrefix s p = s.drop p.length ∧ p.length ≤ s.length := by
  unfold Lib.trimPrefix
  rw [if_pos h]
  unfold Lib.hasPrefix at h
  rw [List.isPrefixOf_iff_prefix] at h
  exact ⟨rfl, h.length_le⟩

set_option maxHeartbeats 1600000 in
theorem serialNamed_long (s : ByteArray) (w : World) (hw : Words w) (hg : Base w) (hs : ¬ s.size ≤ 300) :
    Calls Tryz.prog 4 #[.string s] w fun e w' => e = .returned (.bool true) ∧ Below w.heap.size w w' := by
  have hsb : decide ((300 : Int) < (s.size : Int)) = true := decide_eq_true (by omega)
  go_enter Tryz.func4, Tryz.ntmps4
  go_wp2_with fail
  refine (awake15 w hw hg).mono ?_
  rintro e w1 ⟨rfl, hb⟩
  go_wp2_with fail
  refine (awake15 w1 (hw.below hb) (hg.below hb)).mono ?_
  rintro e w2 ⟨rfl, hb2⟩
  go_wp2_with fail
  go_returns
  exact ⟨rfl, hb.trans (hb2.mono hb.size)⟩

set_option maxHeartbeats 8000000 in
theorem serialNamed_short (s : ByteArray) (w : World) (hw : Words w) (hg : Base w) (hs : s.size ≤ 300) :
    Calls Tryz.prog 4 #[.string s] w fun e w' => e = .returned (.bool true) ∧ Below w.heap.size w w' := by
  have hsb : decide ((300 : Int) < (s.size : Int)) = false := decide_eq_false (by omega)
  have HNA := Lib.hid (fun w hw hg => named_any s w hw hg (by omega))
  generalize hR : findHead nameHeads s.data.toList = R at HNA
  have HR := Lib.hid (show findHead (List.drop 0 nameHeads) s.data.toList = R from hR)
  clear hR
  generalize hq : namedRes R = q at HNA
  obtain ⟨nv, np, ne⟩ := q
  simp only at HNA
  have HQ := Lib.hid hq
  clear hq
  go_enter Tryz.func4, Tryz.ntmps4
  go_wp2_with fail
  refine (awake15 w hw hg).mono ?_
  rintro e w1 ⟨rfl, hb1⟩
  go_wp2_with fail
  refine (HNA.out w1 (hw.below hb1) (hg.below hb1)).mono ?_
  rintro e w2 ⟨rfl, hb2⟩
  have bel2 := hb1.trans (hb2.mono hb1.size)
  clear hb1 hb2 HNA
  go_wp2_with fail
  refine (heads_any w2).mono ?_
  rintro e w3 ⟨rfl, hb3⟩
  have bel3 := bel2.trans (hb3.mono bel2.size)
  clear hb3 bel2
  go_wp2_with fail
  go_loopw [25] (fun i wr => ∃ k : Nat, k ≤ 4 ∧ i = .int .i64 k ∧ Below w.heap.size w wr ∧ Hid (findHead (nameHeads.drop k) s.data.toList = R)) (fun i _ => 4 - (intOf i).toNat)
  case atStart => exact ⟨0, by omega, rfl, bel3, HR⟩
  case round =>
    obtain ⟨k, hk4, rfl, bel, HD⟩ := hrel
    clear HR bel3
    obtain rfl | rfl | rfl | rfl | rfl : k = 0 ∨ k = 1 ∨ k = 2 ∨ k = 3 ∨ k = 4 := by omega
    · have hst : findHead (nameHeads.drop 0) s.data.toList = (if Lib.hasPrefix s.data.toList (⟨#[107, 51, 46, 108, 105, 100, 46]⟩ : ByteArray).data.toList then some (3, 1, Lib.trimPrefix s.data.toList (⟨#[107, 51, 46, 108, 105, 100, 46]⟩ : ByteArray).data.toList) else findHead (nameHeads.drop 1) s.data.toList) := rfl
      have HD := Lib.hid (hst.symm.trans HD.out)
      clear hst
      obtain ⟨x0, x1, x2, x3⟩ := index_heads wr
      unfold headsV at x0 x1 x2 x3
      go_wp2_with fail
      clear x0 x1 x2 x3
      refine (begins_any s ⟨#[107, 51, 46, 108, 105, 100, 46]⟩ _).mono ?_
      rintro e w4 ⟨rfl, rfl⟩
      have hpd := @prefix_drop s.data.toList (⟨#[107, 51, 46, 108, 105, 100, 46]⟩ : ByteArray).data.toList
      rw [show (⟨#[107, 51, 46, 108, 105, 100, 46]⟩ : ByteArray).data.toList.length = 7 from rfl] at hpd
      generalize (Lib.trimPrefix s.data.toList (⟨#[107, 51, 46, 108, 105, 100, 46]⟩ : ByteArray).data.toList) = T at HD hpd
      generalize (Lib.hasPrefix s.data.toList (⟨#[107, 51, 46, 108, 105, 100, 46]⟩ : ByteArray).data.toList) = H at HD hpd ⊢
      rcases H with _ | _
      · go_wp2_with fail
        exact ⟨⟨1, by omega, rfl, by have hz := bel.size; go_grown, Lib.hid HD.out⟩, by decide⟩
      · obtain ⟨hT, hle⟩ := hpd rfl
        have hle' : 7 ≤ s.size := hle
        have hRR : some (3, 1, T) = R := HD.out
        subst hRR
        have hbd : decide ((7 : Int) ≤ (s.size : Int)) = true := decide_eq_true (by omega)
        have HE := Lib.hid (extract_drop s 7)
        have hsx : (s.extract 7 s.size).size ≤ 400 := by rw [HE.out]; exact Nat.le_trans (size_drop s _) (by omega)
        have HRB := fun w => refBytes_any (s.extract 7 s.size) w hsx
        have hq := HQ.out
        unfold namedRes at hq
        simp only at hq
        rw [show rdv sg64 6 (s.extract 7 s.size) = rdv sg64 6 ⟨T.toArray⟩ by rw [HE.out, hT]] at HRB
        generalize rdv sg64 6 ⟨T.toArray⟩ = q at HRB hq
        obtain ⟨l, c⟩ := q
        simp only at hq
        replace HRB := Lib.hid HRB
        replace hq := Lib.hid hq
        clear hT hpd HD HQ hle hsx
        go_wp2_with fail
        refine (HRB.out _).mono ?_
        rintro e w5 ⟨bv, rfl, hbv, hb5⟩
        obtain ⟨a, cap, rfl, _, _⟩ := hbv
        have bel5 : Below w.heap.size w w5 := (bel.alloc bel.size _).trans (hb5.mono (by have := bel.size; simp; omega))
        clear HRB HE hb5
        simp only
        by_cases hc : c = 0
        · subst hc
          by_cases hl : l.length = 33
          · have h1 : ((l.length : Int) != 33) = false := by simp; omega
            have hq' := hq.out
            rw [if_pos rfl, if_pos hl] at hq'
            obtain ⟨rfl, rfl, rfl⟩ : 3 = nv ∧ 1 = np ∧ 0 = ne := by simpa using hq'
            clear hq hq'
            go_wp2
            go_returns
            exact ⟨rfl, by have hz := bel.size; go_grown⟩
          · have h1 : ((l.length : Int) != 33) = true := by simp; omega
            have hq' := hq.out
            rw [if_pos rfl, if_neg hl] at hq'
            obtain ⟨rfl, rfl, rfl⟩ : 0 = nv ∧ 0 = np ∧ 3 = ne := by simpa using hq'
            clear hq hq'
            go_wp2
            go_returns
            exact ⟨rfl, by have hz := bel.size; go_grown⟩
        · have h1 : ((c : Int) == 0) = false := by simp; omega
          have h2 : ((c : Int) != 0) = true := by simp; omega
          have hq' := hq.out
          rw [if_neg hc] at hq'
          obtain ⟨rfl, rfl, rfl⟩ : 0 = nv ∧ 0 = np ∧ (c : Int) = ne := by simpa using hq'
          clear hq hq'
          go_wp2
          go_returns
          exact ⟨rfl, by have hz := bel.size; go_grown⟩
    · have hst : findHead (nameHeads.drop 1) s.data.toList = (if Lib.hasPrefix s.data.toList (⟨#[107, 52, 46, 108, 105, 100, 46]⟩ : ByteArray).data.toList then some (4, 1, Lib.trimPrefix s.data.toList (⟨#[107, 52, 46, 108, 105, 100, 46]⟩ : ByteArray).data.toList) else findHead (nameHeads.drop 2) s.data.toList) := rfl
      have HD := Lib.hid (hst.symm.trans HD.out)
      clear hst
      obtain ⟨x0, x1, x2, x3⟩ := index_heads wr
      unfold headsV at x0 x1 x2 x3
      go_wp2_with fail
      clear x0 x1 x2 x3
      refine (begins_any s ⟨#[107, 52, 46, 108, 105, 100, 46]⟩ _).mono ?_
      rintro e w4 ⟨rfl, rfl⟩
      have hpd := @prefix_drop s.data.toList (⟨#[107, 52, 46, 108, 105, 100, 46]⟩ : ByteArray).data.toList
      rw [show (⟨#[107, 52, 46, 108, 105, 100, 46]⟩ : ByteArray).data.toList.length = 7 from rfl] at hpd
      generalize (Lib.trimPrefix s.data.toList (⟨#[107, 52, 46, 108, 105, 100, 46]⟩ : ByteArray).data.toList) = T at HD hpd
      generalize (Lib.hasPrefix s.data.toList (⟨#[107, 52, 46, 108, 105, 100, 46]⟩ : ByteArray).data.toList) = H at HD hpd ⊢
      rcases H with _ | _
      · go_wp2_with fail
        exact ⟨⟨2, by omega, rfl, by have hz := bel.size; go_grown, Lib.hid HD.out⟩, by decide⟩
      · obtain ⟨hT, hle⟩ := hpd rfl
        have hle' : 7 ≤ s.size := hle
        have hRR : some (4, 1, T) = R := HD.out
        subst hRR
        have hbd : decide ((7 : Int) ≤ (s.size : Int)) = true := decide_eq_true (by omega)
        have HE := Lib.hid (extract_drop s 7)
        have hsx : (s.extract 7 s.size).size ≤ 400 := by rw [HE.out]; exact Nat.le_trans (size_drop s _) (by omega)
        have HRB := fun w => refBytes_any (s.extract 7 s.size) w hsx
        have hq := HQ.out
        unfold namedRes at hq
        simp only at hq
        rw [show rdv sg64 6 (s.extract 7 s.size) = rdv sg64 6 ⟨T.toArray⟩ by rw [HE.out, hT]] at HRB
        generalize rdv sg64 6 ⟨T.toArray⟩ = q at HRB hq
        obtain ⟨l, c⟩ := q
        simp only at hq
        replace HRB := Lib.hid HRB
        replace hq := Lib.hid hq
        clear hT hpd HD HQ hle hsx
        go_wp2_with fail
        refine (HRB.out _).mono ?_
        rintro e w5 ⟨bv, rfl, hbv, hb5⟩
        obtain ⟨a, cap, rfl, _, _⟩ := hbv
        have bel5 : Below w.heap.size w w5 := (bel.alloc bel.size _).trans (hb5.mono (by have := bel.size; simp; omega))
        clear HRB HE hb5
        simp only
        by_cases hc : c = 0
        · subst hc
          by_cases hl : l.length = 33
          · have h1 : ((l.length : Int) != 33) = false := by simp; omega
            have hq' := hq.out
            rw [if_pos rfl, if_pos hl] at hq'
            obtain ⟨rfl, rfl, rfl⟩ : 4 = nv ∧ 1 = np ∧ 0 = ne := by simpa using hq'
            clear hq hq'
            go_wp2
            go_returns
            exact ⟨rfl, by have hz := bel.size; go_grown⟩
          · have h1 : ((l.length : Int) != 33) = true := by simp; omega
            have hq' := hq.out
            rw [if_pos rfl, if_neg hl] at hq'
            obtain ⟨rfl, rfl, rfl⟩ : 0 = nv ∧ 0 = np ∧ 3 = ne := by simpa using hq'
            clear hq hq'
            go_wp2
            go_returns
            exact ⟨rfl, by have hz := bel.size; go_grown⟩
        · have h1 : ((c : Int) == 0) = false := by simp; omega
          have h2 : ((c : Int) != 0) = true := by simp; omega
          have hq' := hq.out
          rw [if_neg hc] at hq'
          obtain ⟨rfl, rfl, rfl⟩ : 0 = nv ∧ 0 = np ∧ (c : Int) = ne := by simpa using hq'
          clear hq hq'
          go_wp2
          go_returns
          exact ⟨rfl, by have hz := bel.size; go_grown⟩
    · have hst : findHead (nameHeads.drop 2) s.data.toList = (if Lib.hasPrefix s.data.toList (⟨#[107, 52, 46, 115, 105, 100, 46]⟩ : ByteArray).data.toList then some (4, 2, Lib.trimPrefix s.data.toList (⟨#[107, 52, 46, 115, 105, 100, 46]⟩ : ByteArray).data.toList) else findHead (nameHeads.drop 3) s.data.toList) := rfl
      have HD := Lib.hid (hst.symm.trans HD.out)
      clear hst
      obtain ⟨x0, x1, x2, x3⟩ := index_heads wr
      unfold headsV at x0 x1 x2 x3
      go_wp2_with fail
      clear x0 x1 x2 x3
      refine (begins_any s ⟨#[107, 52, 46, 115, 105, 100, 46]⟩ _).mono ?_
      rintro e w4 ⟨rfl, rfl⟩
      have hpd := @prefix_drop s.data.toList (⟨#[107, 52, 46, 115, 105, 100, 46]⟩ : ByteArray).data.toList
      rw [show (⟨#[107, 52, 46, 115, 105, 100, 46]⟩ : ByteArray).data.toList.length = 7 from rfl] at hpd
      generalize (Lib.trimPrefix s.data.toList (⟨#[107, 52, 46, 115, 105, 100, 46]⟩ : ByteArray).data.toList) = T at HD hpd
      generalize (Lib.hasPrefix s.data.toList (⟨#[107, 52, 46, 115, 105, 100, 46]⟩ : ByteArray).data.toList) = H at HD hpd ⊢
      rcases H with _ | _
      · go_wp2_with fail
        exact ⟨⟨3, by omega, rfl, by have hz := bel.size; go_grown, Lib.hid HD.out⟩, by decide⟩
      · obtain ⟨hT, hle⟩ := hpd rfl
        have hle' : 7 ≤ s.size := hle
        have hRR : some (4, 2, T) = R := HD.out
        subst hRR
        have hbd : decide ((7 : Int) ≤ (s.size : Int)) = true := decide_eq_true (by omega)
        have HE := Lib.hid (extract_drop s 7)
        have hsx : (s.extract 7 s.size).size ≤ 400 := by rw [HE.out]; exact Nat.le_trans (size_drop s _) (by omega)
        have HRB := fun w => refBytes_any (s.extract 7 s.size) w hsx
        have hq := HQ.out
        unfold namedRes at hq
        simp only at hq
        rw [show rdv sg64 6 (s.extract 7 s.size) = rdv sg64 6 ⟨T.toArray⟩ by rw [HE.out, hT]] at HRB
        generalize rdv sg64 6 ⟨T.toArray⟩ = q at HRB hq
        obtain ⟨l, c⟩ := q
        simp only at hq
        replace HRB := Lib.hid HRB
        replace hq := Lib.hid hq
        clear hT hpd HD HQ hle hsx
        go_wp2_with fail
        refine (HRB.out _).mono ?_
        rintro e w5 ⟨bv, rfl, hbv, hb5⟩
        obtain ⟨a, cap, rfl, _, _⟩ := hbv
        have bel5 : Below w.heap.size w w5 := (bel.alloc bel.size _).trans (hb5.mono (by have := bel.size; simp; omega))
        clear HRB HE hb5
        simp only
        by_cases hc : c = 0
        · subst hc
          by_cases hl : l.length = 33
          · have h1 : ((l.length : Int) != 33) = false := by simp; omega
            have hq' := hq.out
            rw [if_pos rfl, if_pos hl] at hq'
            obtain ⟨rfl, rfl, rfl⟩ : 4 = nv ∧ 2 = np ∧ 0 = ne := by simpa using hq'
            clear hq hq'
            go_wp2
            go_returns
            exact ⟨rfl, by have hz := bel.size; go_grown⟩
          · have h1 : ((l.length : Int) != 33) = true := by simp; omega
            have hq' := hq.out
            rw [if_pos rfl, if_neg hl] at hq'
            obtain ⟨rfl, rfl, rfl⟩ : 0 = nv ∧ 0 = np ∧ 3 = ne := by simpa using hq'
            clear hq hq'
            go_wp2
            go_returns
            exact ⟨rfl, by have hz := bel.size; go_grown⟩
        · have h1 : ((c : Int) == 0) = false := by simp; omega
          have h2 : ((c : Int) != 0) = true := by simp; omega
          have hq' := hq.out
          rw [if_neg hc] at hq'
          obtain ⟨rfl, rfl, rfl⟩ : 0 = nv ∧ 0 = np ∧ (c : Int) = ne := by simpa using hq'
          clear hq hq'
          go_wp2
          go_returns
          exact ⟨rfl, by have hz := bel.size; go_grown⟩
    · have hst : findHead (nameHeads.drop 3) s.data.toList = (if Lib.hasPrefix s.data.toList (⟨#[107, 52, 46, 112, 105, 100, 46]⟩ : ByteArray).data.toList then some (4, 3, Lib.trimPrefix s.data.toList (⟨#[107, 52, 46, 112, 105, 100, 46]⟩ : ByteArray).data.toList) else findHead (nameHeads.drop 4) s.data.toList) := rfl
      have HD := Lib.hid (hst.symm.trans HD.out)
      clear hst
      obtain ⟨x0, x1, x2, x3⟩ := index_heads wr
      unfold headsV at x0 x1 x2 x3
      go_wp2_with fail
      clear x0 x1 x2 x3
      refine (begins_any s ⟨#[107, 52, 46, 112, 105, 100, 46]⟩ _).mono ?_
      rintro e w4 ⟨rfl, rfl⟩
      have hpd := @prefix_drop s.data.toList (⟨#[107, 52, 46, 112, 105, 100, 46]⟩ : ByteArray).data.toList
      rw [show (⟨#[107, 52, 46, 112, 105, 100, 46]⟩ : ByteArray).data.toList.length = 7 from rfl] at hpd
      generalize (Lib.trimPrefix s.data.toList (⟨#[107, 52, 46, 112, 105, 100, 46]⟩ : ByteArray).data.toList) = T at HD hpd
      generalize (Lib.hasPrefix s.data.toList (⟨#[107, 52, 46, 112, 105, 100, 46]⟩ : ByteArray).data.toList) = H at HD hpd ⊢
      rcases H with _ | _
      · go_wp2_with fail
        exact ⟨⟨4, by omega, rfl, by have hz := bel.size; go_grown, Lib.hid HD.out⟩, by decide⟩
      · obtain ⟨hT, hle⟩ := hpd rfl
        have hle' : 7 ≤ s.size := hle
        have hRR : some (4, 3, T) = R := HD.out
        subst hRR
        have hbd : decide ((7 : Int) ≤ (s.size : Int)) = true := decide_eq_true (by omega)
        have HE := Lib.hid (extract_drop s 7)
        have hsx : (s.extract 7 s.size).size ≤ 400 := by rw [HE.out]; exact Nat.le_trans (size_drop s _) (by omega)
        have HRB := fun w => refBytes_any (s.extract 7 s.size) w hsx
        have hq := HQ.out
        unfold namedRes at hq
        simp only at hq
        rw [show rdv sg64 6 (s.extract 7 s.size) = rdv sg64 6 ⟨T.toArray⟩ by rw [HE.out, hT]] at HRB
        generalize rdv sg64 6 ⟨T.toArray⟩ = q at HRB hq
        obtain ⟨l, c⟩ := q
        simp only at hq
        replace HRB := Lib.hid HRB
        replace hq := Lib.hid hq
        clear hT hpd HD HQ hle hsx
        go_wp2_with fail
        refine (HRB.out _).mono ?_
        rintro e w5 ⟨bv, rfl, hbv, hb5⟩
        obtain ⟨a, cap, rfl, _, _⟩ := hbv
        have bel5 : Below w.heap.size w w5 := (bel.alloc bel.size _).trans (hb5.mono (by have := bel.size; simp; omega))
        clear HRB HE hb5
        simp only
        by_cases hc : c = 0
        · subst hc
          by_cases hl : l.length = 33
          · have h1 : ((l.length : Int) != 33) = false := by simp; omega
            have hq' := hq.out
            rw [if_pos rfl, if_pos hl] at hq'
            obtain ⟨rfl, rfl, rfl⟩ : 4 = nv ∧ 3 = np ∧ 0 = ne := by simpa using hq'
            clear hq hq'
            go_wp2
            go_returns
            exact ⟨rfl, by have hz := bel.size; go_grown⟩
          · have h1 : ((l.length : Int) != 33) = true := by simp; omega
            have hq' := hq.out
            rw [if_pos rfl, if_neg hl] at hq'
            obtain ⟨rfl, rfl, rfl⟩ : 0 = nv ∧ 0 = np ∧ 3 = ne := by simpa using hq'
            clear hq hq'
            go_wp2
            go_returns
            exact ⟨rfl, by have hz := bel.size; go_grown⟩
        · have h1 : ((c : Int) == 0) = false := by simp; omega
          have h2 : ((c : Int) != 0) = true := by simp; omega
          have hq' := hq.out
          rw [if_neg hc] at hq'
          obtain ⟨rfl, rfl, rfl⟩ : 0 = nv ∧ 0 = np ∧ (c : Int) = ne := by simpa using hq'
          clear hq hq'
          go_wp2
          go_returns
          exact ⟨rfl, by have hz := bel.size; go_grown⟩
    · have hRR : none = R := HD.out
      subst hRR
      have hq := HQ.out
      obtain ⟨rfl, rfl, rfl⟩ : 0 = nv ∧ 0 = np ∧ 7 = ne := by simpa [namedRes] using hq
      clear HQ hq HD
      go_wp2
      go_returns
      exact ⟨rfl, bel⟩

theorem serialNamed_any (s : ByteArray) (w : World) (hw : Words w) (hg : Base w) :
    Calls Tryz.prog 4 #[.string s] w fun e w' => e = .returned (.bool true) ∧ Below w.heap.size w w' := by
  by_cases hs : s.size ≤ 300
  · exact serialNamed_short s w hw hg hs
  · exact serialNamed_long s w hw hg hs

end Go.Proofs.YtlgghcffmnofdaaGreatDoor.Ke
