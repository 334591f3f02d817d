/-
  The walk of SerialReads.
-/
import Derived.Test.YtlgghcffmnofdaaGreatDoorNamedWalkQ
import Derived.Test.YtlgghcffmnofdaaGreatDoorReadKeyQ

namespace Go.Proofs.YtlgghcffmnofdaaGreatDoor.Ke
open Go Go.RowKit Go.Proofs.YtlgghcffmnofdaaGreatDoor.Cn Go.Proofs.YtlgghcffmnofdaaGreatDoor.Nu Go.Proofs.YtlgghcffmnofdaaGreatDoor.Sh
set_option maxRecDepth 100000

theorem newR_ok {K st : Nat → Nat} {v p a b : Int} {l m : List UInt8} (h : newR K st v p l = (a, b, m, 0)) : a = v ∧ b = p ∧ m = l := by
  unfold newR at h
  split at h
  · cases h
  · split at h
    · split at h
      · split at h
        · cases h; exact ⟨rfl, rfl, rfl⟩
        · rename_i hg
          simp only [Prod.mk.injEq] at h
          exact absurd h.2.2.2 hg
      · split at h
        · split at h
          · cases h; exact ⟨rfl, rfl, rfl⟩
          · cases h
        · cases h; exact ⟨rfl, rfl, rfl⟩
    · cases h
theorem newR_len (K st : Nat → Nat) (v p : Int) (l : List UInt8) : (newR K st v p l).2.2.1.length ≤ l.length := by
  unfold newR
  split
  · simp
  · split
    · split
      · split <;> simp
      · split
        · split <;> simp
        · simp
    · simp
theorem prefix_app {s p : List UInt8} (h : Lib.hasPrefix s p = true) : s = p ++ s.drop p.length := by
  unfold Lib.hasPrefix at h
  rw [List.isPrefixOf_iff_prefix] at h
  obtain ⟨t, rfl⟩ := h
  simp
theorem str_app (s h : ByteArray) (T : List UInt8) (e : s.data.toList = h.data.toList ++ T) : h ++ (⟨T.toArray⟩ : ByteArray) = s := by
  apply ByteArray.ext
  rw [ByteArray.data_append]
  apply Array.ext'
  rw [Array.toList_append, e]
theorem mk_toList (l : List UInt8) : (⟨l.toArray⟩ : ByteArray).data.toList = l := by simp

set_option maxHeartbeats 1600000 in
theorem serialReads_long (s : ByteArray) (w : World) (hw : Words w) (hg : Base w) (hs : ¬ s.size ≤ 300) :
    Calls Tryz.prog 3 #[.string s] w fun e w' => e = .returned (.bool true) ∧ Below w.heap.size w w' := by
  have hsb : decide ((300 : Int) < (s.size : Int)) = true := decide_eq_true (by omega)
  go_enter Tryz.func3, Tryz.ntmps3
  go_wp2_with fail
  refine (awake15 w hw hg).mono ?_
  rintro e w1 ⟨rfl, hb⟩
  go_wp2_with fail
  refine (awake15 w1 (hw.below hb) (hg.below hb)).mono ?_
  rintro e w2 ⟨rfl, hb2⟩
  go_wp2_with fail
  go_returns
  exact ⟨rfl, hb.trans (hb2.mono hb.size)⟩

set_option maxHeartbeats 16000000 in
theorem serialReads_short (K st : Nat → Nat) (s : ByteArray) (w : World) (hw : Words w) (hg : Base w) (hs : s.size ≤ 300) (hst : ∀ i, i < 8 → st i < 18446744073709551616) (hS : Wd w 2 8 st) (hK : Wd w 6 80 K) :
    Calls Tryz.prog 3 #[.string s] w fun e w' => e = .returned (.bool true) ∧ Below w.heap.size w w' := by
  have hsb : decide ((300 : Int) < (s.size : Int)) = false := decide_eq_false (by omega)
  have HNA := Lib.hid (fun w hw hg hS hK => readKey_any K st s w hw hg (by omega) hst hS hK)
  have HNW := Lib.hid (fun v p l bv w hv hS hK => new_any K st v p l bv w hv hst hS hK)
  have HSW := Lib.hid hS
  have HKW := Lib.hid hK
  have HWW := Lib.hid hw
  have HGG := Lib.hid hg
  have HSZ := Lib.hid hs
  generalize hR : findHead keyHeads s.data.toList = R at HNA
  have HR := Lib.hid (show findHead (List.drop 0 keyHeads) s.data.toList = R from hR)
  clear hR hw hg hS hK hst
  generalize hq : readK K st R = r at HNA
  obtain ⟨ra, rb, rl, re⟩ := r
  rw [newV_mk] at HNA
  have HQ := Lib.hid hq
  clear hq
  go_enter Tryz.func3, Tryz.ntmps3
  go_wp2_with fail
  refine (awake15 w HWW.out HGG.out).mono ?_
  rintro e w1 ⟨rfl, hb1⟩
  go_wp2_with fail
  refine (HNA.out w1 (HWW.out.below hb1) (HGG.out.below hb1) (HSW.out.below hb1) (HKW.out.below hb1)).mono ?_
  rintro e w2 ⟨rfl, hb2⟩
  have HB2 := Lib.hid (hb1.trans (hb2.mono hb1.size))
  clear hb1 hb2 HNA
  go_upto_region 4 with (fail)
  refine wp_start1 ?_
  intro w3 hb3 hN
  obtain ⟨kb, hkb⟩ : ∃ kb, kb = w2.heap.size := ⟨_, rfl⟩
  rw [← hkb] at hN ⊢
  have HB3 := Lib.hid (HB2.out.trans (hb3.mono HB2.out.size))
  have HN := Lib.hid hN
  clear hb3 hN HB2 hkb
  go_wp2_with fail
  refine (heads_any w3).mono ?_
  rintro e w4 ⟨rfl, hb4⟩
  have HB4 := Lib.hid (HB3.out.trans (hb4.mono HB3.out.size))
  have HN4 := Lib.hid (Vo.heap_below HN.out hb4)
  clear hb4 HB3 HN
  go_wp2_with fail
  go_loopw [27] (fun i wr => ∃ k : Nat, k ≤ 4 ∧ i = .int .i64 k ∧ Below w.heap.size w wr ∧ wr.heap[kb]? = some (.cells #[.int .i64 ra, .int .i64 rb, .string ⟨rl.toArray⟩] 28) ∧ Hid (findHead (keyHeads.drop k) s.data.toList = R)) (fun i _ => 4 - (intOf i).toNat)
  case atStart => exact ⟨0, by omega, rfl, HB4.out, HN4.out, HR⟩
  case round =>
    obtain ⟨k, hk4, rfl, bel, hkey, HD⟩ := hrel
    have HKEY := Lib.hid hkey
    clear HR HB4 HN4 hkey
    obtain rfl | rfl | rfl | rfl | rfl : k = 0 ∨ k = 1 ∨ k = 2 ∨ k = 3 ∨ k = 4 := by omega
    · have hst : findHead (keyHeads.drop 0) s.data.toList = (if Lib.hasPrefix s.data.toList (⟨#[107, 51, 46, 108, 111, 99, 97, 108, 46]⟩ : ByteArray).data.toList then some (3, 1, Lib.trimPrefix s.data.toList (⟨#[107, 51, 46, 108, 111, 99, 97, 108, 46]⟩ : ByteArray).data.toList) else findHead (keyHeads.drop 1) s.data.toList) := rfl
      have HD := Lib.hid (hst.symm.trans HD.out)
      clear hst
      obtain ⟨x0, x1, x2, x3⟩ := index_heads wr
      unfold headsV at x0 x1 x2 x3
      go_wp2_with fail
      clear x0 x1 x2 x3
      refine (begins_any s ⟨#[107, 51, 46, 108, 111, 99, 97, 108, 46]⟩ _).mono ?_
      rintro e w4 ⟨rfl, rfl⟩
      have hpd := @prefix_drop s.data.toList (⟨#[107, 51, 46, 108, 111, 99, 97, 108, 46]⟩ : ByteArray).data.toList
      have hpa := @prefix_app s.data.toList (⟨#[107, 51, 46, 108, 111, 99, 97, 108, 46]⟩ : ByteArray).data.toList
      rw [show (⟨#[107, 51, 46, 108, 111, 99, 97, 108, 46]⟩ : ByteArray).data.toList.length = 9 from rfl] at hpd hpa
      generalize (Lib.trimPrefix s.data.toList (⟨#[107, 51, 46, 108, 111, 99, 97, 108, 46]⟩ : ByteArray).data.toList) = T at HD hpd
      generalize (Lib.hasPrefix s.data.toList (⟨#[107, 51, 46, 108, 111, 99, 97, 108, 46]⟩ : ByteArray).data.toList) = H at HD hpd hpa ⊢
      rcases H with _ | _
      · clear hpd hpa
        go_wp2_with fail
        exact ⟨⟨1, by omega, rfl, by have hz := bel.size; go_grown, Vo.heap_below HKEY.out ((Below.refl _ _).alloc (Nat.le_refl _) _), Lib.hid HD.out⟩, by decide⟩
      · obtain ⟨hT, hle⟩ := hpd rfl
        have hAp := hpa rfl
        rw [← hT] at hAp
        have hle' : 9 ≤ s.size := hle
        have hRR : some (3, 1, T) = R := HD.out
        subst hRR
        have hbd : decide ((9 : Int) ≤ (s.size : Int)) = true := decide_eq_true (by omega)
        have HE := Lib.hid (extract_drop s 9)
        have hsx : (s.extract 9 s.size).size ≤ 400 := by have := HSZ.out; rw [HE.out]; exact Nat.le_trans (size_drop s _) (by omega)
        have HRB := fun w => refBytes_any (s.extract 9 s.size) w hsx
        have hq : (if (rdv sg64 6 ⟨T.toArray⟩).2 = 0 then newR K st 3 1 (rdv sg64 6 ⟨T.toArray⟩).1 else (0, 0, [], (rdv sg64 6 ⟨T.toArray⟩).2)) = (ra, rb, rl, re) := HQ.out
        have hrt : (rdv sg64 6 ⟨T.toArray⟩).2 = 0 → txt sg64 6 (rdv sg64 6 ⟨T.toArray⟩).1 = T := fun h => by
          have := read_text alpha64 ⟨T.toArray⟩ h
          rwa [mk_toList] at this
        have hrl : (rdv sg64 6 ⟨T.toArray⟩).1.length ≤ s.size := by
          refine Nat.le_trans (rdv_len alpha64 _) ?_
          rw [size_mk, hT, List.length_drop]
          have : s.data.toList.length = s.size := rfl
          omega
        rw [show rdv sg64 6 (s.extract 9 s.size) = rdv sg64 6 ⟨T.toArray⟩ by rw [HE.out, hT]] at HRB
        generalize rdv sg64 6 ⟨T.toArray⟩ = q at HRB hq hrt hrl
        obtain ⟨l, c⟩ := q
        simp only at hq hrt hrl
        have HRB := Lib.hid HRB
        have hq := Lib.hid hq
        have HRT := Lib.hid hrt
        have HRL := Lib.hid hrl
        have HAP := Lib.hid hAp
        clear hT hpd hpa hAp HD HQ hle hsx hrt hrl
        go_wp2_with fail
        refine (HRB.out _).mono ?_
        rintro e w5 ⟨bv, rfl, hbv, hb5⟩
        have HBV := Lib.hid hbv
        obtain ⟨a, cap, rfl, _, _⟩ := hbv
        have HB5 := Lib.hid (show Below w.heap.size w w5 from (bel.alloc bel.size _).trans (hb5.mono (by have := bel.size; simp; omega)))
        have HK5 := Lib.hid (Vo.heap_below (Vo.heap_below HKEY.out ((Below.refl _ _).alloc (Nat.le_refl _) _)) hb5)
        clear HRB HE hb5 HKEY bel
        simp only at HBV ⊢
        by_cases hc : c = 0
        · subst hc
          have HNR : Hid (newR K st 3 1 l = (ra, rb, rl, re)) := Lib.hid (by have := hq.out; rwa [if_pos rfl] at this)
          have HTX := Lib.hid (HRT.out rfl)
          clear hq HRT
          have HNEW := Lib.hid (HNW.out 3 1 l (.slice a l.length cap) w5 HBV.out (HSW.out.below HB5.out) (HKW.out.below HB5.out))
          rw [HNR.out, newV_mk] at HNEW
          have HLN : Hid (rl.length ≤ 300) := Lib.hid (by
            have h1 := newR_len K st 3 1 l
            rw [HNR.out] at h1
            exact Nat.le_trans h1 (Nat.le_trans HRL.out HSZ.out))
          go_wp2_with fail
          refine HNEW.out.mono ?_
          rintro e w6 ⟨rfl, hb6⟩
          have HB6 := Lib.hid (HB5.out.trans (hb6.mono HB5.out.size))
          have HK6 := Lib.hid (Vo.heap_below HK5.out hb6)
          clear hb6 HB5 HK5 HNEW HBV HRL
          go_upto_region 15 with (fail)
          refine wp_start1 ?_
          intro w7 hb7 hN7
          obtain ⟨wb, hwb⟩ : ∃ wb, wb = w6.heap.size := ⟨_, rfl⟩
          rw [← hwb] at hN7 ⊢
          have HB7 := Lib.hid (HB6.out.trans (hb7.mono HB6.out.size))
          have HK7 := Lib.hid (Vo.heap_below HK6.out hb7)
          clear hwb hb7 HB6 HK6
          have k0 : w7.cell? ⟨kb, 0, none⟩ = some (.int .i64 ra) := by rw [cell_of_row w7 kb 0 _ _ _ HK7.out]; rfl
          have k1 : w7.cell? ⟨kb, 1, none⟩ = some (.int .i64 rb) := by rw [cell_of_row w7 kb 1 _ _ _ HK7.out]; rfl
          have k2 : w7.cell? ⟨kb, 2, none⟩ = some (.string ⟨rl.toArray⟩) := by rw [cell_of_row w7 kb 2 _ _ _ HK7.out]; rfl
          have klt := Vo.heap_lt HK7.out
          have n0 : w7.cell? ⟨wb, 0, none⟩ = some (.int .i64 ra) := by rw [cell_of_row w7 wb 0 _ _ _ hN7]; rfl
          have n1 : w7.cell? ⟨wb, 1, none⟩ = some (.int .i64 rb) := by rw [cell_of_row w7 wb 1 _ _ _ hN7]; rfl
          have n2 : w7.cell? ⟨wb, 2, none⟩ = some (.string ⟨rl.toArray⟩) := by rw [cell_of_row w7 wb 2 _ _ _ hN7]; rfl
          have nlt := Vo.heap_lt hN7
          clear hN7
          have HSM := Lib.hid (keySame_any ra rb ra rb ⟨rl.toArray⟩ ⟨rl.toArray⟩ w7 (by rw [size_mk]; have := HLN.out; omega))
          rw [show decide (ra = ra ∧ rb = rb ∧ (⟨rl.toArray⟩ : ByteArray).data.toList = (⟨rl.toArray⟩ : ByteArray).data.toList) = true from decide_eq_true ⟨rfl, rfl, rfl⟩] at HSM
          go_wp2_with fail
          refine HSM.out.mono ?_
          rintro e w8 ⟨rfl, hb8⟩
          have HB8 := Lib.hid (HB7.out.trans (hb8.mono HB7.out.size))
          have HK8 := Lib.hid (Vo.heap_below HK7.out hb8)
          clear hb8 HB7 HK7 HSM k0 k1 k2 klt n0 n1 n2 nlt
          have k0 : w8.cell? ⟨kb, 0, none⟩ = some (.int .i64 ra) := by rw [cell_of_row w8 kb 0 _ _ _ HK8.out]; rfl
          have k1 : w8.cell? ⟨kb, 1, none⟩ = some (.int .i64 rb) := by rw [cell_of_row w8 kb 1 _ _ _ HK8.out]; rfl
          have k2 : w8.cell? ⟨kb, 2, none⟩ = some (.string ⟨rl.toArray⟩) := by rw [cell_of_row w8 kb 2 _ _ _ HK8.out]; rfl
          have klt := Vo.heap_lt HK8.out
          by_cases hre : re = 0
          · subst hre
            obtain ⟨rfl, rfl, rfl⟩ := newR_ok HNR.out
            have HTK := Lib.hid (textK_31 ⟨rl.toArray⟩ w8 (HWW.out.below HB8.out) (HGG.out.below HB8.out) (by rw [size_mk]; have := HLN.out; omega))
            rw [mk_toList, HTX.out, str_app s ⟨#[107, 51, 46, 108, 111, 99, 97, 108, 46]⟩ T HAP.out] at HTK
            go_wp2_with fail
            refine HTK.out.mono ?_
            rintro e w9 ⟨rfl, hb9⟩
            have B9 := HB8.out.trans (hb9.mono HB8.out.size)
            have hzs := B9.size
            clear hb9 HTK
            go_wp2
            go_returns
            exact ⟨rfl, B9⟩
          · have h1 : ((re : Int) != 0) = true := by simp [hre]
            have B8 := HB8.out
            have hzs := B8.size
            clear hre
            go_wp2
            go_returns
            exact ⟨rfl, B8⟩
        · have h2 : ((c : Int) != 0) = true := by simp [hc]
          have hq' := hq.out
          rw [if_neg hc] at hq'
          simp only [Prod.mk.injEq] at hq'
          obtain ⟨rfl, rfl, rfl, rfl⟩ := hq'
          clear hq hc HRT HNW
          have hk := HK5.out
          have k0 : w5.cell? ⟨kb, 0, none⟩ = some (.int .i64 0) := by rw [cell_of_row w5 kb 0 _ _ _ hk]; rfl
          have k1 : w5.cell? ⟨kb, 1, none⟩ = some (.int .i64 0) := by rw [cell_of_row w5 kb 1 _ _ _ hk]; rfl
          have k2 : w5.cell? ⟨kb, 2, none⟩ = some (.string ⟨#[]⟩) := by rw [cell_of_row w5 kb 2 _ _ _ hk]; rfl
          have klt := Vo.heap_lt hk
          clear hk
          go_wp2_with fail
          refine (keyBytes_any 0 0 ⟨#[]⟩ w5).mono ?_
          rintro e w6 ⟨bs, rfl, hb6, hbs⟩
          obtain ⟨a6, c6, rfl, _, _⟩ := hbs
          have B6 := HB5.out.trans (hb6.mono HB5.out.size)
          have hzs := B6.size
          clear hb6 k0 k1 k2 klt
          go_wp2
          go_returns
          exact ⟨rfl, B6⟩
    · have hst : findHead (keyHeads.drop 1) s.data.toList = (if Lib.hasPrefix s.data.toList (⟨#[107, 52, 46, 108, 111, 99, 97, 108, 46]⟩ : ByteArray).data.toList then some (4, 1, Lib.trimPrefix s.data.toList (⟨#[107, 52, 46, 108, 111, 99, 97, 108, 46]⟩ : ByteArray).data.toList) else findHead (keyHeads.drop 2) s.data.toList) := rfl
      have HD := Lib.hid (hst.symm.trans HD.out)
      clear hst
      obtain ⟨x0, x1, x2, x3⟩ := index_heads wr
      unfold headsV at x0 x1 x2 x3
      go_wp2_with fail
      clear x0 x1 x2 x3
      refine (begins_any s ⟨#[107, 52, 46, 108, 111, 99, 97, 108, 46]⟩ _).mono ?_
      rintro e w4 ⟨rfl, rfl⟩
      have hpd := @prefix_drop s.data.toList (⟨#[107, 52, 46, 108, 111, 99, 97, 108, 46]⟩ : ByteArray).data.toList
      have hpa := @prefix_app s.data.toList (⟨#[107, 52, 46, 108, 111, 99, 97, 108, 46]⟩ : ByteArray).data.toList
      rw [show (⟨#[107, 52, 46, 108, 111, 99, 97, 108, 46]⟩ : ByteArray).data.toList.length = 9 from rfl] at hpd hpa
      generalize (Lib.trimPrefix s.data.toList (⟨#[107, 52, 46, 108, 111, 99, 97, 108, 46]⟩ : ByteArray).data.toList) = T at HD hpd
      generalize (Lib.hasPrefix s.data.toList (⟨#[107, 52, 46, 108, 111, 99, 97, 108, 46]⟩ : ByteArray).data.toList) = H at HD hpd hpa ⊢
      rcases H with _ | _
      · clear hpd hpa
        go_wp2_with fail
        exact ⟨⟨2, by omega, rfl, by have hz := bel.size; go_grown, Vo.heap_below HKEY.out ((Below.refl _ _).alloc (Nat.le_refl _) _), Lib.hid HD.out⟩, by decide⟩
      · obtain ⟨hT, hle⟩ := hpd rfl
        have hAp := hpa rfl
        rw [← hT] at hAp
        have hle' : 9 ≤ s.size := hle
        have hRR : some (4, 1, T) = R := HD.out
        subst hRR
        have hbd : decide ((9 : Int) ≤ (s.size : Int)) = true := decide_eq_true (by omega)
        have HE := Lib.hid (extract_drop s 9)
        have hsx : (s.extract 9 s.size).size ≤ 400 := by have := HSZ.out; rw [HE.out]; exact Nat.le_trans (size_drop s _) (by omega)
        have HRB := fun w => refBytes_any (s.extract 9 s.size) w hsx
        have hq : (if (rdv sg64 6 ⟨T.toArray⟩).2 = 0 then newR K st 4 1 (rdv sg64 6 ⟨T.toArray⟩).1 else (0, 0, [], (rdv sg64 6 ⟨T.toArray⟩).2)) = (ra, rb, rl, re) := HQ.out
        have hrt : (rdv sg64 6 ⟨T.toArray⟩).2 = 0 → txt sg64 6 (rdv sg64 6 ⟨T.toArray⟩).1 = T := fun h => by
          have := read_text alpha64 ⟨T.toArray⟩ h
          rwa [mk_toList] at this
        have hrl : (rdv sg64 6 ⟨T.toArray⟩).1.length ≤ s.size := by
          refine Nat.le_trans (rdv_len alpha64 _) ?_
          rw [size_mk, hT, List.length_drop]
          have : s.data.toList.length = s.size := rfl
          omega
        rw [show rdv sg64 6 (s.extract 9 s.size) = rdv sg64 6 ⟨T.toArray⟩ by rw [HE.out, hT]] at HRB
        generalize rdv sg64 6 ⟨T.toArray⟩ = q at HRB hq hrt hrl
        obtain ⟨l, c⟩ := q
        simp only at hq hrt hrl
        have HRB := Lib.hid HRB
        have hq := Lib.hid hq
        have HRT := Lib.hid hrt
        have HRL := Lib.hid hrl
        have HAP := Lib.hid hAp
        clear hT hpd hpa hAp HD HQ hle hsx hrt hrl
        go_wp2_with fail
        refine (HRB.out _).mono ?_
        rintro e w5 ⟨bv, rfl, hbv, hb5⟩
        have HBV := Lib.hid hbv
        obtain ⟨a, cap, rfl, _, _⟩ := hbv
        have HB5 := Lib.hid (show Below w.heap.size w w5 from (bel.alloc bel.size _).trans (hb5.mono (by have := bel.size; simp; omega)))
        have HK5 := Lib.hid (Vo.heap_below (Vo.heap_below HKEY.out ((Below.refl _ _).alloc (Nat.le_refl _) _)) hb5)
        clear HRB HE hb5 HKEY bel
        simp only at HBV ⊢
        by_cases hc : c = 0
        · subst hc
          have HNR : Hid (newR K st 4 1 l = (ra, rb, rl, re)) := Lib.hid (by have := hq.out; rwa [if_pos rfl] at this)
          have HTX := Lib.hid (HRT.out rfl)
          clear hq HRT
          have HNEW := Lib.hid (HNW.out 4 1 l (.slice a l.length cap) w5 HBV.out (HSW.out.below HB5.out) (HKW.out.below HB5.out))
          rw [HNR.out, newV_mk] at HNEW
          have HLN : Hid (rl.length ≤ 300) := Lib.hid (by
            have h1 := newR_len K st 4 1 l
            rw [HNR.out] at h1
            exact Nat.le_trans h1 (Nat.le_trans HRL.out HSZ.out))
          go_wp2_with fail
          refine HNEW.out.mono ?_
          rintro e w6 ⟨rfl, hb6⟩
          have HB6 := Lib.hid (HB5.out.trans (hb6.mono HB5.out.size))
          have HK6 := Lib.hid (Vo.heap_below HK5.out hb6)
          clear hb6 HB5 HK5 HNEW HBV HRL
          go_upto_region 15 with (fail)
          refine wp_start1 ?_
          intro w7 hb7 hN7
          obtain ⟨wb, hwb⟩ : ∃ wb, wb = w6.heap.size := ⟨_, rfl⟩
          rw [← hwb] at hN7 ⊢
          have HB7 := Lib.hid (HB6.out.trans (hb7.mono HB6.out.size))
          have HK7 := Lib.hid (Vo.heap_below HK6.out hb7)
          clear hwb hb7 HB6 HK6
          have k0 : w7.cell? ⟨kb, 0, none⟩ = some (.int .i64 ra) := by rw [cell_of_row w7 kb 0 _ _ _ HK7.out]; rfl
          have k1 : w7.cell? ⟨kb, 1, none⟩ = some (.int .i64 rb) := by rw [cell_of_row w7 kb 1 _ _ _ HK7.out]; rfl
          have k2 : w7.cell? ⟨kb, 2, none⟩ = some (.string ⟨rl.toArray⟩) := by rw [cell_of_row w7 kb 2 _ _ _ HK7.out]; rfl
          have klt := Vo.heap_lt HK7.out
          have n0 : w7.cell? ⟨wb, 0, none⟩ = some (.int .i64 ra) := by rw [cell_of_row w7 wb 0 _ _ _ hN7]; rfl
          have n1 : w7.cell? ⟨wb, 1, none⟩ = some (.int .i64 rb) := by rw [cell_of_row w7 wb 1 _ _ _ hN7]; rfl
          have n2 : w7.cell? ⟨wb, 2, none⟩ = some (.string ⟨rl.toArray⟩) := by rw [cell_of_row w7 wb 2 _ _ _ hN7]; rfl
          have nlt := Vo.heap_lt hN7
          clear hN7
          have HSM := Lib.hid (keySame_any ra rb ra rb ⟨rl.toArray⟩ ⟨rl.toArray⟩ w7 (by rw [size_mk]; have := HLN.out; omega))
          rw [show decide (ra = ra ∧ rb = rb ∧ (⟨rl.toArray⟩ : ByteArray).data.toList = (⟨rl.toArray⟩ : ByteArray).data.toList) = true from decide_eq_true ⟨rfl, rfl, rfl⟩] at HSM
          go_wp2_with fail
          refine HSM.out.mono ?_
          rintro e w8 ⟨rfl, hb8⟩
          have HB8 := Lib.hid (HB7.out.trans (hb8.mono HB7.out.size))
          have HK8 := Lib.hid (Vo.heap_below HK7.out hb8)
          clear hb8 HB7 HK7 HSM k0 k1 k2 klt n0 n1 n2 nlt
          have k0 : w8.cell? ⟨kb, 0, none⟩ = some (.int .i64 ra) := by rw [cell_of_row w8 kb 0 _ _ _ HK8.out]; rfl
          have k1 : w8.cell? ⟨kb, 1, none⟩ = some (.int .i64 rb) := by rw [cell_of_row w8 kb 1 _ _ _ HK8.out]; rfl
          have k2 : w8.cell? ⟨kb, 2, none⟩ = some (.string ⟨rl.toArray⟩) := by rw [cell_of_row w8 kb 2 _ _ _ HK8.out]; rfl
          have klt := Vo.heap_lt HK8.out
          by_cases hre : re = 0
          · subst hre
            obtain ⟨rfl, rfl, rfl⟩ := newR_ok HNR.out
            have HTK := Lib.hid (textK_41 ⟨rl.toArray⟩ w8 (HWW.out.below HB8.out) (HGG.out.below HB8.out) (by rw [size_mk]; have := HLN.out; omega))
            rw [mk_toList, HTX.out, str_app s ⟨#[107, 52, 46, 108, 111, 99, 97, 108, 46]⟩ T HAP.out] at HTK
            go_wp2_with fail
            refine HTK.out.mono ?_
            rintro e w9 ⟨rfl, hb9⟩
            have B9 := HB8.out.trans (hb9.mono HB8.out.size)
            have hzs := B9.size
            clear hb9 HTK
            go_wp2
            go_returns
            exact ⟨rfl, B9⟩
          · have h1 : ((re : Int) != 0) = true := by simp [hre]
            have B8 := HB8.out
            have hzs := B8.size
            clear hre
            go_wp2
            go_returns
            exact ⟨rfl, B8⟩
        · have h2 : ((c : Int) != 0) = true := by simp [hc]
          have hq' := hq.out
          rw [if_neg hc] at hq'
          simp only [Prod.mk.injEq] at hq'
          obtain ⟨rfl, rfl, rfl, rfl⟩ := hq'
          clear hq hc HRT HNW
          have hk := HK5.out
          have k0 : w5.cell? ⟨kb, 0, none⟩ = some (.int .i64 0) := by rw [cell_of_row w5 kb 0 _ _ _ hk]; rfl
          have k1 : w5.cell? ⟨kb, 1, none⟩ = some (.int .i64 0) := by rw [cell_of_row w5 kb 1 _ _ _ hk]; rfl
          have k2 : w5.cell? ⟨kb, 2, none⟩ = some (.string ⟨#[]⟩) := by rw [cell_of_row w5 kb 2 _ _ _ hk]; rfl
          have klt := Vo.heap_lt hk
          clear hk
          go_wp2_with fail
          refine (keyBytes_any 0 0 ⟨#[]⟩ w5).mono ?_
          rintro e w6 ⟨bs, rfl, hb6, hbs⟩
          obtain ⟨a6, c6, rfl, _, _⟩ := hbs
          have B6 := HB5.out.trans (hb6.mono HB5.out.size)
          have hzs := B6.size
          clear hb6 k0 k1 k2 klt
          go_wp2
          go_returns
          exact ⟨rfl, B6⟩
    · have hst : findHead (keyHeads.drop 2) s.data.toList = (if Lib.hasPrefix s.data.toList (⟨#[107, 52, 46, 115, 101, 99, 114, 101, 116, 46]⟩ : ByteArray).data.toList then some (4, 2, Lib.trimPrefix s.data.toList (⟨#[107, 52, 46, 115, 101, 99, 114, 101, 116, 46]⟩ : ByteArray).data.toList) else findHead (keyHeads.drop 3) s.data.toList) := rfl
      have HD := Lib.hid (hst.symm.trans HD.out)
      clear hst
      obtain ⟨x0, x1, x2, x3⟩ := index_heads wr
      unfold headsV at x0 x1 x2 x3
      go_wp2_with fail
      clear x0 x1 x2 x3
      refine (begins_any s ⟨#[107, 52, 46, 115, 101, 99, 114, 101, 116, 46]⟩ _).mono ?_
      rintro e w4 ⟨rfl, rfl⟩
      have hpd := @prefix_drop s.data.toList (⟨#[107, 52, 46, 115, 101, 99, 114, 101, 116, 46]⟩ : ByteArray).data.toList
      have hpa := @prefix_app s.data.toList (⟨#[107, 52, 46, 115, 101, 99, 114, 101, 116, 46]⟩ : ByteArray).data.toList
      rw [show (⟨#[107, 52, 46, 115, 101, 99, 114, 101, 116, 46]⟩ : ByteArray).data.toList.length = 10 from rfl] at hpd hpa
      generalize (Lib.trimPrefix s.data.toList (⟨#[107, 52, 46, 115, 101, 99, 114, 101, 116, 46]⟩ : ByteArray).data.toList) = T at HD hpd
      generalize (Lib.hasPrefix s.data.toList (⟨#[107, 52, 46, 115, 101, 99, 114, 101, 116, 46]⟩ : ByteArray).data.toList) = H at HD hpd hpa ⊢
      rcases H with _ | _
      · clear hpd hpa
        go_wp2_with fail
        exact ⟨⟨3, by omega, rfl, by have hz := bel.size; go_grown, Vo.heap_below HKEY.out ((Below.refl _ _).alloc (Nat.le_refl _) _), Lib.hid HD.out⟩, by decide⟩
      · obtain ⟨hT, hle⟩ := hpd rfl
        have hAp := hpa rfl
        rw [← hT] at hAp
        have hle' : 10 ≤ s.size := hle
        have hRR : some (4, 2, T) = R := HD.out
        subst hRR
        have hbd : decide ((10 : Int) ≤ (s.size : Int)) = true := decide_eq_true (by omega)
        have HE := Lib.hid (extract_drop s 10)
        have hsx : (s.extract 10 s.size).size ≤ 400 := by have := HSZ.out; rw [HE.out]; exact Nat.le_trans (size_drop s _) (by omega)
        have HRB := fun w => refBytes_any (s.extract 10 s.size) w hsx
        have hq : (if (rdv sg64 6 ⟨T.toArray⟩).2 = 0 then newR K st 4 2 (rdv sg64 6 ⟨T.toArray⟩).1 else (0, 0, [], (rdv sg64 6 ⟨T.toArray⟩).2)) = (ra, rb, rl, re) := HQ.out
        have hrt : (rdv sg64 6 ⟨T.toArray⟩).2 = 0 → txt sg64 6 (rdv sg64 6 ⟨T.toArray⟩).1 = T := fun h => by
          have := read_text alpha64 ⟨T.toArray⟩ h
          rwa [mk_toList] at this
        have hrl : (rdv sg64 6 ⟨T.toArray⟩).1.length ≤ s.size := by
          refine Nat.le_trans (rdv_len alpha64 _) ?_
          rw [size_mk, hT, List.length_drop]
          have : s.data.toList.length = s.size := rfl
          omega
        rw [show rdv sg64 6 (s.extract 10 s.size) = rdv sg64 6 ⟨T.toArray⟩ by rw [HE.out, hT]] at HRB
        generalize rdv sg64 6 ⟨T.toArray⟩ = q at HRB hq hrt hrl
        obtain ⟨l, c⟩ := q
        simp only at hq hrt hrl
        have HRB := Lib.hid HRB
        have hq := Lib.hid hq
        have HRT := Lib.hid hrt
        have HRL := Lib.hid hrl
        have HAP := Lib.hid hAp
        clear hT hpd hpa hAp HD HQ hle hsx hrt hrl
        go_wp2_with fail
        refine (HRB.out _).mono ?_
        rintro e w5 ⟨bv, rfl, hbv, hb5⟩
        have HBV := Lib.hid hbv
        obtain ⟨a, cap, rfl, _, _⟩ := hbv
        have HB5 := Lib.hid (show Below w.heap.size w w5 from (bel.alloc bel.size _).trans (hb5.mono (by have := bel.size; simp; omega)))
        have HK5 := Lib.hid (Vo.heap_below (Vo.heap_below HKEY.out ((Below.refl _ _).alloc (Nat.le_refl _) _)) hb5)
        clear HRB HE hb5 HKEY bel
        simp only at HBV ⊢
        by_cases hc : c = 0
        · subst hc
          have HNR : Hid (newR K st 4 2 l = (ra, rb, rl, re)) := Lib.hid (by have := hq.out; rwa [if_pos rfl] at this)
          have HTX := Lib.hid (HRT.out rfl)
          clear hq HRT
          have HNEW := Lib.hid (HNW.out 4 2 l (.slice a l.length cap) w5 HBV.out (HSW.out.below HB5.out) (HKW.out.below HB5.out))
          rw [HNR.out, newV_mk] at HNEW
          have HLN : Hid (rl.length ≤ 300) := Lib.hid (by
            have h1 := newR_len K st 4 2 l
            rw [HNR.out] at h1
            exact Nat.le_trans h1 (Nat.le_trans HRL.out HSZ.out))
          go_wp2_with fail
          refine HNEW.out.mono ?_
          rintro e w6 ⟨rfl, hb6⟩
          have HB6 := Lib.hid (HB5.out.trans (hb6.mono HB5.out.size))
          have HK6 := Lib.hid (Vo.heap_below HK5.out hb6)
          clear hb6 HB5 HK5 HNEW HBV HRL
          go_upto_region 15 with (fail)
          refine wp_start1 ?_
          intro w7 hb7 hN7
          obtain ⟨wb, hwb⟩ : ∃ wb, wb = w6.heap.size := ⟨_, rfl⟩
          rw [← hwb] at hN7 ⊢
          have HB7 := Lib.hid (HB6.out.trans (hb7.mono HB6.out.size))
          have HK7 := Lib.hid (Vo.heap_below HK6.out hb7)
          clear hwb hb7 HB6 HK6
          have k0 : w7.cell? ⟨kb, 0, none⟩ = some (.int .i64 ra) := by rw [cell_of_row w7 kb 0 _ _ _ HK7.out]; rfl
          have k1 : w7.cell? ⟨kb, 1, none⟩ = some (.int .i64 rb) := by rw [cell_of_row w7 kb 1 _ _ _ HK7.out]; rfl
          have k2 : w7.cell? ⟨kb, 2, none⟩ = some (.string ⟨rl.toArray⟩) := by rw [cell_of_row w7 kb 2 _ _ _ HK7.out]; rfl
          have klt := Vo.heap_lt HK7.out
          have n0 : w7.cell? ⟨wb, 0, none⟩ = some (.int .i64 ra) := by rw [cell_of_row w7 wb 0 _ _ _ hN7]; rfl
          have n1 : w7.cell? ⟨wb, 1, none⟩ = some (.int .i64 rb) := by rw [cell_of_row w7 wb 1 _ _ _ hN7]; rfl
          have n2 : w7.cell? ⟨wb, 2, none⟩ = some (.string ⟨rl.toArray⟩) := by rw [cell_of_row w7 wb 2 _ _ _ hN7]; rfl
          have nlt := Vo.heap_lt hN7
          clear hN7
          have HSM := Lib.hid (keySame_any ra rb ra rb ⟨rl.toArray⟩ ⟨rl.toArray⟩ w7 (by rw [size_mk]; have := HLN.out; omega))
          rw [show decide (ra = ra ∧ rb = rb ∧ (⟨rl.toArray⟩ : ByteArray).data.toList = (⟨rl.toArray⟩ : ByteArray).data.toList) = true from decide_eq_true ⟨rfl, rfl, rfl⟩] at HSM
          go_wp2_with fail
          refine HSM.out.mono ?_
          rintro e w8 ⟨rfl, hb8⟩
          have HB8 := Lib.hid (HB7.out.trans (hb8.mono HB7.out.size))
          have HK8 := Lib.hid (Vo.heap_below HK7.out hb8)
          clear hb8 HB7 HK7 HSM k0 k1 k2 klt n0 n1 n2 nlt
          have k0 : w8.cell? ⟨kb, 0, none⟩ = some (.int .i64 ra) := by rw [cell_of_row w8 kb 0 _ _ _ HK8.out]; rfl
          have k1 : w8.cell? ⟨kb, 1, none⟩ = some (.int .i64 rb) := by rw [cell_of_row w8 kb 1 _ _ _ HK8.out]; rfl
          have k2 : w8.cell? ⟨kb, 2, none⟩ = some (.string ⟨rl.toArray⟩) := by rw [cell_of_row w8 kb 2 _ _ _ HK8.out]; rfl
          have klt := Vo.heap_lt HK8.out
          by_cases hre : re = 0
          · subst hre
            obtain ⟨rfl, rfl, rfl⟩ := newR_ok HNR.out
            have HTK := Lib.hid (textK_42 ⟨rl.toArray⟩ w8 (HWW.out.below HB8.out) (HGG.out.below HB8.out) (by rw [size_mk]; have := HLN.out; omega))
            rw [mk_toList, HTX.out, str_app s ⟨#[107, 52, 46, 115, 101, 99, 114, 101, 116, 46]⟩ T HAP.out] at HTK
            go_wp2_with fail
            refine HTK.out.mono ?_
            rintro e w9 ⟨rfl, hb9⟩
            have B9 := HB8.out.trans (hb9.mono HB8.out.size)
            have hzs := B9.size
            clear hb9 HTK
            go_wp2
            go_returns
            exact ⟨rfl, B9⟩
          · have h1 : ((re : Int) != 0) = true := by simp [hre]
            have B8 := HB8.out
            have hzs := B8.size
            clear hre
            go_wp2
            go_returns
            exact ⟨rfl, B8⟩
        · have h2 : ((c : Int) != 0) = true := by simp [hc]
          have hq' := hq.out
          rw [if_neg hc] at hq'
          simp only [Prod.mk.injEq] at hq'
          obtain ⟨rfl, rfl, rfl, rfl⟩ := hq'
          clear hq hc HRT HNW
          have hk := HK5.out
          have k0 : w5.cell? ⟨kb, 0, none⟩ = some (.int .i64 0) := by rw [cell_of_row w5 kb 0 _ _ _ hk]; rfl
          have k1 : w5.cell? ⟨kb, 1, none⟩ = some (.int .i64 0) := by rw [cell_of_row w5 kb 1 _ _ _ hk]; rfl
          have k2 : w5.cell? ⟨kb, 2, none⟩ = some (.string ⟨#[]⟩) := by rw [cell_of_row w5 kb 2 _ _ _ hk]; rfl
          have klt := Vo.heap_lt hk
          clear hk
          go_wp2_with fail
          refine (keyBytes_any 0 0 ⟨#[]⟩ w5).mono ?_
          rintro e w6 ⟨bs, rfl, hb6, hbs⟩
          obtain ⟨a6, c6, rfl, _, _⟩ := hbs
          have B6 := HB5.out.trans (hb6.mono HB5.out.size)
          have hzs := B6.size
          clear hb6 k0 k1 k2 klt
          go_wp2
          go_returns
          exact ⟨rfl, B6⟩
    · have hst : findHead (keyHeads.drop 3) s.data.toList = (if Lib.hasPrefix s.data.toList (⟨#[107, 52, 46, 112, 117, 98, 108, 105, 99, 46]⟩ : ByteArray).data.toList then some (4, 3, Lib.trimPrefix s.data.toList (⟨#[107, 52, 46, 112, 117, 98, 108, 105, 99, 46]⟩ : ByteArray).data.toList) else findHead (keyHeads.drop 4) s.data.toList) := rfl
      have HD := Lib.hid (hst.symm.trans HD.out)
      clear hst
      obtain ⟨x0, x1, x2, x3⟩ := index_heads wr
      unfold headsV at x0 x1 x2 x3
      go_wp2_with fail
      clear x0 x1 x2 x3
      refine (begins_any s ⟨#[107, 52, 46, 112, 117, 98, 108, 105, 99, 46]⟩ _).mono ?_
      rintro e w4 ⟨rfl, rfl⟩
      have hpd := @prefix_drop s.data.toList (⟨#[107, 52, 46, 112, 117, 98, 108, 105, 99, 46]⟩ : ByteArray).data.toList
      have hpa := @prefix_app s.data.toList (⟨#[107, 52, 46, 112, 117, 98, 108, 105, 99, 46]⟩ : ByteArray).data.toList
      rw [show (⟨#[107, 52, 46, 112, 117, 98, 108, 105, 99, 46]⟩ : ByteArray).data.toList.length = 10 from rfl] at hpd hpa
      generalize (Lib.trimPrefix s.data.toList (⟨#[107, 52, 46, 112, 117, 98, 108, 105, 99, 46]⟩ : ByteArray).data.toList) = T at HD hpd
      generalize (Lib.hasPrefix s.data.toList (⟨#[107, 52, 46, 112, 117, 98, 108, 105, 99, 46]⟩ : ByteArray).data.toList) = H at HD hpd hpa ⊢
      rcases H with _ | _
      · clear hpd hpa
        go_wp2_with fail
        exact ⟨⟨4, by omega, rfl, by have hz := bel.size; go_grown, Vo.heap_below HKEY.out ((Below.refl _ _).alloc (Nat.le_refl _) _), Lib.hid HD.out⟩, by decide⟩
      · obtain ⟨hT, hle⟩ := hpd rfl
        have hAp := hpa rfl
        rw [← hT] at hAp
        have hle' : 10 ≤ s.size := hle
        have hRR : some (4, 3, T) = R := HD.out
        subst hRR
        have hbd : decide ((10 : Int) ≤ (s.size : Int)) = true := decide_eq_true (by omega)
        have HE := Lib.hid (extract_drop s 10)
        have hsx : (s.extract 10 s.size).size ≤ 400 := by have := HSZ.out; rw [HE.out]; exact Nat.le_trans (size_drop s _) (by omega)
        have HRB := fun w => refBytes_any (s.extract 10 s.size) w hsx
        have hq : (if (rdv sg64 6 ⟨T.toArray⟩).2 = 0 then newR K st 4 3 (rdv sg64 6 ⟨T.toArray⟩).1 else (0, 0, [], (rdv sg64 6 ⟨T.toArray⟩).2)) = (ra, rb, rl, re) := HQ.out
        have hrt : (rdv sg64 6 ⟨T.toArray⟩).2 = 0 → txt sg64 6 (rdv sg64 6 ⟨T.toArray⟩).1 = T := fun h => by
          have := read_text alpha64 ⟨T.toArray⟩ h
          rwa [mk_toList] at this
        have hrl : (rdv sg64 6 ⟨T.toArray⟩).1.length ≤ s.size := by
          refine Nat.le_trans (rdv_len alpha64 _) ?_
          rw [size_mk, hT, List.length_drop]
          have : s.data.toList.length = s.size := rfl
          omega
        rw [show rdv sg64 6 (s.extract 10 s.size) = rdv sg64 6 ⟨T.toArray⟩ by rw [HE.out, hT]] at HRB
        generalize rdv sg64 6 ⟨T.toArray⟩ = q at HRB hq hrt hrl
        obtain ⟨l, c⟩ := q
        simp only at hq hrt hrl
        have HRB := Lib.hid HRB
        have hq := Lib.hid hq
        have HRT := Lib.hid hrt
        have HRL := Lib.hid hrl
        have HAP := Lib.hid hAp
        clear hT hpd hpa hAp HD HQ hle hsx hrt hrl
        go_wp2_with fail
        refine (HRB.out _).mono ?_
        rintro e w5 ⟨bv, rfl, hbv, hb5⟩
        have HBV := Lib.hid hbv
        obtain ⟨a, cap, rfl, _, _⟩ := hbv
        have HB5 := Lib.hid (show Below w.heap.size w w5 from (bel.alloc bel.size _).trans (hb5.mono (by have := bel.size; simp; omega)))
        have HK5 := Lib.hid (Vo.heap_below (Vo.heap_below HKEY.out ((Below.refl _ _).alloc (Nat.le_refl _) _)) hb5)
        clear HRB HE hb5 HKEY bel
        simp only at HBV ⊢
        by_cases hc : c = 0
        · subst hc
          have HNR : Hid (newR K st 4 3 l = (ra, rb, rl, re)) := Lib.hid (by have := hq.out; rwa [if_pos rfl] at this)
          have HTX := Lib.hid (HRT.out rfl)
          clear hq HRT
          have HNEW := Lib.hid (HNW.out 4 3 l (.slice a l.length cap) w5 HBV.out (HSW.out.below HB5.out) (HKW.out.below HB5.out))
          rw [HNR.out, newV_mk] at HNEW
          have HLN : Hid (rl.length ≤ 300) := Lib.hid (by
            have h1 := newR_len K st 4 3 l
            rw [HNR.out] at h1
            exact Nat.le_trans h1 (Nat.le_trans HRL.out HSZ.out))
          go_wp2_with fail
          refine HNEW.out.mono ?_
          rintro e w6 ⟨rfl, hb6⟩
          have HB6 := Lib.hid (HB5.out.trans (hb6.mono HB5.out.size))
          have HK6 := Lib.hid (Vo.heap_below HK5.out hb6)
          clear hb6 HB5 HK5 HNEW HBV HRL
          go_upto_region 15 with (fail)
          refine wp_start1 ?_
          intro w7 hb7 hN7
          obtain ⟨wb, hwb⟩ : ∃ wb, wb = w6.heap.size := ⟨_, rfl⟩
          rw [← hwb] at hN7 ⊢
          have HB7 := Lib.hid (HB6.out.trans (hb7.mono HB6.out.size))
          have HK7 := Lib.hid (Vo.heap_below HK6.out hb7)
          clear hwb hb7 HB6 HK6
          have k0 : w7.cell? ⟨kb, 0, none⟩ = some (.int .i64 ra) := by rw [cell_of_row w7 kb 0 _ _ _ HK7.out]; rfl
          have k1 : w7.cell? ⟨kb, 1, none⟩ = some (.int .i64 rb) := by rw [cell_of_row w7 kb 1 _ _ _ HK7.out]; rfl
          have k2 : w7.cell? ⟨kb, 2, none⟩ = some (.string ⟨rl.toArray⟩) := by rw [cell_of_row w7 kb 2 _ _ _ HK7.out]; rfl
          have klt := Vo.heap_lt HK7.out
          have n0 : w7.cell? ⟨wb, 0, none⟩ = some (.int .i64 ra) := by rw [cell_of_row w7 wb 0 _ _ _ hN7]; rfl
          have n1 : w7.cell? ⟨wb, 1, none⟩ = some (.int .i64 rb) := by rw [cell_of_row w7 wb 1 _ _ _ hN7]; rfl
          have n2 : w7.cell? ⟨wb, 2, none⟩ = some (.string ⟨rl.toArray⟩) := by rw [cell_of_row w7 wb 2 _ _ _ hN7]; rfl
          have nlt := Vo.heap_lt hN7
          clear hN7
          have HSM := Lib.hid (keySame_any ra rb ra rb ⟨rl.toArray⟩ ⟨rl.toArray⟩ w7 (by rw [size_mk]; have := HLN.out; omega))
          rw [show decide (ra = ra ∧ rb = rb ∧ (⟨rl.toArray⟩ : ByteArray).data.toList = (⟨rl.toArray⟩ : ByteArray).data.toList) = true from decide_eq_true ⟨rfl, rfl, rfl⟩] at HSM
          go_wp2_with fail
          refine HSM.out.mono ?_
          rintro e w8 ⟨rfl, hb8⟩
          have HB8 := Lib.hid (HB7.out.trans (hb8.mono HB7.out.size))
          have HK8 := Lib.hid (Vo.heap_below HK7.out hb8)
          clear hb8 HB7 HK7 HSM k0 k1 k2 klt n0 n1 n2 nlt
          have k0 : w8.cell? ⟨kb, 0, none⟩ = some (.int .i64 ra) := by rw [cell_of_row w8 kb 0 _ _ _ HK8.out]; rfl
          have k1 : w8.cell? ⟨kb, 1, none⟩ = some (.int .i64 rb) := by rw [cell_of_row w8 kb 1 _ _ _ HK8.out]; rfl
          have k2 : w8.cell? ⟨kb, 2, none⟩ = some (.string ⟨rl.toArray⟩) := by rw [cell_of_row w8 kb 2 _ _ _ HK8.out]; rfl
          have klt := Vo.heap_lt HK8.out
          by_cases hre : re = 0
          · subst hre
            obtain ⟨rfl, rfl, rfl⟩ := newR_ok HNR.out
            have HTK := Lib.hid (textK_43 ⟨rl.toArray⟩ w8 (HWW.out.below HB8.out) (HGG.out.below HB8.out) (by rw [size_mk]; have := HLN.out; omega))
            rw [mk_toList, HTX.out, str_app s ⟨#[107, 52, 46, 112, 117, 98, 108, 105, 99, 46]⟩ T HAP.out] at HTK
            go_wp2_with fail
            refine HTK.out.mono ?_
            rintro e w9 ⟨rfl, hb9⟩
            have B9 := HB8.out.trans (hb9.mono HB8.out.size)
            have hzs := B9.size
            clear hb9 HTK
            go_wp2
            go_returns
            exact ⟨rfl, B9⟩
          · have h1 : ((re : Int) != 0) = true := by simp [hre]
            have B8 := HB8.out
            have hzs := B8.size
            clear hre
            go_wp2
            go_returns
            exact ⟨rfl, B8⟩
        · have h2 : ((c : Int) != 0) = true := by simp [hc]
          have hq' := hq.out
          rw [if_neg hc] at hq'
          simp only [Prod.mk.injEq] at hq'
          obtain ⟨rfl, rfl, rfl, rfl⟩ := hq'
          clear hq hc HRT HNW
          have hk := HK5.out
          have k0 : w5.cell? ⟨kb, 0, none⟩ = some (.int .i64 0) := by rw [cell_of_row w5 kb 0 _ _ _ hk]; rfl
          have k1 : w5.cell? ⟨kb, 1, none⟩ = some (.int .i64 0) := by rw [cell_of_row w5 kb 1 _ _ _ hk]; rfl
          have k2 : w5.cell? ⟨kb, 2, none⟩ = some (.string ⟨#[]⟩) := by rw [cell_of_row w5 kb 2 _ _ _ hk]; rfl
          have klt := Vo.heap_lt hk
          clear hk
          go_wp2_with fail
          refine (keyBytes_any 0 0 ⟨#[]⟩ w5).mono ?_
          rintro e w6 ⟨bs, rfl, hb6, hbs⟩
          obtain ⟨a6, c6, rfl, _, _⟩ := hbs
          have B6 := HB5.out.trans (hb6.mono HB5.out.size)
          have hzs := B6.size
          clear hb6 k0 k1 k2 klt
          go_wp2
          go_returns
          exact ⟨rfl, B6⟩
    · have hRR : none = R := HD.out
      subst hRR
      have hq' : (0, 0, [], 7) = (ra, rb, rl, re) := HQ.out
      simp only [Prod.mk.injEq] at hq'
      obtain ⟨rfl, rfl, rfl, rfl⟩ := hq'
      have hk := HKEY.out
      have k0 : wr.cell? ⟨kb, 0, none⟩ = some (.int .i64 0) := by rw [cell_of_row wr kb 0 _ _ _ hk]; rfl
      have k1 : wr.cell? ⟨kb, 1, none⟩ = some (.int .i64 0) := by rw [cell_of_row wr kb 1 _ _ _ hk]; rfl
      have k2 : wr.cell? ⟨kb, 2, none⟩ = some (.string ⟨#[]⟩) := by rw [cell_of_row wr kb 2 _ _ _ hk]; rfl
      have klt := Vo.heap_lt hk
      clear hk HQ HD HNW
      go_wp2_with fail
      refine (keyBytes_any 0 0 ⟨#[]⟩ wr).mono ?_
      rintro e w6 ⟨bs, rfl, hb6, hbs⟩
      obtain ⟨a6, c6, rfl, _, _⟩ := hbs
      have B6 := bel.trans (hb6.mono bel.size)
      have hzs := B6.size
      clear hb6 k0 k1 k2 klt
      go_wp2
      go_returns
      exact ⟨rfl, B6⟩

theorem serialReads_any (K st : Nat → Nat) (s : ByteArray) (w : World) (hw : Words w) (hg : Base w) (hst : ∀ i, i < 8 → st i < 18446744073709551616) (hS : Wd w 2 8 st) (hK : Wd w 6 80 K) :
    Calls Tryz.prog 3 #[.string s] w fun e w' => e = .returned (.bool true) ∧ Below w.heap.size w w' := by
  by_cases hs : s.size ≤ 300
  · exact serialReads_short K st s w hw hg hs hst hS hK
  · exact serialReads_long s w hw hg hs

end Go.Proofs.YtlgghcffmnofdaaGreatDoor.Ke
