/-
  The walk of CoinTexts.
-/
import Derived.Test.YtckkjcicjfnadaaDoorCoinAwake
import Derived.Test.YtckkjcicjfnadaaDoorCoinRefT
import Derived.Test.YtckkjcicjfnadaaDoorAppend
import Derived.BigQuiet
import Derived.Deep.QuietTactic
namespace Go.Proofs.YtckkjcicjfnadaaDoor.CnT
open Go.Proofs.YtckkjcicjfnadaaDoor.Cn
open Go.RowKit Go.Proofs.YtckkjcicjfnadaaDoor.PCoinTexts Go.Proofs.YtckkjcicjfnadaaDoorW.PrintWords

theorem bsl_C {w : World} {v : Value} {l : List UInt8} (h : Bsl w v l) (hl : l.length ≤ 1000000) : ∃ A c, v = .slice A (ints (by_ l)).length c ∧ Kd.C (Kd.int .u8) w A (ints (by_ l)).length (ints (by_ l)) ∧ (ints (by_ l)).length ≤ c := by
  have e2 : (ints (by_ l)).length = l.length := by simp [ints, by_]
  obtain ⟨a, cap, rfl, hle, hc⟩ := h
  refine ⟨a, cap, by rw [e2], ⟨rfl, by omega, fun h0 => ?_⟩, by omega⟩
  obtain ⟨b, off, rfl, _⟩ := hc 0 (by omega)
  refine ⟨⟨b, off, none⟩, rfl, fun j p hp => ?_⟩
  have hj : j < l.length := by
    rcases Nat.lt_or_ge j l.length with h | h
    · exact h
    · rw [List.getElem?_eq_none (by omega)] at hp; cases hp
  obtain ⟨b', off', h1, h2⟩ := hc j hj
  have h1' := Option.some.inj h1
  rw [Addr.mk.injEq] at h1'
  obtain ⟨rfl, rfl, _⟩ := h1'
  refine ⟨[Value.int .u8 p], rfl, rfl, fun i u hu => ?_⟩
  have hi0 : i = 0 := by
    rcases i with _ | i
    · rfl
    · simp at hu
  subst hi0
  have hu' : u = Value.int .u8 p := by simpa using hu.symm
  subst hu'
  have hplain : (⟨b, off, none⟩ : Addr).add (j * 1 + 0) = ⟨b, off + j, none⟩ := by
    rw [Nat.mul_one, Nat.add_zero]; unfold Addr.add; split <;> simp_all
  have hpe : p = ((l[j]'hj).toNat : Int) := by
    simp [ints, by_, hj] at hp
    exact hp.symm
  show w.cell? ((⟨b, off, none⟩ : Addr).add (j * 1 + 0)) = _
  rw [hplain, h2, hpe]

theorem refText_any (l : List UInt8) (v : Value) (w : World) (hv : Bsl w v l) (hl : l.length ≤ 1000) :
    Calls Tryd.prog 13 #[v] w fun e w' => e = .returned (.string ⟨(txt sg64 6 l).toArray⟩) ∧ Below w.heap.size w w' := by
  obtain ⟨k, hk⟩ := refText l hl
  obtain ⟨A, c, rfl, hC, hc⟩ := bsl_C hv (by omega)
  exact escutcheonref01_Text.calls k A c _ _ w hC hc hk

theorem refHex_any (l : List UInt8) (v : Value) (w : World) (hv : Bsl w v l) (hl : l.length ≤ 1000) :
    Calls Tryd.prog 14 #[v] w fun e w' => e = .returned (.string ⟨(txt sg16 4 l).toArray⟩) ∧ Below w.heap.size w w' := by
  obtain ⟨A, c, rfl, hC, hc⟩ := bsl_C hv (by omega)
  have hk := CnH.hex_any (by_ l) (by_lt l) (by rw [by_length]; omega) (l.length + 1) (by rw [by_length]; omega)
  rw [CnH.hex_txt] at hk
  exact PCoinHexes.escutcheonref01_Hex.calls (l.length + 1) A c _ _ w hC hc hk

theorem bsl_cells {w : World} {v : Value} {l : List UInt8} (h : Bsl w v l) (h0 : l ≠ []) : ∃ b off cap, v = .slice (some ⟨b, off, none⟩) l.length cap ∧ ∀ j u, (cs l)[j]? = some u → w.cell? ((⟨b, off, none⟩ : Addr).add j) = some u := by
  obtain ⟨a, cap, rfl, _, hc⟩ := h
  obtain ⟨b, off, rfl, _⟩ := hc 0 (List.length_pos_iff.2 h0)
  refine ⟨b, off, cap, rfl, fun j u hu => ?_⟩
  have hj : j < l.length := by
    rcases Nat.lt_or_ge j l.length with h | h
    · exact h
    · rw [List.getElem?_eq_none (by rw [cs_length]; exact h)] at hu; cases hu
  obtain ⟨b', off', h1, h2⟩ := hc j hj
  have h1' := Option.some.inj h1
  rw [Addr.mk.injEq] at h1'
  obtain ⟨rfl, rfl, _⟩ := h1'
  have hplain : (⟨b, off, none⟩ : Addr).add j = ⟨b, off + j, none⟩ := by unfold Addr.add; split <;> simp_all
  rw [hplain, h2]
  simpa [cs, hj] using hu

theorem cs_one (l : List UInt8) : ∀ u ∈ cs l, u.oneCell' = true := by
  intro u hu
  obtain ⟨c, _, rfl⟩ := List.mem_map.1 hu
  rfl

set_option maxHeartbeats 1600000 in
set_option maxRecDepth 100000 in
theorem coinTexts_long (l : List UInt8) (v : Value) (w : World) (hg : Base w) (hv : Bsl w v l) (hl : ¬ l.length ≤ 300) (hm : l.length ≤ 9223372036854775807) :
    Calls Tryd.prog 5 #[v] w fun e w' => e = .returned (.bool true) ∧ Below w.heap.size w w' := by
  have hsb : decide ((300 : Int) < (l.length : Int)) = true := decide_eq_true (by omega)
  obtain ⟨a, cap, rfl, _, _⟩ := hv
  go_enter Tryd.func5, Tryd.ntmps5
  go_wp2_with fail
  refine (awake01 w hg).mono ?_
  rintro e w1 ⟨rfl, hb⟩
  have hg1 := hg.below hb
  go_wp2_with fail
  refine (awake01 w1 hg1).mono ?_
  rintro e w2 ⟨rfl, hb2⟩
  go_wp2_with fail
  go_ret
  exact ⟨rfl, hb.trans (hb2.mono hb.size)⟩

set_option maxHeartbeats 1600000 in
set_option maxRecDepth 100000 in
/-- Behind the copy. -/
theorem coinTexts_short (l : List UInt8) (v : Value) (w : World) (hg : Base w) (hx : Hexa w) (hv : Bsl w v l) (hl : l.length ≤ 300) (h0 : l ≠ []) :
    Calls Tryd.prog 5 #[v] w fun e w' => e = .returned (.bool true) ∧ Below w.heap.size w w' := by
  obtain ⟨i0, hi, hz0, hz1, hz2⟩ := info_parts (show (Tryd.prog.info? 5).map (fun i => (i.zero, i.size, i.bytes)) = some (some (.int .u8 0), 1, 1) by kernel_rfl)
  have hsb : decide ((300 : Int) < (l.length : Int)) = false := decide_eq_false (by omega)
  obtain ⟨b, off, cap, rfl, hc⟩ := bsl_cells hv h0
  have HV := Lib.hid hv; clear hv
  have HC := Lib.hid hc; clear hc
  have H0 := Lib.hid h0; clear h0
  go_enter Tryd.func5, Tryd.ntmps5
  go_wp2_with fail
  refine (awake01 w hg).mono ?_
  rintro e w1 ⟨rfl, hb1⟩
  have HC1 := Lib.hid (fun j u (hu : (cs l)[j]? = some u) => cell_below (HC.out j u hu) hb1); clear HC
  have HV1 := Lib.hid (HV.out.below hb1)
  go_wp2_with (at_builtin; go_must (refine wpList_append_own _ rfl _ _ 23 rfl w1.heap.size 5 i0 (.int .u8 0) 1 1 Tryd.underlying23 hi hz0 hz1 hz2 rfl (by decide) _ 0 [] rfl (World.ownsRow_made w1 #[] 0 (Nat.le_refl _) (by unfold maxLen; omega) rfl) ⟨b, off, none⟩ l.length cap (cs l) rfl (by rw [cs_length, Nat.mul_one]) (fun j u hu => cell_below (HC1.out j u hu) ((Below.refl _ _).alloc (Nat.le_refl _) _)) (cs_one l) (by unfold maxLen; omega) (by omega) (by simp) ?_))
  intro v2 w2 own2 hgrow _
  have b2 : Bsl w2 v2 l := Bsl.owns own2
  have bel2 : Below w.heap.size w w2 := (hb1.alloc hb1.size _).grown hgrow (by have := hb1.size; simp; omega) (fun k hk => by simp [Value.ownBlock] at hk; subst hk; exact hb1.size)
  have HV2 := Lib.hid (HV.out.below bel2)
  clear own2 hgrow HC1 HV1 hb1
  have hg2 := hg.below bel2
  have hx2 := hx.below bel2
  have HR := Lib.hid (text_read alpha64 l)
  have HRX := Lib.hid (text_read alpha16 l)
  have h6 := txt_len alpha64 l
  have h4 := txt_len alpha16 l
  have T1 := Lib.hid (text_any l v2 w2 hg2 b2 (by omega))
  have T2 := Lib.hid (fun w hx hv => Cn.hex_any l v2 w hx hv (by omega))
  have T3 := Lib.hid (fun w hg => bytes_any ⟨(txt sg64 6 l).toArray⟩ w hg (by simp [ByteArray.size]; omega))
  have T4 := Lib.hid (fun w hg => unhex_any ⟨(txt sg16 4 l).toArray⟩ w hg (by simp [ByteArray.size]; omega))
  have T5 := Lib.hid (fun w hv => refText_any l (.slice (some ⟨b, off, none⟩) l.length cap) w hv (by omega))
  have T6 := Lib.hid (fun w hv => refHex_any l (.slice (some ⟨b, off, none⟩) l.length cap) w hv (by omega))
  rw [HR.out] at T3
  rw [HRX.out] at T4
  clear HR HRX h6 h4
  generalize (⟨(txt sg64 6 l).toArray⟩ : ByteArray) = S at *
  generalize (⟨(txt sg16 4 l).toArray⟩ : ByteArray) = X at *
  go_wp2_with fail
  refine T1.out.mono ?_
  rintro e w3 ⟨rfl, hb3⟩
  have hx3 := hx2.below hb3
  have hg3 := hg2.below hb3
  have b3 := b2.below hb3
  have HV3 := Lib.hid (HV2.out.below hb3)
  have bel3 := bel2.trans (hb3.mono bel2.size)
  clear hb3 hx2 hg2 b2 bel2 HV2 T1
  go_wp2_with fail
  refine (T2.out w3 hx3 b3).mono ?_
  rintro e w4 ⟨rfl, hb4⟩
  have hx4 := hx3.below hb4
  have hg4 := hg3.below hb4
  have b4 := b3.below hb4
  have HV4 := Lib.hid (HV3.out.below hb4)
  have bel4 := bel3.trans (hb4.mono bel3.size)
  clear hb4 hx3 hg3 b3 bel3 HV3 T2
  go_wp2_with fail
  refine (T3.out w4 hg4).mono ?_
  rintro e w5 ⟨vx, rfl, bx, hb5⟩
  have hx5 := hx4.below hb5
  have b5 := b4.below hb5
  have HV5 := Lib.hid (HV4.out.below hb5)
  have bel5 := bel4.trans (hb5.mono bel4.size)
  clear hb5 hx4 hg4 b4 bel4 HV4 T3
  go_wp2_with fail
  refine (T4.out w5 hx5).mono ?_
  rintro e w6 ⟨vy, rfl, by6, hb6⟩
  have bx6 := bx.below hb6
  have b6' := b5.below hb6
  have HV6 := Lib.hid (HV5.out.below hb6)
  have bel6 := bel5.trans (hb6.mono bel5.size)
  clear hb6 hx5 b5 bel5 HV5 T4 bx
  go_wp2_with fail
  refine (T5.out w6 HV6.out).mono ?_
  rintro e w7 ⟨rfl, hb7⟩
  have bx7 := bx6.below hb7
  have by7 := by6.below hb7
  have b7 := b6'.below hb7
  have HV7 := Lib.hid (HV6.out.below hb7)
  have bel7 := bel6.trans (hb7.mono bel6.size)
  clear hb7 b6' bel6 HV6 T5 bx6 by6
  go_wp2_with fail
  refine (T6.out w7 HV7.out).mono ?_
  rintro e w8 ⟨rfl, hb8⟩
  have c1 := conv_bsl (bx7.below hb8)
  have c2 := conv_bsl (by7.below hb8)
  have c3 := conv_bsl (b7.below hb8)
  have c4 := conv_bsl (HV7.out.below hb8)
  have bel8 := bel7.trans (hb8.mono bel7.size)
  clear hb8 b7 bel7 HV7 T6 bx7 by7
  go_wp2_with fail
  go_ret
  exact ⟨rfl, bel8⟩

set_option maxHeartbeats 1600000 in
set_option maxRecDepth 100000 in
/-- No bytes. -/
theorem coinTexts_none (v : Value) (w : World) (hg : Base w) (hx : Hexa w) (hv : Bsl w v []) :
    Calls Tryd.prog 5 #[v] w fun e w' => e = .returned (.bool true) ∧ Below w.heap.size w w' := by
  obtain ⟨i0, hi, hz0, hz1, hz2⟩ := info_parts (show (Tryd.prog.info? 5).map (fun i => (i.zero, i.size, i.bytes)) = some (some (.int .u8 0), 1, 1) by kernel_rfl)
  obtain ⟨l, hl0⟩ : ∃ l : List UInt8, l = [] := ⟨_, rfl⟩
  have hl : l.length ≤ 300 := by rw [hl0]; decide
  have HV := Lib.hid hv; clear hv
  rw [← hl0] at HV
  obtain ⟨a, cap, rfl, _, _⟩ := HV.out
  have hlen : l.length = 0 := by rw [hl0]; rfl
  rw [hlen] at HV ⊢
  clear hlen hl0
  go_enter Tryd.func5, Tryd.ntmps5
  go_wp2_with fail
  refine (awake01 w hg).mono ?_
  rintro e w1 ⟨rfl, hb1⟩
  go_wp2_with (at_builtin; go_must (refine Vo.wpList_append_zero _ rfl _ _ 23 rfl 5 i0 Tryd.underlying23 hi _ _ 0 0 cap rfl rfl (Nat.le_refl _) ?_))
  have bel2 : Below w.heap.size w (w1.alloc (.cells #[] 5)) := hb1.alloc hb1.size _
  have HV2 := Lib.hid (HV.out.below bel2)
  have b2 : Bsl (w1.alloc (.cells #[] 5)) (.slice (some ⟨w1.heap.size, 0, none⟩) 0 0) l := by
    obtain ⟨_, _, h9, _, _⟩ := HV.out
    injection h9 with _ h9 _
    exact ⟨_, 0, by rw [← h9], by omega, fun j hj => by omega⟩
  generalize (Value.slice (some ⟨w1.heap.size, 0, none⟩) 0 0) = v2 at *
  generalize (w1.alloc (.cells #[] 5)) = w2 at *
  have hg2 := hg.below bel2
  have hx2 := hx.below bel2
  have HR := Lib.hid (text_read alpha64 l)
  have HRX := Lib.hid (text_read alpha16 l)
  have h6 := txt_len alpha64 l
  have h4 := txt_len alpha16 l
  have T1 := Lib.hid (text_any l v2 w2 hg2 b2 (by omega))
  have T2 := Lib.hid (fun w hx hv => Cn.hex_any l v2 w hx hv (by omega))
  have T3 := Lib.hid (fun w hg => bytes_any ⟨(txt sg64 6 l).toArray⟩ w hg (by simp [ByteArray.size]; omega))
  have T4 := Lib.hid (fun w hg => unhex_any ⟨(txt sg16 4 l).toArray⟩ w hg (by simp [ByteArray.size]; omega))
  have T5 := Lib.hid (fun w hv => refText_any l (.slice a 0 cap) w hv (by omega))
  have T6 := Lib.hid (fun w hv => refHex_any l (.slice a 0 cap) w hv (by omega))
  rw [HR.out] at T3
  rw [HRX.out] at T4
  clear HR HRX h6 h4
  generalize (⟨(txt sg64 6 l).toArray⟩ : ByteArray) = S at *
  generalize (⟨(txt sg16 4 l).toArray⟩ : ByteArray) = X at *
  go_wp2_with fail
  refine T1.out.mono ?_
  rintro e w3 ⟨rfl, hb3⟩
  have hx3 := hx2.below hb3
  have hg3 := hg2.below hb3
  have b3 := b2.below hb3
  have HV3 := Lib.hid (HV2.out.below hb3)
  have bel3 := bel2.trans (hb3.mono bel2.size)
  clear hb3 hx2 hg2 b2 bel2 HV2 T1
  go_wp2_with fail
  refine (T2.out w3 hx3 b3).mono ?_
  rintro e w4 ⟨rfl, hb4⟩
  have hx4 := hx3.below hb4
  have hg4 := hg3.below hb4
  have b4 := b3.below hb4
  have HV4 := Lib.hid (HV3.out.below hb4)
  have bel4 := bel3.trans (hb4.mono bel3.size)
  clear hb4 hx3 hg3 b3 bel3 HV3 T2
  go_wp2_with fail
  refine (T3.out w4 hg4).mono ?_
  rintro e w5 ⟨vx, rfl, bx, hb5⟩
  have hx5 := hx4.below hb5
  have b5 := b4.below hb5
  have HV5 := Lib.hid (HV4.out.below hb5)
  have bel5 := bel4.trans (hb5.mono bel4.size)
  clear hb5 hx4 hg4 b4 bel4 HV4 T3
  go_wp2_with fail
  refine (T4.out w5 hx5).mono ?_
  rintro e w6 ⟨vy, rfl, by6, hb6⟩
  have bx6 := bx.below hb6
  have b6' := b5.below hb6
  have HV6 := Lib.hid (HV5.out.below hb6)
  have bel6 := bel5.trans (hb6.mono bel5.size)
  clear hb6 hx5 b5 bel5 HV5 T4 bx
  go_wp2_with fail
  refine (T5.out w6 HV6.out).mono ?_
  rintro e w7 ⟨rfl, hb7⟩
  have bx7 := bx6.below hb7
  have by7 := by6.below hb7
  have b7 := b6'.below hb7
  have HV7 := Lib.hid (HV6.out.below hb7)
  have bel7 := bel6.trans (hb7.mono bel6.size)
  clear hb7 b6' bel6 HV6 T5 bx6 by6
  go_wp2_with fail
  refine (T6.out w7 HV7.out).mono ?_
  rintro e w8 ⟨rfl, hb8⟩
  have c1 := conv_bsl (bx7.below hb8)
  have c2 := conv_bsl (by7.below hb8)
  have c3 := conv_bsl (b7.below hb8)
  have c4 := conv_bsl (HV7.out.below hb8)
  have bel8 := bel7.trans (hb8.mono bel7.size)
  clear hb8 b7 bel7 HV7 T6 bx7 by7
  go_wp2_with fail
  go_ret
  exact ⟨rfl, bel8⟩

theorem coinTexts_any (l : List UInt8) (v : Value) (w : World) (hg : Base w) (hx : Hexa w) (hv : Bsl w v l) (hm : l.length ≤ 9223372036854775807) :
    Calls Tryd.prog 5 #[v] w fun e w' => e = .returned (.bool true) ∧ Below w.heap.size w w' := by
  by_cases hs : l.length ≤ 300
  · by_cases h0 : l = []
    · subst h0
      exact coinTexts_none v w hg hx hv
    · exact coinTexts_short l v w hg hx hv hs h0
  · exact coinTexts_long l v w hg hv hs hm
end Go.Proofs.YtckkjcicjfnadaaDoor.CnT
