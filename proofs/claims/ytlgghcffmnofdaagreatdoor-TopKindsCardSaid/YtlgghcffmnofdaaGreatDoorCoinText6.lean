/-
  The walk of (coin.code).text at an alphabet of 6 bits: bytes in its signs.
-/
import Derived.Test.YtlgghcffmnofdaaGreatDoorCoinPlain
import Derived.Test.YtlgghcffmnofdaaGreatDoorShelf
import Derived.Test.YtlgghcffmnofdaaGreatDoorBuilder
import Derived.Test.YtlgghcffmnofdaaGreatDoorVoc
import Derived.BigQuiet
import Derived.Deep.QuietTactic
import Derived.StillTailTactics
import Derived.Lib.Walk
import Derived.Lib.Hide
import Derived.WalkSpells
namespace Go.Proofs.YtlgghcffmnofdaaGreatDoor.Cn
open Go.RowKit

set_option maxHeartbeats 1600000 in
set_option maxRecDepth 100000 in
theorem text6_any (sg : ByteArray) (l : List UInt8) (v : Value) (w : World) (hv : Bsl w v l) (hl : l.length ≤ 1000000) (hsg : sg.size = 2 ^ 6) :
    Calls Tryz.prog 87 #[.agg #[.string sg, .int .i64 6], v] w fun e w' => e = .returned (.string ⟨(enc sg.data.toList 6 (4 * l.length + 1) l 0 0 []).toArray⟩) ∧ Below w.heap.size w w' := by
  obtain ⟨ad, cap, rfl, _, hc⟩ := hv
  have HC := Lib.hid hc; clear hc
  go_enter Tryz.func87, Tryz.ntmps87
  go_wp2
  go_loopw [6, 7, 12] (fun h n i wr => ∃ (k held m f : Nat) (out : List UInt8), k ≤ l.length ∧ i = .int .i64 k ∧ h = .int .i64 held ∧ n = .int .i64 m ∧ wr.heap[w.heap.size]? = some (.cells #[.string sg, .int .i64 6] 160 (0, 0)) ∧
        Lib.IsBuilder 211 5 (w.heap.size + 1) (w.heap.size + 1) (cs out) wr ∧ Below w.heap.size w wr ∧ m < 6 ∧ m % 2 = 0 ∧ held < 2 ^ m ∧ out.length + 3 * (l.length - k) < 4000000 ∧ 12 * (l.length - k) + m < 4 * f ∧ Hid (enc sg.data.toList 6 f (l.drop k) held m out = enc sg.data.toList 6 (4 * l.length + 1) l 0 0 [])) (fun _ _ i _ => l.length - (intOf i).toNat)
  case atStart =>
    refine ⟨0, 0, 0, 4 * l.length + 1, [], Nat.zero_le _, rfl, rfl, rfl, heap_alloc2_old w _ _, ?_, ((Below.refl _ _).alloc (Nat.le_refl _) _).alloc (by simp) _, by decide, rfl, by decide, by simp; omega, by omega, by simp [Hid]⟩
    exact .inl ⟨Nat.le_refl _, _, heap_alloc2_new w _ _, World.ownsRow_nil _ _ _ _, by simp [Value.ownBlock]⟩
  case round =>
    obtain ⟨k, held, m, f, out, hk, rfl, rfl, rfl, hb0, hB, hbel, hm, hmg, hheld, hout, hf, HD⟩ := hrel
    by_cases hp : k < l.length
    · obtain ⟨bb, off, rfl, hcell0⟩ := HC.out k hp
      have hcell : wr.cell? ⟨bb, off + k, none⟩ = some (.int .u8 (l[k]'hp).toNat) := (hbel.cell (p := ⟨bb, off + k, none⟩) (World.block_lt_of_cell? w _ hcell0)).trans hcell0
      have hby : (l[k]'hp).toNat < 256 := (l[k]'hp).toNat_lt
      clear hcell0
      have hst : l.drop k = l[k] :: l.drop (k + 1) := List.drop_eq_getElem_cons hp
      obtain ⟨f, rfl⟩ : ∃ f', f = f' + 1 := ⟨f - 1, by omega⟩
      have HD' : enc sg.data.toList 6 f (l.drop (k + 1)) (held * 256 + (l[k]'hp).toNat) (m + 8) out = enc sg.data.toList 6 (4 * l.length + 1) l 0 0 [] := by
        have h9 := HD.out
        rw [hst] at h9
        exact (enc_byte (by omega)).symm.trans h9
      clear HD hst
      have hh : held < 64 := Nat.lt_of_lt_of_le hheld (Nat.pow_le_pow_right (by decide) (show m ≤ 6 by omega))
      obtain ⟨x, hx⟩ : ∃ x, x = held * 256 + (l[k]'hp).toNat := ⟨_, rfl⟩
      have hor : bits .or .i64 ((held : Int) * 256) ((l[k]'hp).toNat : Int) = (x : Int) := by
        have := Vo.or_i64 8 (held * 256) (l[k]'hp).toNat (by omega) (by omega) (by omega) (by omega)
        rw [hx]; simpa using this
      have hxm : x < 2 ^ (m + 8) := by
        have : 2 ^ (m + 8) = 2 ^ m * 256 := by rw [Nat.pow_add]
        rw [this]
        have : held * 256 + 256 ≤ 2 ^ m * 256 := by have := Nat.mul_le_mul_right 256 (show held + 1 ≤ 2 ^ m from hheld); omega
        omega
      rw [← hx] at HD'
      have HD := Lib.hid HD'; clear HD' hx hheld
      have HXM := Lib.hid hxm; clear hxm
      go_wp2_with fail
      clear hcell hor
      go_loopw [6, 7] (fun h n wr => ∃ (held m f : Nat) (out : List UInt8), h = .int .i64 held ∧ n = .int .i64 m ∧ wr.heap[w.heap.size]? = some (.cells #[.string sg, .int .i64 6] 160 (0, 0)) ∧
        Lib.IsBuilder 211 5 (w.heap.size + 1) (w.heap.size + 1) (cs out) wr ∧ Below w.heap.size w wr ∧ m < 14 ∧ m % 2 = 0 ∧ Hid (held < 2 ^ m) ∧ out.length + 3 * (l.length - (k + 1)) + m / 6 < 4000000 ∧ 12 * (l.length - (k + 1)) + m < 4 * f ∧ Hid (enc sg.data.toList 6 f (l.drop (k + 1)) held m out = enc sg.data.toList 6 (4 * l.length + 1) l 0 0 [])) (fun _ n _ => (intOf n).toNat)
      case atStart => exact ⟨x, m + 8, f, out, rfl, by go_num, hb0, hB, hbel, by omega, by omega, HXM, by omega, by omega, HD⟩
      case round =>
        clear hb0 hB hbel HD HXM hm hmg hout hf hh
        obtain ⟨held, m, f, out, rfl, rfl, hb0, hB, hbel, hm, hmg, HXM, hout, hf, HD⟩ := hrel
        have c1 : wr.cell? ⟨w.heap.size, 1, none⟩ = some (.int .i64 6) := by rw [Lib.cell_of_heap hb0]; rfl
        by_cases hge : 6 ≤ m
        · have c0 : wr.cell? ⟨w.heap.size, 0, none⟩ = some (.string sg) := by rw [Lib.cell_of_heap hb0]; rfl
          have hgeb : decide ((6 : Int) ≤ (m : Int)) = true := decide_eq_true (by omega)
          obtain ⟨f, rfl⟩ : ∃ f', f = f' + 1 := ⟨f - 1, by omega⟩
          have HD' := (enc_emit hge).symm.trans HD.out; clear HD
          have hms : m = 6 ∨ m = 8 ∨ m = 10 ∨ m = 12 := by omega
          rcases hms with rfl | rfl | rfl | rfl
          · have hx8 : held < 64 := HXM.out
            have hand : bits .and .i64 (held : Int) 0 = ((held % 1 : Nat) : Int) := by have := Vo.and_i64 0 (by decide) held (by omega); simpa using this
            have HF := Lib.hid HD'; clear HD'
            have hix := fun w => Vo.run_index_string Tryz.underlying9 sg .i64 ((held : Int)) (by omega) (by omega) w
            have ec : ((held : Int)).toNat = held / 1 := by omega
            rw [ec] at hix
            generalize hcc : (sg.data.toList.getD (held / 1) 0) = cc at hix
            have HCC := Lib.hid hcc; clear hcc ec
            go_wp2_with fail
            go_still_tail 6, (by kernel_rfl)
            change wpList _ _ _ _ _ wr.drew
            go_wp2_with fail
            refine (Bu.writeByte (w.heap.size + 1) (w.heap.size + 1) (cs out) _ wr.drew hB (by rw [cs_length]; omega) (by simp; have := hbel.size; have := Vo.heap_lt hb0; omega)).mono ?_
            rintro e w1 ⟨rfl, hB1, hbe⟩
            have d0 : w1.heap[w.heap.size]? = some (.cells #[.string sg, .int .i64 6] 160 (0, 0)) := (hbe.block w.heap.size (by omega)).trans hb0
            have bel1 : Below w.heap.size w w1 := (Below.drew hbel).trans (hbe.mono (by omega))
            clear hb0 hB hbel hbe c0 c1 hix
            go_wp2_with fail
            go_roundw
            case rel => exact ⟨held % 1, 0, f, out ++ [cc], by go_num, by go_num, d0, by rw [cs_append]; exact .inr hB1, bel1, by omega, by omega, (Nat.mod_lt _ (by decide) : held % 1 < 1), by simp; omega, by omega, by have h9 := HF.out; rw [HCC.out] at h9; exact h9⟩
            case measure => simp [intOf]
          · have hx8 : held < 256 := HXM.out
            have hand : bits .and .i64 (held : Int) 3 = ((held % 4 : Nat) : Int) := by have := Vo.and_i64 2 (by decide) held (by omega); simpa using this
            have HF := Lib.hid HD'; clear HD'
            have hix := fun w => Vo.run_index_string Tryz.underlying9 sg .i64 ((held : Int) / 4) (by omega) (by omega) w
            have ec : ((held : Int) / 4).toNat = held / 4 := by omega
            rw [ec] at hix
            generalize hcc : (sg.data.toList.getD (held / 4) 0) = cc at hix
            have HCC := Lib.hid hcc; clear hcc ec
            go_wp2_with fail
            go_still_tail 6, (by kernel_rfl)
            change wpList _ _ _ _ _ wr.drew
            go_wp2_with fail
            refine (Bu.writeByte (w.heap.size + 1) (w.heap.size + 1) (cs out) _ wr.drew hB (by rw [cs_length]; omega) (by simp; have := hbel.size; have := Vo.heap_lt hb0; omega)).mono ?_
            rintro e w1 ⟨rfl, hB1, hbe⟩
            have d0 : w1.heap[w.heap.size]? = some (.cells #[.string sg, .int .i64 6] 160 (0, 0)) := (hbe.block w.heap.size (by omega)).trans hb0
            have bel1 : Below w.heap.size w w1 := (Below.drew hbel).trans (hbe.mono (by omega))
            clear hb0 hB hbel hbe c0 c1 hix
            go_wp2_with fail
            go_roundw
            case rel => exact ⟨held % 4, 2, f, out ++ [cc], by go_num, by go_num, d0, by rw [cs_append]; exact .inr hB1, bel1, by omega, by omega, (Nat.mod_lt _ (by decide) : held % 4 < 4), by simp; omega, by omega, by have h9 := HF.out; rw [HCC.out] at h9; exact h9⟩
            case measure => simp [intOf]
          · have hx8 : held < 1024 := HXM.out
            have hand : bits .and .i64 (held : Int) 15 = ((held % 16 : Nat) : Int) := by have := Vo.and_i64 4 (by decide) held (by omega); simpa using this
            have HF := Lib.hid HD'; clear HD'
            have hix := fun w => Vo.run_index_string Tryz.underlying9 sg .i64 ((held : Int) / 16) (by omega) (by omega) w
            have ec : ((held : Int) / 16).toNat = held / 16 := by omega
            rw [ec] at hix
            generalize hcc : (sg.data.toList.getD (held / 16) 0) = cc at hix
            have HCC := Lib.hid hcc; clear hcc ec
            go_wp2_with fail
            go_still_tail 6, (by kernel_rfl)
            change wpList _ _ _ _ _ wr.drew
            go_wp2_with fail
            refine (Bu.writeByte (w.heap.size + 1) (w.heap.size + 1) (cs out) _ wr.drew hB (by rw [cs_length]; omega) (by simp; have := hbel.size; have := Vo.heap_lt hb0; omega)).mono ?_
            rintro e w1 ⟨rfl, hB1, hbe⟩
            have d0 : w1.heap[w.heap.size]? = some (.cells #[.string sg, .int .i64 6] 160 (0, 0)) := (hbe.block w.heap.size (by omega)).trans hb0
            have bel1 : Below w.heap.size w w1 := (Below.drew hbel).trans (hbe.mono (by omega))
            clear hb0 hB hbel hbe c0 c1 hix
            go_wp2_with fail
            go_roundw
            case rel => exact ⟨held % 16, 4, f, out ++ [cc], by go_num, by go_num, d0, by rw [cs_append]; exact .inr hB1, bel1, by omega, by omega, (Nat.mod_lt _ (by decide) : held % 16 < 16), by simp; omega, by omega, by have h9 := HF.out; rw [HCC.out] at h9; exact h9⟩
            case measure => simp [intOf]
          · have hx8 : held < 4096 := HXM.out
            have hand : bits .and .i64 (held : Int) 63 = ((held % 64 : Nat) : Int) := by have := Vo.and_i64 6 (by decide) held (by omega); simpa using this
            have HF := Lib.hid HD'; clear HD'
            have hix := fun w => Vo.run_index_string Tryz.underlying9 sg .i64 ((held : Int) / 64) (by omega) (by omega) w
            have ec : ((held : Int) / 64).toNat = held / 64 := by omega
            rw [ec] at hix
            generalize hcc : (sg.data.toList.getD (held / 64) 0) = cc at hix
            have HCC := Lib.hid hcc; clear hcc ec
            go_wp2_with fail
            go_still_tail 6, (by kernel_rfl)
            change wpList _ _ _ _ _ wr.drew
            go_wp2_with fail
            refine (Bu.writeByte (w.heap.size + 1) (w.heap.size + 1) (cs out) _ wr.drew hB (by rw [cs_length]; omega) (by simp; have := hbel.size; have := Vo.heap_lt hb0; omega)).mono ?_
            rintro e w1 ⟨rfl, hB1, hbe⟩
            have d0 : w1.heap[w.heap.size]? = some (.cells #[.string sg, .int .i64 6] 160 (0, 0)) := (hbe.block w.heap.size (by omega)).trans hb0
            have bel1 : Below w.heap.size w w1 := (Below.drew hbel).trans (hbe.mono (by omega))
            clear hb0 hB hbel hbe c0 c1 hix
            go_wp2_with fail
            go_roundw
            case rel => exact ⟨held % 64, 6, f, out ++ [cc], by go_num, by go_num, d0, by rw [cs_append]; exact .inr hB1, bel1, by omega, by omega, (Nat.mod_lt _ (by decide) : held % 64 < 64), by simp; omega, by omega, by have h9 := HF.out; rw [HCC.out] at h9; exact h9⟩
            case measure => simp [intOf]
        · have hgeb : decide ((6 : Int) ≤ (m : Int)) = false := decide_eq_false (by omega)
          go_wp2_with fail
          go_roundw
          case rel => exact ⟨k + 1, held, m, f, out, by omega, by go_num, rfl, rfl, hb0, hB, hbel, by omega, hmg, HXM.out, by omega, by omega, HD⟩
          case measure => simp [intOf]; omega
    · obtain ⟨f, rfl⟩ : ∃ f', f = f' + 1 := ⟨f - 1, by omega⟩
      have hd : l.drop k = [] := List.drop_eq_nil_of_le (by omega)
      have HD' := HD.out; clear HD
      rw [hd, enc_nil (by omega)] at HD'
      by_cases hm0 : 0 < m
      · have hm0b : decide (0 < (m : Int)) = true := decide_eq_true (by omega)
        have c1 : wr.cell? ⟨w.heap.size, 1, none⟩ = some (.int .i64 6) := by rw [Lib.cell_of_heap hb0]; rfl
        have c0 : wr.cell? ⟨w.heap.size, 0, none⟩ = some (.string sg) := by rw [Lib.cell_of_heap hb0]; rfl
        rw [if_pos hm0] at HD'
        have hms : m = 2 ∨ m = 4 := by omega
        rcases hms with rfl | rfl
        · have hx8 : held < 4 := hheld
          have HF := Lib.hid HD'; clear HD' hd hheld
          have hix := fun w => Vo.run_index_string Tryz.underlying9 sg .i64 ((held : Int) * 16) (by omega) (by omega) w
          have ec : ((held : Int) * 16).toNat = held * 16 := by omega
          rw [ec] at hix
          generalize hcc : (sg.data.toList.getD (held * 16) 0) = cc at hix
          have HCC := Lib.hid hcc; clear hcc ec
          go_wp2_with fail
          have hw1 : IntKind.i64.wrap 4 = 4 := Vo.i64_wraps _ (by decide) (by decide)
          have hw2 : IntKind.i64.wrap ((held : Int) * 16) = (held : Int) * 16 := Vo.i64_wraps _ (by omega) (by omega)
          go_still_tail 9, (by kernel_rfl)
          clear hw1 hw2
          change wpList _ _ _ _ _ wr.drew
          go_wp2_with fail
          refine (Bu.writeByte (w.heap.size + 1) (w.heap.size + 1) (cs out) _ wr.drew hB (by rw [cs_length]; omega) (by simp; have := hbel.size; have := Vo.heap_lt hb0; omega)).mono ?_
          rintro e w1 ⟨rfl, hB1, hbe⟩
          have d0 : w1.heap[w.heap.size]? = some (.cells #[.string sg, .int .i64 6] 160 (0, 0)) := (hbe.block w.heap.size (by omega)).trans hb0
          have bel1 : Below w.heap.size w w1 := (Below.drew hbel).trans (hbe.mono (by omega))
          go_wp2_with fail
          refine (Tryz.Builder_String_any (w.heap.size + 1) (w.heap.size + 1) (out ++ [cc]) _ (by rw [show Lib.byteCells (out ++ [cc]) = cs (out ++ [cc]) from rfl, cs_append]; exact .inr hB1) (by have := bel1.size; have := Vo.heap_lt d0; omega)).mono ?_
          rintro e w2 ⟨rfl, hbe2⟩
          go_wp2_with fail
          go_ret
          exact ⟨by have h9 := HF.out; rw [HCC.out] at h9; rw [← h9]; rfl, bel1.trans (hbe2.mono (by omega))⟩
        · have hx8 : held < 16 := hheld
          have HF := Lib.hid HD'; clear HD' hd hheld
          have hix := fun w => Vo.run_index_string Tryz.underlying9 sg .i64 ((held : Int) * 4) (by omega) (by omega) w
          have ec : ((held : Int) * 4).toNat = held * 4 := by omega
          rw [ec] at hix
          generalize hcc : (sg.data.toList.getD (held * 4) 0) = cc at hix
          have HCC := Lib.hid hcc; clear hcc ec
          go_wp2_with fail
          have hw1 : IntKind.i64.wrap 2 = 2 := Vo.i64_wraps _ (by decide) (by decide)
          have hw2 : IntKind.i64.wrap ((held : Int) * 4) = (held : Int) * 4 := Vo.i64_wraps _ (by omega) (by omega)
          go_still_tail 9, (by kernel_rfl)
          clear hw1 hw2
          change wpList _ _ _ _ _ wr.drew
          go_wp2_with fail
          refine (Bu.writeByte (w.heap.size + 1) (w.heap.size + 1) (cs out) _ wr.drew hB (by rw [cs_length]; omega) (by simp; have := hbel.size; have := Vo.heap_lt hb0; omega)).mono ?_
          rintro e w1 ⟨rfl, hB1, hbe⟩
          have d0 : w1.heap[w.heap.size]? = some (.cells #[.string sg, .int .i64 6] 160 (0, 0)) := (hbe.block w.heap.size (by omega)).trans hb0
          have bel1 : Below w.heap.size w w1 := (Below.drew hbel).trans (hbe.mono (by omega))
          go_wp2_with fail
          refine (Tryz.Builder_String_any (w.heap.size + 1) (w.heap.size + 1) (out ++ [cc]) _ (by rw [show Lib.byteCells (out ++ [cc]) = cs (out ++ [cc]) from rfl, cs_append]; exact .inr hB1) (by have := bel1.size; have := Vo.heap_lt d0; omega)).mono ?_
          rintro e w2 ⟨rfl, hbe2⟩
          go_wp2_with fail
          go_ret
          exact ⟨by have h9 := HF.out; rw [HCC.out] at h9; rw [← h9]; rfl, bel1.trans (hbe2.mono (by omega))⟩
      · obtain rfl : m = 0 := by omega
        rw [if_neg (by decide)] at HD'
        have HF := Lib.hid HD'; clear HD' hd hheld
        go_wp2_with fail
        refine (Tryz.Builder_String_any (w.heap.size + 1) (w.heap.size + 1) out _ hB (by have := hbel.size; have := Vo.heap_lt hb0; omega)).mono ?_
        rintro e w1 ⟨rfl, hbe⟩
        go_wp2_with fail
        go_ret
        exact ⟨by rw [← HF.out]; rfl, hbel.trans (hbe.mono (by omega))⟩
end Go.Proofs.YtlgghcffmnofdaaGreatDoor.Cn
