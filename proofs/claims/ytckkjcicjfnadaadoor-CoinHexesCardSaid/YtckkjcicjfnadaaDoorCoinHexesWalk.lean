/-
  The walk of CoinHexes.
-/
import Derived.Test.YtckkjcicjfnadaaDoorCoinAwake
import Derived.Test.YtckkjcicjfnadaaDoorCoinRefH
import Derived.BigQuiet
import Derived.Deep.QuietTactic
namespace Go.Proofs.YtckkjcicjfnadaaDoor.CnH
open Go.Proofs.YtckkjcicjfnadaaDoor.Cn
open Go.RowKit Go.Proofs.YtckkjcicjfnadaaDoor.PCoinHexes Go.Proofs.YtckkjcicjfnadaaDoorW.PrintWords

theorem bsl_kd {w : World} {base : Nat} {v : Value} {l : List UInt8} (h : Kd.R (Kd.int .u8) 5 w base (fun _ => True) v (ints (by_ l))) : Bsl w v l := by
  have h1 := Kd.own_of_R h
  refine Bsl.owns (base := base) ?_
  have e1 : encs (Value.int .u8) (ints (by_ l)) = cs l := by
    simp only [encs, ints, by_, cs, List.map_map]
    rfl
  have e2 : (ints (by_ l)).length = l.length := by simp [ints, by_]
  rw [e1, e2] at h1
  exact h1

theorem refUnhex_any (s : ByteArray) (w : World) (hs : s.size ≤ 100) :
    Calls Tryd.prog 11 #[.string s] w (ReadPost (rdv sg16 4 s) w) := by
  obtain ⟨k, hk⟩ := refUnhex s (by omega)
  refine (escutcheonref01_Unhex.calls k s _ _ w hk).mono ?_
  rintro e w1 ⟨v, rfl, hv, hb⟩
  exact ⟨v, rfl, bsl_kd hv, hb⟩

set_option maxHeartbeats 1600000 in
set_option maxRecDepth 100000 in
theorem coinHexes_long (s : ByteArray) (w : World) (hg0 : Base w) (hg : Hexa w) (hs : ¬ s.size ≤ 100) :
    Calls Tryd.prog 4 #[.string s] w fun e w' => e = .returned (.bool true) ∧ Below w.heap.size w w' := by
  have hsb : decide ((100 : Int) < (s.size : Int)) = true := decide_eq_true (by omega)
  go_enter Tryd.func4, Tryd.ntmps4
  go_wp2_with fail
  refine (awake01 w hg0).mono ?_
  rintro e w1 ⟨rfl, hb⟩
  have hg1 := hg.below hb
  go_wp2_with fail
  refine (awake01 w1 (hg0.below hb)).mono ?_
  rintro e w2 ⟨rfl, hb2⟩
  go_wp2_with fail
  go_ret
  exact ⟨rfl, hb.trans (hb2.mono hb.size)⟩

set_option maxHeartbeats 1600000 in
set_option maxRecDepth 100000 in
theorem coinHexes_short (s : ByteArray) (w : World) (hg0 : Base w) (hg : Hexa w) (hs : s.size ≤ 100) :
    Calls Tryd.prog 4 #[.string s] w fun e w' => e = .returned (.bool true) ∧ Below w.heap.size w w' := by
  have hsb : decide ((100 : Int) < (s.size : Int)) = false := decide_eq_false (by omega)
  have hrt := read_text alpha16 s
  have hrl : (rdv sg16 4 s).1.length ≤ 1000000 := by have := rdv_len alpha16 s; omega
  have HB := Lib.hid (fun w hg => unhex_any s w hg (show s.size ≤ 1000000 by omega))
  have HR := Lib.hid (fun w => refUnhex_any s w hs)
  generalize rdv sg16 4 s = r at *
  obtain ⟨l, c⟩ := r
  have HT := Lib.hid hrt; clear hrt
  go_enter Tryd.func4, Tryd.ntmps4
  go_wp2_with fail
  refine (awake01 w hg0).mono ?_
  rintro e w1 ⟨rfl, hb1⟩
  have hg1 := hg.below hb1
  go_wp2_with fail
  refine (HB.out w1 hg1).mono ?_
  rintro e w2 ⟨v, rfl, hv, hb2⟩
  have hg2 := hg1.below hb2
  go_wp2_with fail
  refine (HR.out w2).mono ?_
  rintro e w3 ⟨v', rfl, hv', hb3⟩
  have hg3 := hg2.below hb3
  have hv3 := hv.below hb3
  have bel : Below w.heap.size w w3 := hb1.trans ((hb2.mono hb1.size).trans (hb3.mono (Nat.le_trans hb1.size hb2.size)))
  have cv := conv_bsl hv3
  have cv' := conv_bsl hv'
  clear hv hb1 hb2 hb3 hg1 hg2
  by_cases h0 : c = 0
  · subst h0
    have h1 := HT.out rfl
    have HTX := Lib.hid (Cn.hex_any l v w3 hg3 hv3 hrl)
    rw [h1, show (⟨s.data.toList.toArray⟩ : ByteArray) = s from by simp] at HTX
    clear h1
    go_wp2_with fail
    refine HTX.out.mono ?_
    rintro e w4 ⟨rfl, hb4⟩
    go_wp2_with fail
    go_ret
    exact ⟨rfl, bel.trans (hb4.mono bel.size)⟩
  · have hcb : ((c : Int) != 0) = true := by simp; omega
    go_wp2_with fail
    go_ret
    exact ⟨rfl, bel⟩

theorem coinHexes_any (s : ByteArray) (w : World) (hg0 : Base w) (hg : Hexa w) :
    Calls Tryd.prog 4 #[.string s] w fun e w' => e = .returned (.bool true) ∧ Below w.heap.size w w' := by
  by_cases hs : s.size ≤ 100
  · exact coinHexes_short s w hg0 hg hs
  · exact coinHexes_long s w hg0 hg hs
end Go.Proofs.YtckkjcicjfnadaaDoor.CnH
