/-
  The fixed fact of the top's statements: a ring without keys reads nothing.
-/
import Derived.Test.YtlgghcffmnofdaaGreatDoorRing
import Derived.BigQuiet
import Derived.WalkSmall
namespace Go.Proofs.YtlgghcffmnofdaaGreatDoor.Ke
open Go Go.RowKit Go.Proofs.YtlgghcffmnofdaaGreatDoor.Cn
set_option maxRecDepth 100000

def t4aa : ByteArray := ⟨#[65, 65, 65, 65, 46, 65, 65]⟩
def h31 : ByteArray := ⟨#[118, 51, 46, 108, 111, 99, 97, 108, 46]⟩
def h41 : ByteArray := ⟨#[118, 52, 46, 108, 111, 99, 97, 108, 46]⟩
def h43 : ByteArray := ⟨#[118, 52, 46, 112, 117, 98, 108, 105, 99, 46]⟩
def tok : ByteArray := ⟨#[118, 52, 46, 108, 111, 99, 97, 108, 46, 65, 65, 65, 65, 46, 65, 65]⟩

theorem lhead_43 (w : World) : Calls Tryz.prog 29 #[.int .i64 4, .int .i64 3] w fun e w' => e = .returned (.string h43) ∧ Below w.heap.size w w' := by
  go_enter Tryz.func29, Tryz.ntmps29
  go_wp2_with fail
  refine (itoa4 _).mono ?_
  rintro e w1 ⟨rfl, hb⟩
  go_wp2_with fail
  go_returns
  exact ⟨rfl, hb⟩

theorem bsl_set {w : World} {v : Value} {l : List UInt8} {a : Addr} {x : Value} (h : Bsl w v l) (ha : w.cell? a = some x) (hx : ∀ n, x ≠ .int .u8 n) (u : Value) : Bsl (w.setCell a u) v l := by
  obtain ⟨ad, cap, rfl, hle, hc⟩ := h
  refine ⟨ad, cap, rfl, hle, fun j hj => ?_⟩
  obtain ⟨b, off, rfl, h1⟩ := hc j hj
  refine ⟨b, off, rfl, ?_⟩
  rw [World.cell?_setCell_other]
  · exact h1
  · intro e
    subst e
    rw [h1] at ha
    exact hx _ (Option.some.inj ha).symm

structure ORnd (w : World) (k : Nat) (wr : World) : Prop where
  bel : Below w.heap.size w wr
  s0 : wr.cell? ⟨w.heap.size, 0, none⟩ = some (.string ⟨#[65, 65, 65, 65]⟩)
  s1 : wr.cell? ⟨w.heap.size, 1, none⟩ = some (.string ⟨#[65, 65]⟩)
  outs : ∃ x y, wr.cell? ⟨w.heap.size + 1, 0, none⟩ = some x ∧ wr.cell? ⟨w.heap.size + 1, 1, none⟩ = some y ∧ (∀ n, x ≠ .int .u8 n) ∧ (∀ n, y ≠ .int .u8 n) ∧ (k = 2 → Bsl wr y [0])
  thaw : ∀ j, wr.frozen? ⟨w.heap.size + 1, j, none⟩ = false
  ln : (k = 2 → ∃ a c, wr.cell? ⟨w.heap.size + 1, 1, none⟩ = some (.slice a 1 c))

theorem bsl_not {w : World} {v : Value} {l : List UInt8} (h : Bsl w v l) : ∀ n, v ≠ .int .u8 n := by
  obtain ⟨ad, cap, rfl, _, _⟩ := h
  intro n hn
  cases hn

/-- local.Open of the token. -/
theorem lopen_tok (w : World) (hm : Mx w) (hg : Base w) :
    Calls Tryz.prog 28 #[.string h41, .string tok] w fun e w' => ∃ x y, e = .returned (.tuple #[x, y, .int .i64 0]) ∧ Bsl w' y [0] ∧ Below w.heap.size w w' := by
  have HC : Hid (Lib.trimPrefix tok.data.toList h41.data.toList = [65, 65, 65, 65, 46, 65, 65] ∧ Lib.hasPrefix tok.data.toList h41.data.toList = true) := Lib.hid (by decide +kernel)
  generalize tok = T at *
  generalize h41 = H at *
  go_enter Tryz.func28, Tryz.ntmps28
  go_wp2_with fail
  refine (Tryz.strings_CutPrefix T H _).mono ?_
  rintro e w1 ⟨rfl, rfl⟩
  rw [HC.out.1, HC.out.2]
  go_wp2_with fail
  refine (split_few ⟨#[65, 65, 65, 65, 46, 65, 65]⟩ 2 _ hm (by decide) (by decide +kernel) (by decide +kernel)).mono ?_
  rintro e w2 ⟨rfl, rfl⟩
  rw [show (Lib.splitB ⟨#[46]⟩ 0 (Lib.countB ⟨#[65, 65, 65, 65, 46, 65, 65]⟩ ⟨#[46]⟩) ⟨#[65, 65, 65, 65, 46, 65, 65]⟩) = [⟨#[65, 65, 65, 65]⟩, ⟨#[65, 65]⟩] by decide +kernel, show Lib.countB ⟨#[65, 65, 65, 65, 46, 65, 65]⟩ ⟨#[46]⟩ = 1 by decide +kernel]
  go_wp2_with fail
  go_loopw [41] (fun i wr => ∃ k : Nat, k ≤ 2 ∧ i = .int .i64 k ∧ ORnd w1 k wr) (fun i _ => 2 - (intOf i).toNat)
  case atStart =>
    refine ⟨0, by omega, rfl, ?_, ?_, ?_, ⟨.slice none 0 0, .slice none 0 0, ?_, ?_, by simp, by simp, by simp⟩, ?_, by simp⟩
    · go_grown
    · go_simp
    · go_simp
    · go_simp
    · go_simp
    · intro j; go_simp
  case round =>
    obtain ⟨k, hk, rfl, RN⟩ := hrel
    obtain ⟨x, y, ox, oy, nx, ny, hy⟩ := RN.outs
    have hlt := World.block_lt_of_cell? _ _ ox
    have fz := RN.thaw
    obtain rfl | rfl | rfl : k = 0 ∨ k = 1 ∨ k = 2 := by omega
    · have c0 := RN.s0
      have hlt0 := World.block_lt_of_cell? _ _ c0
      go_wp2_with fail
      refine (bytes_any ⟨#[65, 65, 65, 65]⟩ wr (hg.below RN.bel) (by decide)).mono ?_
      rintro e w3 ⟨v, rfl, hv, hb3⟩
      rw [show rdv sg64 6 ⟨#[65, 65, 65, 65]⟩ = ([0, 0, 0], 0) by decide +kernel] at hv ⊢
      have ox3 := cell_below ox hb3
      have oy3 := cell_below oy hb3
      have s03 := cell_below RN.s0 hb3
      have s13 := cell_below RN.s1 hb3
      have bel3 := RN.bel.trans (hb3.mono RN.bel.size)
      have hlt3 := World.block_lt_of_cell? _ _ ox3
      have hz3 := bel3.size
      have fz3 : ∀ j, w3.frozen? ⟨w1.heap.size + 1, j, none⟩ = false := fun j => by rw [hb3.frozen (by simpa using hlt)]; exact fz j
      have hv2 := bsl_set hv (a := ⟨w1.heap.size + 1, 0, none⟩) ox3 nx v
      have hnv := bsl_not hv
      have HV2 := Lib.hid hv2
      obtain ⟨ad, cap, rfl, _, _⟩ := hv
      clear hv2
      have HB := Lib.hid hb3
      have HRN := Lib.hid RN
      clear RN hb3
      go_wp2_with fail
      go_roundw
      case rel =>
        refine ⟨1, by omega, by simp, ?_, ?_, ?_, ?_, ?_, ?_⟩
        · go_grown
        · go_simp
        · go_simp
        · exact ⟨_, _, by go_simp, by go_simp, hnv, ny, by simp⟩
        · intro j; go_simp
        · simp
      case measure => simp [intOf]
    · have c0 := RN.s1
      have hlt0 := World.block_lt_of_cell? _ _ c0
      go_wp2_with fail
      refine (bytes_any ⟨#[65, 65]⟩ wr (hg.below RN.bel) (by decide)).mono ?_
      rintro e w3 ⟨v, rfl, hv, hb3⟩
      rw [show rdv sg64 6 ⟨#[65, 65]⟩ = ([0], 0) by decide +kernel] at hv ⊢
      have ox3 := cell_below ox hb3
      have oy3 := cell_below oy hb3
      have s03 := cell_below RN.s0 hb3
      have s13 := cell_below RN.s1 hb3
      have bel3 := RN.bel.trans (hb3.mono RN.bel.size)
      have hlt3 := World.block_lt_of_cell? _ _ ox3
      have hz3 := bel3.size
      have fz3 : ∀ j, w3.frozen? ⟨w1.heap.size + 1, j, none⟩ = false := fun j => by rw [hb3.frozen (by simpa using hlt)]; exact fz j
      have hv2 := bsl_set hv (a := ⟨w1.heap.size + 1, 1, none⟩) oy3 ny v
      have hnv := bsl_not hv
      have HV2 := Lib.hid hv2
      obtain ⟨ad, cap, rfl, _, _⟩ := hv
      clear hv2
      have HB := Lib.hid hb3
      have HRN := Lib.hid RN
      clear RN hb3
      go_wp2_with fail
      go_roundw
      case rel =>
        refine ⟨2, by omega, by simp, ?_, ?_, ?_, ?_, ?_, ?_⟩
        · go_grown
        · go_simp
        · go_simp
        · exact ⟨_, _, by go_simp, by go_simp, nx, hnv, fun _ => HV2.out⟩
        · intro j; go_simp
        · exact fun _ => ⟨ad, cap, by go_simp⟩
      case measure => simp [intOf]
    · obtain ⟨ad, cap, hyl⟩ := RN.ln rfl
      have hy2 := hy rfl
      rw [oy] at hyl
      obtain rfl := Option.some.inj hyl
      have HY := Lib.hid hy2
      have bel := RN.bel
      clear hyl hy hy2 RN
      go_wp2_with fail
      go_quiet (fail)
      go_wp2_with fail
      go_returns
      exact ⟨x, _, rfl, Bsl.below HY.out (below_drewN (Below.refl _ _) _), below_drewN bel _⟩

theorem footer_tok (w : World) (hm : Mx w) (hg : Base w) :
    Calls Tryz.prog 97 #[.string tok] w fun e w' => ∃ y, e = .returned (.tuple #[y, .int .i64 0]) ∧ Bsl w' y [0] ∧ Below w.heap.size w w' := by
  have P31 : Hid (Lib.hasPrefix tok.data.toList h31.data.toList = false) := Lib.hid (by decide +kernel)
  have P41 : Hid (Lib.hasPrefix tok.data.toList h41.data.toList = true) := Lib.hid (by decide +kernel)
  have HO := Lib.hid lopen_tok
  have H31 : Hid (∀ w, Calls Tryz.prog 29 #[.int .i64 3, .int .i64 1] w fun e w' => e = .returned (.string h31) ∧ Below w.heap.size w w') := Lib.hid lhead_31
  have H41 : Hid (∀ w, Calls Tryz.prog 29 #[.int .i64 4, .int .i64 1] w fun e w' => e = .returned (.string h41) ∧ Below w.heap.size w w') := Lib.hid lhead_41
  have H43 := Lib.hid lhead_43
  generalize tok = T at *
  generalize h41 = H at *
  generalize h31 = H3 at *
  generalize h43 = H4 at *
  go_enter Tryz.func97, Tryz.ntmps97
  go_wp2_with fail
  refine (H31.out _).mono ?_
  rintro e w1 ⟨rfl, hb1⟩
  go_wp2_with fail
  refine (H41.out _).mono ?_
  rintro e w2 ⟨rfl, hb2⟩
  go_wp2_with fail
  refine (H43.out _).mono ?_
  rintro e w3 ⟨rfl, hb3⟩
  have bel := hb1.trans ((hb2.trans (hb3.mono hb2.size)).mono hb1.size)
  clear hb1 hb2 hb3
  go_wp2_with fail
  go_loopw [14] (fun i wr => ∃ k : Nat, k ≤ 1 ∧ i = .int .i64 k ∧ Below w.heap.size w wr ∧ wr.cell? ⟨w3.heap.size, 0, none⟩ = some (.string H3) ∧ wr.cell? ⟨w3.heap.size, 1, none⟩ = some (.string H)) (fun i _ => 1 - (intOf i).toNat)
  case atStart => exact ⟨0, by omega, rfl, by have hz := bel.size; go_grown, by go_simp, by go_simp⟩
  case round =>
    obtain ⟨k, hk, rfl, belr, c0, c1⟩ := hrel
    have hlt := World.block_lt_of_cell? _ _ c0
    have hz := belr.size
    obtain rfl | rfl : k = 0 ∨ k = 1 := by omega
    · go_wp2_with fail
      refine (Tryz.strings_HasPrefix T H3 _).mono ?_
      rintro e w4 ⟨rfl, rfl⟩
      rw [P31.out]
      go_wp2_with fail
      go_roundw
      case rel => exact ⟨1, by omega, by simp, belr, c0, c1⟩
      case measure => simp [intOf]
    · go_wp2_with fail
      refine (Tryz.strings_HasPrefix T H _).mono ?_
      rintro e w4 ⟨rfl, rfl⟩
      rw [P41.out]
      go_wp2_with fail
      refine (HO.out _ (hm.below belr) (hg.below belr)).mono ?_
      rintro e w5 ⟨x, y, rfl, hy, hb5⟩
      have bel5 := belr.trans (hb5.mono hz)
      go_wp2_with fail
      go_returns
      exact ⟨_, rfl, hy, bel5⟩

theorem ringRead_tok (c : Nat) (w : World) (hm : Mx w) (hg : Base w) (h : w.cell? ⟨c, 0, none⟩ = some (.slice none 0 0)) :
    Calls Tryz.prog 56 #[.pointer (some ⟨c, 0, none⟩), .string tok, .slice none 0 0] w fun e w' => e = .returned (.tuple #[.slice none 0 0, .int .i64 16]) ∧ Below w.heap.size w w' := by
  have HO := Lib.hid footer_tok
  generalize tok = T at *
  go_enter Tryz.func56, Tryz.ntmps56
  go_wp2_with fail
  refine (HO.out _ hm hg).mono ?_
  rintro e w1 ⟨y, rfl, hy, hb1⟩
  have hcv := conv_bsl hy
  have h1 := cell_below h hb1
  clear HO
  go_wp2_with fail
  refine (ringGet c _ _ h1).mono ?_
  rintro e w2 ⟨rfl, hb2⟩
  have bel2 := hb1.trans (hb2.mono hb1.size)
  have hz2 := bel2.size
  clear hb1 hb2 hcv h1 h hy
  go_wp2_with fail
  go_returns
  exact ⟨rfl, by go_grown⟩

theorem topAwake (w : World) (hm : Mx w) (hg : Base w) : Calls Tryz.prog 25 #[] w fun e w' => e = .returned (.bool true) ∧ Below w.heap.size w w' := by
  go_enter Tryz.func25, Tryz.ntmps25
  go_wp2_with fail
  refine (ringNew _).mono ?_
  rintro e w1 ⟨c, rfl, hc, hb1⟩
  go_wp2_with fail
  refine (ringRead_tok c _ (hm.below hb1) (hg.below hb1) hc).mono ?_
  rintro e w2 ⟨rfl, hb2⟩
  go_wp2_with fail
  go_returns
  exact ⟨rfl, hb1.trans (hb2.mono hb1.size)⟩
end Go.Proofs.YtlgghcffmnofdaaGreatDoor.Ke
