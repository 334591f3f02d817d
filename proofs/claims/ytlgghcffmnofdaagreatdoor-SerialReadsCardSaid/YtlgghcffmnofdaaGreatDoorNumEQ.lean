/-
  The walks of residue: folded, mul.
-/
import Derived.Deep.RegionHeld3
import Derived.Deep.DeepCutAuto
import Derived.Test.YtlgghcffmnofdaaGreatDoorNumDQ

namespace Go.Proofs.YtlgghcffmnofdaaGreatDoor.Nu
open Go Go.RowKit Go.Proofs.YtlgghcffmnofdaaGreatDoor.Cn
set_option maxRecDepth 100000

theorem run_arr4 (a : Addr) (n c : Nat) (hn : 4 ≤ n) (w : World) : (Instr.arrayAt 150 (.slice (some a) n c)).run Tryz.prog w = .ok (.pointer (some a)) w := by
  have h : ¬ n < 4 := by omega
  simp [Instr.arrayAt, run_underlying Tryz.underlying150, h]

theorem fold_step (l h : Nat) (hl : l < 2 ^ 256) (hh : h < 2 ^ 256) (h0 : h ≠ 0) :
    h * 38 / 2 ^ 256 + (l + h * 38 % 2 ^ 256) / 2 ^ 256 < 2 ^ 64 ∧
    (l + h * 38 % 2 ^ 256) % 2 ^ 256 + 2 ^ 256 * (h * 38 / 2 ^ 256 + (l + h * 38 % 2 ^ 256) / 2 ^ 256) = l + 38 * h ∧ l + 38 * h < l + 2 ^ 256 * h ∧ (l + 38 * h) % pp = (l + 2 ^ 256 * h) % pp := by
  refine ⟨by omega, by omega, by omega, ?_⟩
  have e : l + 2 ^ 256 * h = (l + 38 * h) + pp * (2 * h) := by unfold pp; omega
  rw [e, Nat.add_mul_mod_self_left]

structure FRnd (w : World) (x L H l h : Nat) (wr : World) : Prop where
  bel : Below w.heap.size w wr
  ro : Wd wr (w.heap.size + 1) 4 (fun _ => 0)
  rl : Wd wr L 4 (lim l)
  rh : Wd wr H 4 (lim h)
  ne : L ≠ H
  gl : w.heap.size + 1 < L
  gh : w.heap.size + 1 < H
  hl : l < 2 ^ 256
  hh : h < 2 ^ 256
  eq : (l + 2 ^ 256 * h) % pp = x % pp
theorem FRnd.below {w wr w' : World} {x L H l h : Nat} (k : FRnd w x L H l h wr) (hb : Below wr.heap.size wr w') : FRnd w x L H l h w' :=
  ⟨k.bel.trans (hb.mono k.bel.size), k.ro.below hb, k.rl.below hb, k.rh.below hb, k.ne, k.gl, k.gh, k.hl, k.hh, k.eq⟩
theorem FRnd.step {w wr : World} {x L H l h : Nat} (k : FRnd w x L H l h wr) (l' h' : Nat) (hl : l' < 2 ^ 256) (hh : h' < 2 ^ 256) (he : (l' + 2 ^ 256 * h') % pp = x % pp) :
    FRnd w x L H l' h' ((((((((wr.setCell ⟨L, 0, none⟩ (w64 (lim l' 0))).setCell ⟨L, 1, none⟩ (w64 (lim l' 1))).setCell ⟨L, 2, none⟩ (w64 (lim l' 2))).setCell ⟨L, 3, none⟩ (w64 (lim l' 3))).setCell ⟨H, 0, none⟩ (w64 (lim h' 0))).setCell ⟨H, 1, none⟩ (w64 (lim h' 1))).setCell ⟨H, 2, none⟩ (w64 (lim h' 2))).setCell ⟨H, 3, none⟩ (w64 (lim h' 3))) := by
  have hn := k.ne
  have g1 := k.gl
  have g2 := k.gh
  refine ⟨bel_all (bel_all k.bel (by omega)) (by omega), ?_, ?_, ?_, hn, g1, g2, hl, hh, he⟩
  · exact (((((((k.ro.far _ (by omega)).far _ (by omega)).far _ (by omega)).far _ (by omega)).far _ (by omega)).far _ (by omega)).far _ (by omega)).far _ (by omega)
  · exact (((k.rl.all.far _ hn).far _ hn).far _ hn).far _ hn
  · exact ((((k.rh.far _ (Ne.symm hn)).far _ (Ne.symm hn)).far _ (Ne.symm hn)).far _ (Ne.symm hn)).all

abbrev rowx (x : Nat) : Obj := .cells #[w64 (lim x 0), w64 (lim x 1), w64 (lim x 2), w64 (lim x 3), w64 (lim x 4), w64 (lim x 5), w64 (lim x 6), w64 (lim x 7)] 320
abbrev rowh (x : Nat) : Obj := .cells #[w64 (lim x 4), w64 (lim x 5), w64 (lim x 6), w64 (lim x 7)] 150
theorem wd_mod {w : World} {b x : Nat} (h : Wd w b 4 (lim x)) : Wd w b 4 (lim (x % 2 ^ 256)) :=
  ⟨fun i hi => by rw [lim_mod x i hi]; exact h.at_ i hi, h.lt, h.thaw⟩
theorem wd_high {w : World} {b x : Nat} (h : w.heap[b]? = some (rowh x)) : Wd w b 4 (lim (x / 2 ^ 256)) := by
  have e : ∀ k, lim (x / 2 ^ 256) k = lim x (4 + k) := fun k => lim_div x 4 k
  refine Wd.row h fun i hi => ?_
  rw [e]
  obtain rfl | rfl | rfl | rfl : i = 0 ∨ i = 1 ∨ i = 2 ∨ i = 3 := by omega
  all_goals rfl
theorem fstart_eq (x : Nat) : (x % 2 ^ 256 + 2 ^ 256 * (x / 2 ^ 256)) % pp = x % pp := by rw [Nat.mod_add_div]
theorem fstart_a (w : World) (x : Nat) (hx : x / 2 ^ 256 < 2 ^ 256) : FRnd w x (w.heap.size + 1 + 1) (w.heap.size + 1 + 1 + 1) (x % 2 ^ 256) (x / 2 ^ 256) ((((w.alloc (rowx x)).alloc zero4).alloc (row4 x)).alloc (rowh x)).drew := by
  refine ⟨(((((Below.refl _ _).alloc (Nat.le_refl _) _).alloc (by simp) _).alloc (by simp; omega) _).alloc (by simp; omega) _).drew, ?_, ?_, ?_, by omega, by omega, by omega, Nat.mod_lt _ (by decide), ?_, fstart_eq x⟩
  · have := (((wd_zero (heap_alloc_new (w.alloc (rowx x)) zero4)).below ((Below.refl _ _).alloc (Nat.le_refl _) (row4 x))).below ((Below.refl _ _).alloc (Nat.le_refl _) (rowh x))).below (Below.refl _ _).drew
    simpa using this
  · have := wd_mod (((wd_row (heap_alloc_new ((w.alloc (rowx x)).alloc zero4) (row4 x))).below ((Below.refl _ _).alloc (Nat.le_refl _) (rowh x))).below (Below.refl _ _).drew)
    simpa using this
  · have := (wd_high (heap_alloc_new (((w.alloc (rowx x)).alloc zero4).alloc (row4 x)) (rowh x))).below (Below.refl _ _).drew
    simpa using this
  · exact hx
theorem fstart_b (w : World) (x : Nat) (hx : x / 2 ^ 256 < 2 ^ 256) : FRnd w x (w.heap.size + 1 + 1 + 1) (w.heap.size + 1 + 1) (x % 2 ^ 256) (x / 2 ^ 256) ((((w.alloc (rowx x)).alloc zero4).alloc (rowh x)).alloc (row4 x)).drew := by
  refine ⟨(((((Below.refl _ _).alloc (Nat.le_refl _) _).alloc (by simp) _).alloc (by simp; omega) _).alloc (by simp; omega) _).drew, ?_, ?_, ?_, by omega, by omega, by omega, Nat.mod_lt _ (by decide), ?_, fstart_eq x⟩
  · have := (((wd_zero (heap_alloc_new (w.alloc (rowx x)) zero4)).below ((Below.refl _ _).alloc (Nat.le_refl _) (rowh x))).below ((Below.refl _ _).alloc (Nat.le_refl _) (row4 x))).below (Below.refl _ _).drew
    simpa using this
  · have := wd_mod ((wd_row (heap_alloc_new (((w.alloc (rowx x)).alloc zero4).alloc (rowh x)) (row4 x))).below (Below.refl _ _).drew)
    simpa using this
  · have := ((wd_high (heap_alloc_new ((w.alloc (rowx x)).alloc zero4) (rowh x))).below ((Below.refl _ _).alloc (Nat.le_refl _) (row4 x))).below (Below.refl _ _).drew
    simpa using this
  · exact hx

theorem numV_mod (n : Nat) : numV (n % 2 ^ 256) = numV n := by
  unfold numV
  rw [lim_mod n 0 (by omega), lim_mod n 1 (by omega), lim_mod n 2 (by omega), lim_mod n 3 (by omega)]
def ovr (h : Nat) : Nat := h * 38 / 2 ^ 256
def cry (l h : Nat) : Nat := (l + h * 38 % 2 ^ 256) / 2 ^ 256
theorem times38 (h : Nat) (hh : h < 2 ^ 256) (w : World) : Calls Tryz.prog 254 #[numV h, .int .u64 38] w fun e w' => e = .returned (.tuple #[numV (h * 38), w64 (ovr h)]) ∧ Below w.heap.size w w' :=
  times_any h 38 w hh (by decide)
theorem plus38 (l h : Nat) (hl : l < 2 ^ 256) (w : World) : Calls Tryz.prog 229 #[numV l, numV (h * 38)] w fun e w' => e = .returned (.tuple #[numV (l + h * 38 % 2 ^ 256), w64 (cry l h)]) ∧ Below w.heap.size w w' := by
  have := plus_any l (h * 38 % 2 ^ 256) w hl (Nat.mod_lt _ (by decide))
  rw [numV_mod] at this
  exact this
theorem lims_small (n : Nat) (hn : n < 18446744073709551616) : lim n 0 = n ∧ lim n 1 = 0 ∧ lim n 2 = 0 ∧ lim n 3 = 0 := by
  refine ⟨?_, ?_, ?_, ?_⟩
  · unfold lim; simp only [Nat.mul_zero, Nat.pow_zero, Nat.div_one]; omega
  · unfold lim; omega
  · unfold lim; omega
  · unfold lim; omega
theorem numV_small (n : Nat) (hn : n < 18446744073709551616) : numV n = .agg #[w64 n, .int .u64 0, .int .u64 0, .int .u64 0] := by
  have h0 : lim n 0 = n := by unfold lim; simp only [Nat.mul_zero, Nat.pow_zero, Nat.div_one]; omega
  have h1 : lim n 1 = 0 := by unfold lim; omega
  have h2 : lim n 2 = 0 := by unfold lim; omega
  have h3 : lim n 3 = 0 := by unfold lim; omega
  unfold numV
  rw [h0, h1, h2, h3]
  rfl

set_option maxHeartbeats 8000000 in
theorem folded_any (x : Nat) (w : World) (hx : x / 2 ^ 256 < 2 ^ 256) :
    Calls Tryz.prog 231 #[wideV x] w fun e w' => e = .returned (numV (x % pp)) ∧ Below w.heap.size w w' := by
  have HX := Lib.hid hx
  clear hx
  go_enter Tryz.func231, Tryz.ntmps231
  go_wp2_with fail
  have r4 := fun a w => run_arr4 a 4 8 (by omega) w
  have r5 := fun a w => run_arr4 a 4 4 (by omega) w
  go_cut [3, 4] (fun s3 s4 wx => ∃ L H : Nat, s3 = .pointer (some ⟨L, 0, none⟩) ∧ s4 = .pointer (some ⟨H, 0, none⟩) ∧ FRnd w x L H (x % 2 ^ 256) (x / 2 ^ 256) wx)
  case first =>
    go_region_held3 (fun w' => w'.cell? ⟨w.heap.size, 0, none⟩ = some (w64 (lim x 0)) ∧ w'.cell? ⟨w.heap.size, 1, none⟩ = some (w64 (lim x 1)) ∧ w'.cell? ⟨w.heap.size, 2, none⟩ = some (w64 (lim x 2)) ∧ w'.cell? ⟨w.heap.size, 3, none⟩ = some (w64 (lim x 3)) ∧ w'.cell? ⟨w.heap.size, 4, none⟩ = some (w64 (lim x 4)) ∧ w'.cell? ⟨w.heap.size, 5, none⟩ = some (w64 (lim x 5)) ∧ w'.cell? ⟨w.heap.size, 6, none⟩ = some (w64 (lim x 6)) ∧ w'.cell? ⟨w.heap.size, 7, none⟩ = some (w64 (lim x 7))) (go_keep) (fail)
    all_goals
      go_wp2_with fail
      go_meet
      first
        | exact ⟨_, _, rfl, rfl, fstart_a w x HX.out⟩
        | exact ⟨_, _, rfl, rfl, fstart_b w x HX.out⟩
  case rest =>
    obtain ⟨L, H, rfl, rfl, RN⟩ := hcut
    clear r4 r5
    go_wp2_with fail
    go_loopw [] (fun wr => ∃ l h, FRnd w x L H l h wr) (fun wr => limsOf wr L + 2 ^ 256 * limsOf wr H)
    case atStart => exact ⟨_, _, RN⟩
    case round =>
      clear RN
      obtain ⟨l, h, RN⟩ := hrel
      have h0 := RN.rh.at_ 0 (by omega)
      have h1 := RN.rh.at_ 1 (by omega)
      have h2 := RN.rh.at_ 2 (by omega)
      have h3 := RN.rh.at_ 3 (by omega)
      have lh := RN.rh.lt
      have hh := RN.hh
      have HM : Hid (limsOf wr L + 2 ^ 256 * limsOf wr H = l + 2 ^ 256 * h) := Lib.hid (by rw [limsOf_wd RN.rl RN.hl, limsOf_wd RN.rh RN.hh])
      have HRN := Lib.hid RN
      have HH := Lib.hid hh
      clear RN hh
      go_wp2_with fail
      refine (zero_any h _ HH.out).mono ?_
      rintro e w1 ⟨rfl, hb1⟩
      have RN1 := HRN.out.below hb1
      clear hb1 h0 h1 h2 h3 lh HRN
      by_cases hz : h = 0
      · rw [show decide (h = 0) = true from decide_eq_true hz]
        have l0 := RN1.rl.at_ 0 (by omega)
        have l1 := RN1.rl.at_ 1 (by omega)
        have l2 := RN1.rl.at_ 2 (by omega)
        have l3 := RN1.rl.at_ 3 (by omega)
        have ll := RN1.rl.lt
        have HS := Lib.hid (small_any l · RN1.hl)
        have HE : Hid (l % pp = x % pp) := Lib.hid (by rw [← RN1.eq, hz]; simp)
        have HRN := Lib.hid RN1
        clear RN1 hz
        go_wp2_with fail
        refine (HS.out _).mono ?_
        rintro e w2 ⟨rfl, hb2⟩
        have RN2 := HRN.out.below hb2
        have o0 := RN2.ro.at_ 0 (by omega)
        have o1 := RN2.ro.at_ 1 (by omega)
        have o2 := RN2.ro.at_ 2 (by omega)
        have o3 := RN2.ro.at_ 3 (by omega)
        have fo := RN2.ro.thaw
        have lo := RN2.ro.lt
        have bel := RN2.bel
        have hz := bel.size
        clear RN2 hb2 l0 l1 l2 l3 ll HRN HS
        go_wp2
        refine bodyPost_ret (by simp [results, Tryz.results231, go_sem, o0, o1, o2, o3]; try rfl) rfl ?_
        exact ⟨by rw [HE.out], by go_grown⟩
      · rw [show decide (h = 0) = false from decide_eq_false hz]
        have HZ := Lib.hid hz
        have h0 := RN1.rh.at_ 0 (by omega)
        have h1 := RN1.rh.at_ 1 (by omega)
        have h2 := RN1.rh.at_ 2 (by omega)
        have h3 := RN1.rh.at_ 3 (by omega)
        have lh := RN1.rh.lt
        have HRN := Lib.hid RN1
        clear RN1 hz
        go_wp2_with fail
        refine (times38 h HH.out _).mono ?_
        rintro e w2 ⟨rfl, hb2⟩
        have RN2 := HRN.out.below hb2
        have hba := (Below.refl w2.heap.size w2).alloc (Nat.le_refl _) (row4 (h * 38))
        have RN3 := Lib.hid (RN2.below hba)
        have l0 := RN2.rl.at_ 0 (by omega)
        have l1 := RN2.rl.at_ 1 (by omega)
        have l2 := RN2.rl.at_ 2 (by omega)
        have l3 := RN2.rl.at_ 3 (by omega)
        have ll := RN2.rl.lt
        have hl := RN2.hl
        have HP := Lib.hid (plus38 l h hl)
        clear hb2 hba RN2 HRN h0 h1 h2 h3 lh hl
        go_wp2_with fail
        refine (HP.out _).mono ?_
        rintro e w3 ⟨rfl, hb3⟩
        have RN4 := RN3.out.below hb3
        have hba := (Below.refl w3.heap.size w3).alloc (Nat.le_refl _) (row4 (l + h * 38 % 2 ^ 256))
        have RN5 := RN4.below hba
        clear hb3 RN3 HP l0 l1 l2 l3 ll
        obtain ⟨F1, F2, F3, F4⟩ := fold_step l h RN4.hl HH.out HZ.out
        have hw : IntKind.u64.wrap (((ovr h : Nat) : Int) + ((cry l h : Nat) : Int)) = ((ovr h + cry l h : Nat) : Int) := by
          rw [wrap_u64]
          have : ovr h + cry l h < 18446744073709551616 := F1
          omega
        have HF := Lib.hid (And.intro F1 (And.intro F2 (And.intro F3 F4)))
        clear F1 F2 F3 F4 RN4 hba
        have l0 := RN5.rl.at_ 0 (by omega)
        have l1 := RN5.rl.at_ 1 (by omega)
        have l2 := RN5.rl.at_ 2 (by omega)
        have l3 := RN5.rl.at_ 3 (by omega)
        have ll := RN5.rl.lt
        have fl := RN5.rl.thaw
        have h0 := RN5.rh.at_ 0 (by omega)
        have h1 := RN5.rh.at_ 1 (by omega)
        have h2 := RN5.rh.at_ 2 (by omega)
        have h3 := RN5.rh.at_ 3 (by omega)
        have lh := RN5.rh.lt
        have fh := RN5.rh.thaw
        have hne := RN5.ne
        have hne' := Ne.symm RN5.ne
        have HQ := Lib.hid RN5.eq
        have ST := Lib.hid (RN5.step ((l + h * 38 % 2 ^ 256) % 2 ^ 256) (ovr h + cry l h) (Nat.mod_lt _ (by decide)) (Nat.lt_trans HF.out.1 (by decide)) (by
          have e := HF.out.2.1
          have e2 := HF.out.2.2.2
          unfold ovr cry
          rw [e, e2]
          exact HQ.out))
        clear RN5
        go_wp2_with fail
        go_roundw
        case rel =>
          have hs := lims_small (ovr h + cry l h) HF.out.1
          have st := ST.out
          rw [lim_mod _ 0 (by omega), lim_mod _ 1 (by omega), lim_mod _ 2 (by omega), lim_mod _ 3 (by omega), hs.1, hs.2.1, hs.2.2.1, hs.2.2.2] at st
          exact ⟨_, _, st⟩
        case measure =>
          have hs := lims_small (ovr h + cry l h) HF.out.1
          have st := ST.out
          rw [lim_mod _ 0 (by omega), lim_mod _ 1 (by omega), lim_mod _ 2 (by omega), lim_mod _ 3 (by omega), hs.1, hs.2.1, hs.2.2.1, hs.2.2.2] at st
          rw [HM.out]
          have e1 := limsOf_wd st.rl st.hl
          have e2 := limsOf_wd st.rh st.hh
          have e := HF.out.2.1
          have e3 := HF.out.2.2.1
          have key : ∀ A B : Nat, A = (l + h * 38 % 2 ^ 256) % 2 ^ 256 → B = ovr h + cry l h → A + 2 ^ 256 * B < l + 2 ^ 256 * h := by
            intro A B hA hB
            subst hA hB
            unfold ovr cry
            rw [e]
            exact e3
          exact key _ _ e1 e2

theorem prod_high (a b : Nat) (ha : a < 2 ^ 256) (hb : b < 2 ^ 256) : a * b / 2 ^ 256 < 2 ^ 256 := by
  apply Nat.div_lt_of_lt_mul
  exact Nat.mul_lt_mul'' ha hb

set_option maxHeartbeats 1600000 in
theorem mul_any (a b : Nat) (w : World) (ha : a < 2 ^ 256) (hb : b < 2 ^ 256) :
    Calls Tryz.prog 202 #[numV a, numV b] w fun e w' => e = .returned (numV (a * b % pp)) ∧ Below w.heap.size w w' := by
  have HP := Lib.hid (fun w => product_any a b w ha hb)
  have HF := Lib.hid (fun w => folded_any (a * b) w (prod_high a b ha hb))
  clear ha hb
  go_enter Tryz.func202, Tryz.ntmps202
  go_wp2_with fail
  refine (HP.out _).mono ?_
  rintro e w1 ⟨rfl, hb1⟩
  have z1 := Vo.heap_below (heap_alloc_new ((w.alloc (row4 a)).alloc (row4 b)) zero4) hb1
  rw [show ((w.alloc (row4 a)).alloc (row4 b)).heap.size = w.heap.size + 2 by simp] at z1
  have bel1 := ((((Below.refl w.heap.size w).alloc (Nat.le_refl _) (row4 a)).alloc (by simp) (row4 b)).alloc (by simp; omega) zero4).trans (hb1.mono (by simp; omega))
  clear hb1
  go_wp2_with fail
  refine (HF.out _).mono ?_
  rintro e w2 ⟨rfl, hb2⟩
  have hz := wd_zero (Vo.heap_below z1 hb2)
  have o0 := hz.at_ 0 (by omega)
  have o1 := hz.at_ 1 (by omega)
  have o2 := hz.at_ 2 (by omega)
  have o3 := hz.at_ 3 (by omega)
  have fo := hz.thaw
  have lo := hz.lt
  have bel := bel1.trans (hb2.mono bel1.size)
  have hzs := bel.size
  clear hb2 z1 bel1 hz
  go_wp2
  refine bodyPost_ret (by simp [results, Tryz.results202, go_sem, o0, o1, o2, o3]; try rfl) rfl ?_
  exact ⟨rfl, by go_grown⟩
end Go.Proofs.YtlgghcffmnofdaaGreatDoor.Nu
