/-
  Several texts in one: ShaH, ShaI, ShaE, ShaG.
-/
import Derived.Lib.SliceRun
import Derived.Lib.AppendZeros
import Derived.Test.YtlgghcffmnofdaaGreatDoorSignBQ

/-
  The walk of slices.Grow of nil at []byte.
-/
namespace Go.Proofs.YtlgghcffmnofdaaGreatDoor.Sh
open Go Go.RowKit Go.Proofs.YtlgghcffmnofdaaGreatDoor.Cn Go.Proofs.YtlgghcffmnofdaaGreatDoor.Nu
set_option maxRecDepth 100000

set_option maxHeartbeats 4000000 in
theorem grow_nil (n : Nat) (w : World) (hn : n < 1000000000) (h0 : 0 < n) :
    Calls Tryz.prog 117 #[.slice none 0 0, .int .i64 n] w fun e w' => ∃ v', e = .returned v' ∧ w'.ownsRow w.heap.size 5 1 v' 0 [] ∧ Below w.heap.size w w' := by
  obtain ⟨i0, hi, hz0, hz1, hz2⟩ := info_parts (show (Tryz.prog.info? 5).map (fun i => (i.zero, i.size, i.bytes)) = some (some (.int .u8 0), 1, 1) by kernel_rfl)
  have h1 : decide ((n : Int) < 0) = false := decide_eq_false (by omega)
  have h2 : IntKind.i64.wrap (n : Int) = (n : Int) := by rw [IntKind.wrap_i64]; omega
  have h4 : decide ((0 : Int) < (n : Int)) = true := decide_eq_true (by omega)
  have h5 : (0 : Int) < (n : Int) := by omega
  have HN := Lib.hid (And.intro hn h0)
  clear hn h0
  go_enter Tryz.func117, Tryz.ntmps117
  go_wp2_with (at_builtin; go_must (refine Lib.wpList_append_run _ rfl _ _ _ _ rfl _ _ rfl rfl _ _ (Lib.run_append_nil_zeros w 36 3 _ 5 i0 (.int .u8 0) .i64 .i64 Tryz.underlying36 Tryz.underlying3 hi hz0 n HN.out.2 (by omega) (by have := HN.out; omega) (by have := HN.out; rw [hz2]; omega)) ?_))
  have hge := grownCap_ge w n 0 5
  have hle := grownCap_le_maxLen w n 0 5 (by have := HN.out; unfold maxLen; omega)
  have B1 : Below w.heap.size w (w.drew.alloc (.cells (Builtin.zeroCells (Value.int .u8 0).cells n ++ Builtin.zeroCells (Value.int .u8 0).cells (grownCap w n 0 5 - n)) 5)) := (Below.refl w.heap.size w).drew.alloc (Nat.le_refl _) _
  have O1 : (w.drew.alloc (.cells (Builtin.zeroCells (Value.int .u8 0).cells n ++ Builtin.zeroCells (Value.int .u8 0).cells (grownCap w n 0 5 - n)) 5)).ownsRow w.heap.size 5 1 (.slice (some ⟨w.heap.size, 0, none⟩) 0 (grownCap w n 0 5)) 0 [] := by
    refine ⟨rfl, .inr ⟨w.heap.size, _, _, rfl, Nat.le_refl _, heap_alloc_new w.drew _, Nat.zero_le _, hle, ?_, by simp⟩⟩
    simp [Builtin.zeroCells, Value.cells]
    omega
  generalize grownCap w n 0 5 = cap at *
  go_wp2
  refine bodyPost_ret (by simp [results, Tryz.results117, go_sem]; try rfl) rfl ?_
  exact ⟨_, rfl, O1, B1⟩

set_option maxHeartbeats 4000000 in
theorem grow_zero (w : World) :
    Calls Tryz.prog 117 #[.slice none 0 0, .int .i64 0] w fun e w' => e = .returned (.slice none 0 0) ∧ Below w.heap.size w w' := by
  go_enter Tryz.func117, Tryz.ntmps117
  go_wp2
  refine bodyPost_ret (by simp [results, Tryz.results117, go_sem]; try rfl) rfl ?_
  exact ⟨rfl, Below.refl _ _⟩

theorem grow_any (n : Nat) (w : World) (hn : n < 1000000000) :
    Calls Tryz.prog 117 #[.slice none 0 0, .int .i64 n] w fun e w' => ∃ v', e = .returned v' ∧ w'.ownsRow w.heap.size 5 1 v' 0 [] ∧ Below w.heap.size w w' := by
  by_cases h : n = 0
  · subst h
    refine (grow_zero w).mono ?_
    rintro e w' ⟨rfl, hb⟩
    exact ⟨_, rfl, World.ownsRow_nil _ _ _ _, hb⟩
  · exact grow_nil n w hn (by omega)
end Go.Proofs.YtlgghcffmnofdaaGreatDoor.Sh

/-
  The walk of slices.Concat at []byte.
-/
namespace Go.Proofs.YtlgghcffmnofdaaGreatDoor.Sh
open Go Go.RowKit Go.Proofs.YtlgghcffmnofdaaGreatDoor.Cn Go.Proofs.YtlgghcffmnofdaaGreatDoor.Nu
set_option maxRecDepth 100000

/-- Byte slices lie in a block. -/
structure Parts (w : World) (b : Nat) (vs : List Value) (ps : List (List UInt8)) : Prop where
  len : vs.length = ps.length
  at_ : ∀ (i : Nat) (h : i < vs.length), w.cell? ⟨b, i, none⟩ = some (vs[i]'h)
  bsl : ∀ (i : Nat) (h : i < vs.length) (h' : i < ps.length), Bsl w (vs[i]'h) (ps[i]'h')
  lt : b < w.heap.size
theorem Parts.below {w w' : World} {b : Nat} {vs : List Value} {ps : List (List UInt8)} (h : Parts w b vs ps) (hb : Below w.heap.size w w') : Parts w' b vs ps :=
  ⟨h.len, fun i hi => by rw [hb.cell h.lt]; exact h.at_ i hi, fun i hi hi' => (h.bsl i hi hi').below hb, Nat.lt_of_lt_of_le h.lt hb.size⟩

set_option maxHeartbeats 8000000 in
theorem concat_any (vs : List Value) (ps : List (List UInt8)) (b cap : Nat) (w : World) (hp : Parts w b vs ps) (hn : ps.flatten.length < 1000000000) (hl : ps.length < 1000) :
    Calls Tryz.prog 69 #[.slice (some ⟨b, 0, none⟩) vs.length cap] w fun e w' => ∃ v', e = .returned v' ∧ w'.ownsRow w.heap.size 5 1 v' ps.flatten.length (cs ps.flatten) ∧ Below w.heap.size w w' := by
  obtain ⟨i0, hi, hz0, hz1, hz2⟩ := info_parts (show (Tryz.prog.info? 5).map (fun i => (i.zero, i.size, i.bytes)) = some (some (.int .u8 0), 1, 1) by kernel_rfl)
  have HP := Lib.hid hp
  have HN := Lib.hid (And.intro hn hl)
  have hlt := hp.lt
  obtain ⟨tot, htot⟩ : ∃ t, t = ps.flatten.length := ⟨_, rfl⟩
  have HT := Lib.hid htot
  rw [← htot] at HN ⊢
  clear hp hn hl htot
  go_enter Tryz.func69, Tryz.ntmps69
  go_wp2_with fail
  go_loopw [3, 11] (fun s c wr => ∃ k : Nat, k ≤ vs.length ∧ c = .int .i64 k ∧ s = .int .i64 ((ps.take k).flatten.length : Nat) ∧ wr = w) (fun _ c _ => vs.length - (intOf c).toNat)
  case atStart => exact ⟨0, by omega, rfl, rfl, rfl⟩
  case round =>
    obtain ⟨k, hk, rfl, rfl, hww⟩ := hrel
    have hww2 := hww.symm
    subst hww2
    clear hww
    by_cases hkl : k < vs.length
    · have hkp : k < ps.length := by rw [← HP.out.len]; exact hkl
      have hlt2 : decide ((k : Int) < (vs.length : Int)) = true := decide_eq_true (by omega)
      have hk0 : (0 : Int) ≤ (k : Int) := by omega
      have hk2 : (k : Int) < (vs.length : Int) := by omega
      have hk1 : IntKind.i64.wrap ((k : Int) + 1) = (k : Int) + 1 := by have := HN.out; rw [IntKind.wrap_i64]; omega
      obtain ⟨a, c', he, hc1, hc2⟩ := HP.out.bsl k hkl hkp
      have ck := HP.out.at_ k hkl
      rw [he] at ck
      have hsum : (ps.take (k + 1)).flatten.length = (ps.take k).flatten.length + (ps[k]).length := by
        rw [List.take_succ_eq_append_getElem hkp, List.flatten_append, List.length_append]
        simp
      have hle : (ps.take (k + 1)).flatten.length ≤ ps.flatten.length := by
        conv => rhs; rw [← List.take_append_drop (k + 1) ps, List.flatten_append, List.length_append]
        omega
      obtain ⟨s2, hs2⟩ : ∃ s2, s2 = (ps.take (k + 1)).flatten.length := ⟨_, rfl⟩
      have HS2 := Lib.hid hs2
      rw [← hs2] at hsum hle
      have hw : IntKind.i64.wrap ((((ps.take k).flatten.length : Nat) : Int) + (((ps[k]).length : Nat) : Int)) = (s2 : Int) := by
        have := HN.out
        have := HT.out
        rw [IntKind.wrap_i64]
        omega
      have hng : decide ((s2 : Int) < 0) = false := decide_eq_false (by omega)
      have HK := Lib.hid hkl
      clear hk hc1 hc2 he hs2 hsum hle
      generalize (ps.take k).flatten.length = s0 at *
      generalize (ps[k]).length = s1 at *
      clear hkl
      go_wp2_with fail
      go_roundw
      case rel => exact ⟨k + 1, by have := HK.out; omega, by simp, by rw [HS2.out], trivial⟩
      case measure => have := HK.out; simp [intOf]; omega
    · have hkl2 : k = vs.length := by omega
      subst hkl2
      have hlt2 : decide ((vs.length : Int) < (vs.length : Int)) = false := by simp
      have htk : ps.take vs.length = ps := by rw [HP.out.len, List.take_length]
      rw [htk, ← HT.out]
      clear hk hkl htk
      have HGR := Lib.hid (grow_any tot w (by have := HN.out; omega))
      go_wp2_with fail
      refine HGR.out.mono ?_
      rintro e w1 ⟨v1, rfl, own1, bel1⟩
      clear HGR
      go_wp2_with fail
      go_loopw [6, 27] (fun v c wx => ∃ k : Nat, k ≤ vs.length ∧ c = .int .i64 k ∧ wx.ownsRow w.heap.size 5 1 v (ps.take k).flatten.length (cs (ps.take k).flatten) ∧ Below w.heap.size w wx) (fun _ c _ => vs.length - (intOf c).toNat)
      case atStart => exact ⟨0, by omega, rfl, own1, bel1⟩
      case round =>
        obtain ⟨k, hk, rfl, hown, bel⟩ := hrel
        clear own1 bel1
        by_cases hkl : k < vs.length
        · have hkp : k < ps.length := by rw [← HP.out.len]; exact hkl
          have hlt3 : decide ((k : Int) < (vs.length : Int)) = true := decide_eq_true (by omega)
          have hk0 : (0 : Int) ≤ (k : Int) := by omega
          have hk2 : (k : Int) < (vs.length : Int) := by omega
          have hk1 : IntKind.i64.wrap ((k : Int) + 1) = (k : Int) + 1 := by have := HN.out; rw [IntKind.wrap_i64]; omega
          have PR := HP.out.below bel
          obtain ⟨a, c', he, hc1, hc2⟩ := PR.bsl k hkl hkp
          have ck := PR.at_ k hkl
          have lk := PR.lt
          rw [he] at ck
          have HE : Hid ((ps.take (k + 1)).flatten = (ps.take k).flatten ++ ps[k]) := Lib.hid (by
            rw [List.take_succ_eq_append_getElem hkp, List.flatten_append]
            simp)
          have hle : (ps.take (k + 1)).flatten.length ≤ ps.flatten.length := by
            conv => rhs; rw [← List.take_append_drop (k + 1) ps, List.flatten_append, List.length_append]
            omega
          have HLE : Hid ((ps.take k).flatten.length + (ps[k]).length ≤ tot) := Lib.hid (by rw [HT.out, ← List.length_append, ← HE.out]; exact hle)
          have HK := Lib.hid hkl
          have hsz := bel.size
          clear hk hle he PR
          generalize (ps.take k).flatten = ol at *
          generalize ps[k] = pl at *
          obtain ⟨lo, hlo⟩ : ∃ n, n = ol.length := ⟨_, rfl⟩
          obtain ⟨lp, hlp⟩ : ∃ n, n = pl.length := ⟨_, rfl⟩
          have HLO := Lib.hid (And.intro hlo hlp)
          rw [← hlo] at hown
          rw [← hlp] at ck hc1
          rw [← hlo, ← hlp] at HLE
          clear hkl hkp
          by_cases hp0 : lp = 0
          · subst hp0
            have hpl : pl = [] := List.eq_nil_of_length_eq_zero hlp.symm
            clear hlo hlp hc2
            obtain ⟨B, cp, hB, hBc⟩ : ∃ B cp, u6 = .slice B lo cp ∧ lo ≤ cp := by
              rcases hown.2 with ⟨h1, h2⟩ | ⟨g, cp, cur, h1, _, _, h2, _⟩
              · exact ⟨none, 0, by rw [h1, h2], by omega⟩
              · exact ⟨_, cp, h1, h2⟩
            subst hB
            go_wp2_with (at_builtin; go_must (refine Vo.wpList_append_zero _ rfl _ _ 36 rfl 5 i0 Tryz.underlying36 hi _ _ _ _ _ rfl rfl hBc ?_))
            go_wp2_with fail
            go_roundw
            case rel =>
              refine ⟨k + 1, by have := HK.out; omega, by simp, ?_, bel⟩
              rw [HE.out, hpl, List.append_nil, ← HLO.out.1]
              exact hown
            case measure => have := HK.out; simp [intOf]; omega
          · obtain ⟨sb, so, rfl⟩ : ∃ sb so, a = some ⟨sb, so, none⟩ := by
              obtain ⟨b', o', h1, _⟩ := hc2 0 (by omega)
              exact ⟨b', o', h1⟩
            have HC : Hid (∀ j (h : j < pl.length), wr.cell? ⟨sb, so + j, none⟩ = some (.int .u8 (pl[j]'h).toNat)) := Lib.hid (fun j h => by
              obtain ⟨b', o', h1, h2⟩ := hc2 j h
              cases h1
              exact h2)
            clear hc2 hlo hlp hp0
            go_wp2_with (at_builtin; refine wpList_append_own _ rfl _ _ 36 rfl w.heap.size 5 i0 (.int .u8 0) 1 1 Tryz.underlying36 hi hz0 hz1 hz2 rfl (by decide) _ _ _ rfl hown ⟨sb, so, none⟩ lp c' (cs pl) rfl ?qc1 ?qc2 ?qc3 ?qc4 ?qc5 ?qc6 ?_)
            case qc1 => have := HLO.out; simp [cs]; omega
            case qc2 =>
              intro j u hj
              have hjn : j < pl.length := by
                have := (List.getElem?_eq_some_iff.1 hj).1
                simpa [cs] using this
              rw [Addr.add_lit, HC.out j hjn, ← hj]
              simp [cs, hjn]
            case qc3 => intro u hu; obtain ⟨x, _, rfl⟩ := List.mem_map.1 hu; rfl
            case qc4 => have := HLE.out; have := HN.out; unfold maxLen; omega
            case qc5 => have := HLE.out; have := HN.out; omega
            case qc6 => omega
            intro v' w2 own2 hgrow _
            have hB : Below w.heap.size wr w2 := (Below.refl w.heap.size wr).grown hgrow hsz (Vo.own_ge hown (Nat.le_refl _))
            have bel2 := bel.trans hB
            clear hown hgrow hB bel HC
            go_wp2_with fail
            go_roundw
            case rel =>
              refine ⟨k + 1, by have := HK.out; omega, by simp, ?_, bel2⟩
              rw [HE.out, List.length_append, ← HLO.out.1, ← HLO.out.2, cs_append]
              exact own2
            case measure => have := HK.out; simp [intOf]; omega
        · have hkl2 : k = vs.length := by omega
          subst hkl2
          have htk : ps.take vs.length = ps := by rw [HP.out.len, List.take_length]
          rw [htk, ← HT.out] at hown
          have hzs := bel.size
          clear hk hkl htk
          go_wp2
          refine bodyPost_ret (by simp [results, Tryz.results69, go_sem]; try rfl) rfl ?_
          exact ⟨_, rfl, hown, bel⟩
end Go.Proofs.YtlgghcffmnofdaaGreatDoor.Sh

/-
  The walk of sha.tail.
-/
namespace Go.Proofs.YtlgghcffmnofdaaGreatDoor.Sh
open Go Go.RowKit Go.Proofs.YtlgghcffmnofdaaGreatDoor.Cn Go.Proofs.YtlgghcffmnofdaaGreatDoor.Nu
set_option maxRecDepth 100000

/-- A length's padding: a bit, zeros, the length. -/
def tail0 (k : Nat) : List UInt8 := 128 :: List.replicate k 0
def padN (n : Nat) : Nat := (111 + 127 * n) % 128
def lenb (n j : Nat) : Nat := n * 8 / 2 ^ (56 - 8 * j) % 256
def lens (n k : Nat) : List UInt8 := (List.range k).map fun j => UInt8.ofNat (lenb n j)
def tailL (n : Nat) : List UInt8 := tail0 (padN n + 8) ++ lens n 8
theorem tail0_length (k : Nat) : (tail0 k).length = k + 1 := by simp [tail0]
theorem tail0_succ (k : Nat) : tail0 (k + 1) = tail0 k ++ [0] := by simp [tail0, List.replicate_succ']
theorem tail0_add (k m : Nat) : tail0 (k + m) = tail0 k ++ List.replicate m 0 := by simp [tail0]
theorem lens_succ (n k : Nat) : lens n (k + 1) = lens n k ++ [UInt8.ofNat (lenb n k)] := by simp [lens, List.range_succ]
def sliceLen : Value → Nat | .slice _ n _ => n | _ => 0
theorem own_len {w : World} {base n : Nat} {e : TypeId} {size : Nat} {v : Value} {xs : List Value} (h : w.ownsRow base e size v n xs) : sliceLen v = n := by
  rcases h.2 with ⟨rfl, rfl⟩ | ⟨g, cap, cur, rfl, _⟩ <;> rfl

theorem row_cells {w : World} {c : Array Value} {t : TypeId} (j : Nat) (u : Value) (hj : c.toList[j]? = some u) : (w.alloc (.cells c t)).cell? ((⟨w.heap.size, 0, none⟩ : Addr).add j) = some u := by
  have hadd : (⟨w.heap.size, 0, none⟩ : Addr).add j = ⟨w.heap.size, j, none⟩ := by unfold Addr.add; split <;> simp_all
  rw [hadd, cell_of_row _ _ j c t (0, 0) (heap_alloc_new w _)]
  simpa using hj

set_option maxHeartbeats 8000000 in
theorem tail_any (n : Nat) (w : World) (hn : n < 1152921504606846976) :
    Calls Tryz.prog 136 #[.int .i64 n] w fun e w' => ∃ v, e = .returned v ∧ w'.ownsRow w.heap.size 5 1 v (padN n + 17) (cs (tailL n)) ∧ Below w.heap.size w w' := by
  obtain ⟨i0, hi, hz0, hz1, hz2⟩ := info_parts (show (Tryz.prog.info? 5).map (fun i => (i.zero, i.size, i.bytes)) = some (some (.int .u8 0), 1, 1) by kernel_rfl)
  have HN := Lib.hid hn
  obtain ⟨z, hz⟩ : ∃ z, z = padN n := ⟨_, rfl⟩
  have HZ : Hid (z = (111 + 127 * n) % 128) := Lib.hid hz
  have HZE := Lib.hid hz
  clear hn hz
  go_enter Tryz.func136, Tryz.ntmps136
  go_wp2_with fail
  go_loopw [3] (fun v wr => ∃ k : Nat, k ≤ z ∧ wr.ownsRow w.heap.size 5 1 v (k + 1) (cs (tail0 k)) ∧ Below w.heap.size w wr) (fun v _ => z + 1 - sliceLen v)
  case atStart =>
    refine ⟨0, by omega, ?_, (Below.refl _ _).alloc (Nat.le_refl _) _⟩
    exact World.ownsRow_lit w #[.int .u8 128] 1 (Nat.le_refl _) (by decide) rfl
  case round =>
    obtain ⟨k, hk, hown, bel⟩ := hrel
    obtain ⟨g, cap, rfl, hcap⟩ := own_slice hown
    obtain ⟨L, hL⟩ : ∃ L, L = k + 1 := ⟨_, rfl⟩
    rw [← hL] at hown hcap ⊢
    have HL := Lib.hid hL
    obtain ⟨m, hm⟩ : ∃ m, m = n + L := ⟨_, rfl⟩
    obtain ⟨r, hr⟩ : ∃ r, r = m % 128 := ⟨_, rfl⟩
    have hwp : IntKind.i64.wrap ((n : Int) + (L : Int)) = (m : Int) := by have := HN.out; have := HZ.out; rw [IntKind.wrap_i64]; omega
    have htm : (m : Int).tmod 128 = (r : Int) := by rw [Int.tmod_eq_emod_of_nonneg (by omega)]; omega
    have hsz := bel.size
    by_cases hkz : k < z
    · have hne : ((r : Int) != 112) = true := by
        have := HN.out; have := HZ.out
        simp only [bne_iff_ne, ne_eq]
        omega
      have HK := Lib.hid hkz
      clear hk hkz hL hm hr
      go_wp2_with (at_builtin; go_must (refine wpList_append_own _ rfl _ _ 36 rfl w.heap.size 5 i0 (.int .u8 0) 1 1 Tryz.underlying36 hi hz0 hz1 hz2 rfl (by decide) _ _ _ rfl (World.ownsRow.alloc (w := wr) hown _) ⟨wr.heap.size, 0, none⟩ 1 1 [.int .u8 0] rfl rfl (cell_one_new _ _ _) (by intro u hu; simp at hu; subst hu; rfl) (by have := HK.out; have := HL.out; have := HZ.out; unfold maxLen; omega) (by have := HK.out; have := HL.out; have := HZ.out; omega) (by simp; omega) ?_))
      intro v' w2 own2 hgrow _
      have hB : Below w.heap.size wr w2 := ((Below.refl w.heap.size wr).alloc hsz _).grown hgrow (by simp; omega) (Vo.own_ge hown (Nat.le_refl _))
      have own3 : w2.ownsRow w.heap.size 5 1 v' (L + 1) (cs (tail0 (k + 1))) := by
        have e : cs (tail0 (k + 1)) = cs (tail0 k) ++ [Value.int .u8 0] := by rw [tail0_succ, cs_append]; rfl
        rw [e]
        exact own2
      have bel2 : Below w.heap.size w w2 := bel.trans hB
      clear hown hgrow own2 hB bel
      go_wp2_with fail
      go_roundw
      case rel => exact ⟨k + 1, HK.out, by rw [show k + 1 + 1 = L + 1 by rw [HL.out]]; exact own3, bel2⟩
      case measure =>
        rw [own_len own3]
        have := HK.out
        have := HL.out
        simp only [sliceLen]
        omega
    · have hne : ((r : Int) != 112) = false := by
        have := HN.out; have := HZ.out
        simp only [bne_eq_false_iff_eq]
        omega
      have hkz2 : k = z := by omega
      subst hkz2
      clear hk hkz hL hm hr
      have hsz2 := hsz
      go_wp2_with (at_builtin; go_must (refine wpList_append_own _ rfl _ _ 36 rfl w.heap.size 5 i0 (.int .u8 0) 1 1 Tryz.underlying36 hi hz0 hz1 hz2 rfl (by decide) _ _ _ rfl (World.ownsRow.alloc (w := wr) hown _) ⟨wr.heap.size, 0, none⟩ 7 7 [.int .u8 0, .int .u8 0, .int .u8 0, .int .u8 0, .int .u8 0, .int .u8 0, .int .u8 0] rfl rfl (fun j u hj => row_cells j u hj) (by intro u hu; simp at hu; subst hu; rfl) (by have := HL.out; have := HZ.out; unfold maxLen; omega) (by have := HL.out; have := HZ.out; omega) (by simp; omega) ?_))
      intro v1 w2 own2 hgrow _
      have hB : Below w.heap.size wr w2 := ((Below.refl w.heap.size wr).alloc hsz _).grown hgrow (by simp; omega) (Vo.own_ge hown (Nat.le_refl _))
      have own3 : w2.ownsRow w.heap.size 5 1 v1 (L + 7) (cs (tail0 (k + 7))) := by
        have e : cs (tail0 (k + 7)) = cs (tail0 k) ++ [.int .u8 0, .int .u8 0, .int .u8 0, .int .u8 0, .int .u8 0, .int .u8 0, .int .u8 0] := by rw [tail0_add, cs_append]; rfl
        rw [e]
        exact own2
      have bel2 : Below w.heap.size w w2 := bel.trans hB
      have hsz3 := bel2.size
      have hsh : (n : Int) / 2305843009213693952 = 0 := by have := HN.out; omega
      have hcv : IntKind.u64.wrap (n : Int) = (n : Int) := by have := HN.out; rw [wrap_u64]; omega
      have hw0 : IntKind.u8.wrap 0 = 0 := by decide
      clear hown hgrow own2 hB bel hsz hsz2
      go_wp2_with (at_builtin; go_must (refine wpList_append_own _ rfl _ _ 36 rfl w.heap.size 5 i0 (.int .u8 0) 1 1 Tryz.underlying36 hi hz0 hz1 hz2 rfl (by decide) _ _ _ rfl (World.ownsRow.alloc (w := w2) own3 _) ⟨w2.heap.size, 0, none⟩ 1 1 [.int .u8 0] rfl rfl (fun j u hj => row_cells j u hj) (by intro u hu; simp at hu; subst hu; rfl) (by have := HL.out; have := HZ.out; unfold maxLen; omega) (by have := HL.out; have := HZ.out; omega) (by simp; omega) ?_))
      intro v2 w3 own4 hgrow _
      have hB : Below w.heap.size w2 w3 := ((Below.refl w.heap.size w2).alloc hsz3 _).grown hgrow (by simp; omega) (Vo.own_ge own3 (Nat.le_refl _))
      have own5 : w3.ownsRow w.heap.size 5 1 v2 (L + 8) (cs (tail0 (k + 8))) := by
        have e : cs (tail0 (k + 8)) = cs (tail0 (k + 7)) ++ [.int .u8 0] := by rw [tail0_succ, cs_append]; rfl
        rw [e]
        exact own4
      have bel3 : Below w.heap.size w w3 := bel2.trans hB
      clear hgrow own3 own4 hB bel2 hsz3 hsh hw0 hwp htm hne
      go_wp2_with fail
      go_loopw [3, 4] (fun v c wr => ∃ (j : Nat) (y : Int), j ≤ 8 ∧ y = 56 - 8 * (j : Int) ∧ c = .int .i64 y ∧ wr.ownsRow w.heap.size 5 1 v (L + 8 + j) (cs (tail0 (k + 8) ++ lens n j)) ∧ Below w.heap.size w wr) (fun _ c _ => (intOf c + 8).toNat)
      case atStart => exact ⟨0, 56, by omega, by omega, rfl, by simpa [lens] using own5, bel3⟩
      case round =>
        clear own5 bel3
        obtain ⟨j, z, hj8, hz, rfl, hown, bel⟩ := hrel
        by_cases hjl : j < 8
        · obtain ⟨y, hy, rfl⟩ : ∃ y : Nat, y = 56 - 8 * j ∧ z = (y : Int) := ⟨56 - 8 * j, rfl, by omega⟩
          have hy0 : (0 : Int) ≤ (y : Int) := by omega
          have hyd : decide ((0 : Int) ≤ (y : Int)) = true := decide_eq_true hy0
          have hy64 : (y : Int) < 64 := by omega
          have hy1 : IntKind.i64.wrap ((y : Int) - 8) = (y : Int) - 8 := by rw [IntKind.wrap_i64]; omega
          obtain ⟨n8, hn8⟩ : ∃ n8, n8 = n * 8 := ⟨_, rfl⟩
          have hsl : IntKind.u64.wrap ((n : Int) * 8) = (n8 : Int) := by have := HN.out; rw [wrap_u64]; omega
          obtain ⟨b, hb0⟩ : ∃ b, b = n8 / 2 ^ y % 256 := ⟨_, rfl⟩
          have hb : IntKind.u8.wrap ((n8 : Int) / 2 ^ y) = (b : Int) := by
            have e : ((n8 : Int) / 2 ^ y) = ((n8 / 2 ^ y : Nat) : Int) := by push_cast; rfl
            rw [e, hb0]
            generalize n8 / 2 ^ y = q
            rw [IntKind.wrap_u8]
            omega
          have HSB : Hid (lens n (j + 1) = lens n j ++ [UInt8.ofNat b]) := Lib.hid (by rw [lens_succ, hb0, hn8, hy]; rfl)
          have HBL : Hid (b < 256) := Lib.hid (by rw [hb0]; exact Nat.mod_lt _ (by decide))
          have HJ := Lib.hid (And.intro hjl hy)
          obtain ⟨q, hq⟩ : ∃ q, q = L + 8 + j := ⟨_, rfl⟩
          have HQ := Lib.hid hq
          rw [← hq] at hown
          have hsz := bel.size
          clear hz hj8 hjl hb0 hy hq hn8
          go_wp2_with (at_builtin; go_must (refine wpList_append_own _ rfl _ _ 36 rfl w.heap.size 5 i0 (.int .u8 0) 1 1 Tryz.underlying36 hi hz0 hz1 hz2 rfl (by decide) _ _ _ rfl (World.ownsRow.alloc (w := wr) hown _) ⟨wr.heap.size, 0, none⟩ 1 1 [.int .u8 (b : Int)] rfl rfl (fun j u hj => row_cells j u hj) (by intro u hu; simp at hu; subst hu; rfl) (by have := HL.out; have := HZ.out; have := HJ.out; have := HQ.out; unfold maxLen; omega) (by have := HL.out; have := HZ.out; have := HJ.out; have := HQ.out; omega) (by simp; omega) ?_))
          intro v' w2 own2 hgrow _
          have hB : Below w.heap.size wr w2 := ((Below.refl w.heap.size wr).alloc hsz _).grown hgrow (by simp; omega) (Vo.own_ge hown (Nat.le_refl _))
          have own3 : w2.ownsRow w.heap.size 5 1 v' (q + 1) (cs (tail0 (k + 8) ++ lens n (j + 1))) := by
            have e : cs (tail0 (k + 8) ++ lens n (j + 1)) = cs (tail0 (k + 8) ++ lens n j) ++ [Value.int .u8 (b : Int)] := by
              rw [HSB.out, ← List.append_assoc, cs_append]
              simp only [cs, List.map_cons, List.map_nil, UInt8.toNat_ofNat']
              rw [Nat.mod_eq_of_lt (show b < 2 ^ 8 from HBL.out)]
            rw [e]
            exact own2
          have bel2 : Below w.heap.size w w2 := bel.trans hB
          clear hown hgrow own2 hB bel hb hsl
          go_wp2_with fail
          go_roundw
          case rel =>
            refine ⟨j + 1, (y : Int) - 8, by have := HJ.out; omega, by have := HJ.out; omega, rfl, ?_, bel2⟩
            rw [← Nat.add_assoc, ← HQ.out]
            exact own3
          case measure => have := HJ.out; simp [intOf]; omega
        · obtain rfl : j = 8 := by omega
          obtain rfl : z = -8 := by omega
          have hzs := bel.size
          clear hz hj8 hjl
          go_wp2
          refine bodyPost_ret (by simp [results, Tryz.results136, go_sem]; try rfl) rfl ?_
          refine ⟨_, rfl, ?_, bel⟩
          rw [← HZE.out, show k + 17 = L + 8 + 8 by have := HL.out; omega]
          unfold tailL
          rw [← HZE.out]
          exact hown
end Go.Proofs.YtlgghcffmnofdaaGreatDoor.Sh

/-
  The walk of slices.Clone at []byte.
-/
namespace Go.Proofs.YtlgghcffmnofdaaGreatDoor.Sh
open Go Go.RowKit Go.Proofs.YtlgghcffmnofdaaGreatDoor.Cn Go.Proofs.YtlgghcffmnofdaaGreatDoor.Nu
set_option maxRecDepth 100000

set_option maxHeartbeats 4000000 in
theorem clone_any (l : List UInt8) (v : Value) (w : World) (hv : Bsl w v l) (hl : 0 < l.length) (hlen : l.length < 1000000000) :
    Calls Tryz.prog 58 #[v] w fun e w' => ∃ v', e = .returned v' ∧ w'.ownsRow w.heap.size 5 1 v' l.length (cs l) ∧ Below w.heap.size w w' := by
  obtain ⟨i0, hi, hz0, hz1, hz2⟩ := info_parts (show (Tryz.prog.info? 5).map (fun i => (i.zero, i.size, i.bytes)) = some (some (.int .u8 0), 1, 1) by kernel_rfl)
  obtain ⟨ad, cap, rfl, hcap, hc⟩ := hv
  obtain ⟨b, off, rfl⟩ : ∃ b off, ad = some ⟨b, off, none⟩ := by
    obtain ⟨b, o, h1, _⟩ := hc 0 hl
    exact ⟨b, o, h1⟩
  have HC : Hid (∀ j (h : j < l.length), w.cell? ⟨b, off + j, none⟩ = some (.int .u8 (l[j]'h).toNat)) := Lib.hid (fun j h => by
    obtain ⟨b', o', h1, h2⟩ := hc j h
    cases h1
    exact h2)
  have HL := Lib.hid hlen
  have q22 : ∀ (w : World) (a : Option Addr) (n c n' c' : Nat), (binOp .eql 36 (.slice a n c) (.slice none n' c')).run Tryz.prog w = .ok (.bool a.isNone) w := fun w a n c n' c' => Lib.run_eql_slice_nil w _ _ a n c n' c' Tryz.underlying36
  clear hc hlen hl
  go_enter Tryz.func58, Tryz.ntmps58
  go_wp2_with (at_builtin; refine wpList_append_own _ rfl _ _ 36 rfl w.heap.size 5 i0 (.int .u8 0) 1 1 Tryz.underlying36 hi hz0 hz1 hz2 rfl (by decide) _ _ _ rfl (World.ownsRow_made w #[] 0 (Nat.le_refl _) (Nat.zero_le _) rfl) ⟨b, off, none⟩ l.length cap (cs l) rfl ?qc1 ?qc2 ?qc3 ?qc4 ?qc5 ?qc6 ?_)
  case qc1 => simp [cs]
  case qc2 =>
    intro j u hj
    have hjn : j < l.length := by
      have := (List.getElem?_eq_some_iff.1 hj).1
      simpa [cs] using this
    rw [Addr.add_lit]
    refine Lib.cell?_alloc_some _ ?_
    rw [HC.out j hjn, ← hj]
    simp [cs, hjn]
  case qc3 => intro u hu; obtain ⟨x, _, rfl⟩ := List.mem_map.1 hu; rfl
  case qc4 => have := HL.out; unfold maxLen; omega
  case qc5 => have := HL.out; omega
  case qc6 => simp
  intro v' w1 hown hgrow hnil
  go_wp2
  refine bodyPost_ret (by simp [results, Tryz.results58, go_sem]; try rfl) rfl ?_
  refine ⟨v', rfl, by simpa using hown, ?_⟩
  exact ((Below.refl _ w).alloc (Nat.le_refl _) _).grown hgrow (by simp) (by intro k hk; simp [Value.ownBlock] at hk; omega)
end Go.Proofs.YtlgghcffmnofdaaGreatDoor.Sh
