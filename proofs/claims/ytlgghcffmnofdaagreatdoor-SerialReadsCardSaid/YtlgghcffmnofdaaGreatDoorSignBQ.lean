/-
  The walks of residue.Num.Bytes and curve.Point.Bytes.
-/
import Derived.Test.YtlgghcffmnofdaaGreatDoorCoinAll
import Derived.Test.YtlgghcffmnofdaaGreatDoorCurveCQ

namespace Go.Proofs.YtlgghcffmnofdaaGreatDoor.Nu
open Go Go.RowKit Go.Proofs.YtlgghcffmnofdaaGreatDoor.Cn
set_option linter.unusedSimpArgs false
set_option maxRecDepth 100000

/-- A number's byte. -/
def byteN (n i : Nat) : Nat := lim n (i / 8) / 2 ^ (8 * (i % 8)) % 256
def bytesN (n k : Nat) : List UInt8 := (List.range k).map fun i => UInt8.ofNat (byteN n i)
theorem bytesN_length (n k : Nat) : (bytesN n k).length = k := by simp [bytesN]
theorem bytesN_succ (n k : Nat) : bytesN n (k + 1) = bytesN n k ++ [UInt8.ofNat (byteN n k)] := by simp [bytesN, List.range_succ]
theorem byteN_lt (n i : Nat) : byteN n i < 256 := Nat.mod_lt _ (by decide)

theorem Wd.belowB {w w' : World} {b n B : Nat} {f : Nat → Nat} (h : Wd w b n f) (hB : b < B) (hb : Below B w w') : Wd w' b n f :=
  ⟨fun i hi => by rw [hb.cell hB]; exact h.at_ i hi, Nat.lt_of_lt_of_le h.lt hb.size, fun i => by rw [hb.frozen hB]; exact h.thaw i⟩

set_option maxHeartbeats 4000000 in
theorem nbytes_any (n : Nat) (w : World) :
    Calls Tryz.prog 185 #[numV n] w fun e w' => ∃ v, e = .returned v ∧ w'.ownsRow w.heap.size 5 1 v 32 (cs (bytesN n 32)) ∧ Below w.heap.size w w' := by
  obtain ⟨i0, hi, hz0, hz1, hz2⟩ := info_parts (show (Tryz.prog.info? 5).map (fun i => (i.zero, i.size, i.bytes)) = some (some (.int .u8 0), 1, 1) by kernel_rfl)
  go_enter Tryz.func185, Tryz.ntmps185
  go_wp2_with fail
  go_loopw [3, 5] (fun v c wr => ∃ k : Nat, k ≤ 32 ∧ c = .int .i64 k ∧ wr.ownsRow (w.heap.size + 1) 5 1 v k (cs (bytesN n k)) ∧ Below w.heap.size w wr ∧ Wd wr w.heap.size 4 (lim n)) (fun _ c _ => 32 - (intOf c).toNat)
  case atStart => exact ⟨0, by omega, rfl, World.ownsRow_nil _ _ _ _, (Below.refl _ _).alloc (Nat.le_refl _) _, wd_row (heap_alloc_new _ _)⟩
  case round =>
    obtain ⟨k, hk, rfl, hown, bel, RN⟩ := hrel
    by_cases hk32 : k < 32
    · have hlt : decide ((k : Int) < 32) = true := decide_eq_true (by omega)
      have hk0 : (0 : Int) ≤ (k : Int) := by omega
      have hk1 : IntKind.i64.wrap ((k : Int) + 1) = (k : Int) + 1 := by rw [IntKind.wrap_i64]; omega
      have hq : (k : Int).tdiv 8 = ((k / 8 : Nat) : Int) := by rw [Int.tdiv_eq_ediv_of_nonneg hk0]; omega
      have hr : (k : Int).tmod 8 = ((k % 8 : Nat) : Int) := by rw [Int.tmod_eq_emod_of_nonneg hk0]; omega
      have hs : IntKind.i64.wrap (8 * ((k % 8 : Nat) : Int)) = ((8 * (k % 8) : Nat) : Int) := by rw [IntKind.wrap_i64]; omega
      have hq4 : (k / 8 : Nat) < 4 := by omega
      have hq0 : (0 : Int) ≤ ((k / 8 : Nat) : Int) := by omega
      have hq5 : ((k / 8 : Nat) : Int) < 4 := by omega
      have hs0 : (0 : Int) ≤ ((8 * (k % 8) : Nat) : Int) := by omega
      have hs5 : ((8 * (k % 8) : Nat) : Int) < 64 := by omega
      have hb : IntKind.u8.wrap (((lim n (k / 8) : Nat) : Int) / 2 ^ (8 * (k % 8))) = ((byteN n k : Nat) : Int) := by
        have e : (((lim n (k / 8) : Nat) : Int) / 2 ^ (8 * (k % 8))) = ((lim n (k / 8) / 2 ^ (8 * (k % 8)) : Nat) : Int) := by push_cast; rfl
        rw [e]
        unfold byteN
        generalize lim n (k / 8) / 2 ^ (8 * (k % 8)) = z
        rw [IntKind.wrap_u8]
        omega
      have cq := RN.at_ (k / 8) hq4
      have lq := RN.lt
      have HBS := Lib.hid (bytesN_succ n k)
      have HBL := Lib.hid (byteN_lt n k)
      have HK := Lib.hid hk32
      have HR := Lib.hid RN
      clear hq4 hk RN hk32
      generalize 8 * (k % 8) = s at *
      generalize k % 8 = r at *
      generalize k / 8 = q at *
      generalize byteN n k = b at *
      have hsz := bel.size
      go_wp2_with (at_builtin; go_must (refine wpList_append_own _ rfl _ _ 36 rfl (w.heap.size + 1) 5 i0 (.int .u8 0) 1 1 Tryz.underlying36 hi hz0 hz1 hz2 rfl (by decide) _ _ _ rfl (World.ownsRow.alloc (w := wr) hown _) ⟨wr.heap.size, 0, none⟩ 1 1 [.int .u8 (b : Int)] rfl rfl (cell_one_new _ _ _) (by intro u hu; simp at hu; subst hu; rfl) (by have := HK.out; unfold maxLen; omega) (by have := HK.out; omega) (by have := HK.out; simp; omega) ?_))
      intro v' w2 own2 hgrow _
      have hB : Below (w.heap.size + 1) wr w2 := ((Below.refl (w.heap.size + 1) wr).alloc (by omega) _).grown hgrow (by simp; omega) (Vo.own_ge hown (Nat.le_refl _))
      have own3 : w2.ownsRow (w.heap.size + 1) 5 1 v' (k + 1) (cs (bytesN n (k + 1))) := by
        have e : cs (bytesN n (k + 1)) = cs (bytesN n k) ++ [Value.int .u8 (b : Int)] := by
          rw [HBS.out, cs_append]
          simp only [cs, List.map_cons, List.map_nil, UInt8.toNat_ofNat']
          rw [Nat.mod_eq_of_lt (show b < 2 ^ 8 from HBL.out)]
        rw [e]
        exact own2
      have bel2 : Below w.heap.size w w2 := bel.trans (hB.mono (by omega))
      have HR2 := Lib.hid (HR.out.belowB (by omega) hB)
      clear hown hgrow own2 hB bel HR cq lq hs0 hs5 hr hs hq hq0 hq5 hb
      go_wp2_with fail
      go_roundw
      case rel => exact ⟨k + 1, by have := HK.out; omega, by simp, own3, bel2, HR2.out⟩
      case measure => have := HK.out; simp [intOf]; omega
    · obtain rfl : k = 32 := by omega
      have hzs := bel.size
      clear hk hk32
      go_wp2
      refine bodyPost_ret (by simp [results, Tryz.results185, go_sem]; try rfl) rfl ?_
      exact ⟨_, rfl, Vo.owns_base hown (by omega), bel⟩

theorem own_slice {w : World} {base : Nat} {e : TypeId} {size k : Nat} {v : Value} {xs : List Value} (h : w.ownsRow base e size v (k + 1) xs) : ∃ g cap, v = .slice (some ⟨g, 0, none⟩) (k + 1) cap ∧ k + 1 ≤ cap := by
  rcases h.2 with ⟨_, h1⟩ | ⟨g, cap, cur, h1, _, _, h2, _⟩
  · omega
  · exact ⟨g, cap, h1, h2⟩

/-- A point's bytes. -/
def topN (x y : Nat) : Nat := byteN y 31 ||| lim x 0 % 2 * 128
def pbytes (x y : Nat) : List UInt8 := (bytesN y 32).set 31 (UInt8.ofNat (topN x y))
theorem pbytes_length (x y : Nat) : (pbytes x y).length = 32 := by rw [pbytes, List.length_set, bytesN_length]
theorem topN_lt (x y : Nat) : topN x y < 256 := Nat.or_lt_two_pow (n := 8) (byteN_lt y 31) (by show _ < 256; omega)
theorem u8_wraps (n : Int) (h0 : 0 ≤ n) (h1 : n < 2 ^ 8) : IntKind.u8.wrap n = n := by rw [IntKind.wrap_u8]; omega

set_option maxHeartbeats 4000000 in
theorem pbytes_any (x y : Nat) (w : World) :
    Calls Tryz.prog 129 #[pointV x y] w fun e w' => ∃ v, e = .returned v ∧ w'.ownsRow w.heap.size 5 1 v 32 (cs (pbytes x y)) ∧ Below w.heap.size w w' := by
  have HNB := Lib.hid (fun w => nbytes_any y w)
  have HTL := Lib.hid (topN_lt x y)
  have hand := and1_nat (lim x 0) (lim_lt _ _)
  have hw1 : IntKind.u8.wrap ((lim x 0 % 2 : Nat) : Int) = ((lim x 0 % 2 : Nat) : Int) := u8_wraps _ (by omega) (by omega)
  have hw2 : IntKind.u8.wrap (((lim x 0 % 2 : Nat) : Int) * 128) = ((lim x 0 % 2 * 128 : Nat) : Int) := by rw [u8_wraps _ (by omega) (by omega)]; push_cast; rfl
  have hor : bits .or .u8 ((byteN y 31 : Nat) : Int) ((lim x 0 % 2 * 128 : Nat) : Int) = ((topN x y : Nat) : Int) := (bits_nat .u8 8 (by decide) u8_wraps (byteN y 31) (lim x 0 % 2 * 128) (byteN_lt y 31) (by show _ < 256; omega)).2
  have HPB : Hid (pbytes x y = (bytesN y 32).set 31 (UInt8.ofNat (topN x y))) := Lib.hid rfl
  have HB31 : Hid ((cs (bytesN y 32))[31]? = some (Value.int .u8 ((byteN y 31 : Nat) : Int))) := Lib.hid (by
    simp only [cs, bytesN, List.getElem?_map, List.getElem?_range (show 31 < 32 by decide), Option.map_some, UInt8.toNat_ofNat']
    rw [Nat.mod_eq_of_lt (show byteN y 31 < 2 ^ 8 from byteN_lt y 31)])
  generalize lim x 0 % 2 * 128 = t2 at *
  generalize lim x 0 % 2 = t1 at *
  generalize topN x y = t0 at *
  generalize byteN y 31 = b31 at *
  generalize pbytes x y = pb at *
  generalize bytesN y 32 = bl at *
  go_enter Tryz.func129, Tryz.ntmps129
  go_upto_region 1 with (fail)
  refine wp_start1 ?_
  intro w0 B0 hA
  have A0 := wd_po hA
  obtain ⟨a0, a1, a2, a3, a4, a5, a6, a7, la⟩ := wpo A0
  go_wp2_with fail
  refine (HNB.out _).mono ?_
  rintro e w1 ⟨v, rfl, hown, hb⟩
  obtain ⟨g, cap, rfl, hcap⟩ := own_slice hown
  have A1 := A0.below hb
  have B1 := B0.trans (hb.mono B0.size)
  have hgl := (hown.lt g rfl).2
  have hgw := (hown.lt g rfl).1
  have cg : w1.cell? ⟨g, 31, none⟩ = some (.int .u8 (b31 : Int)) := (hown.cellAt 31 (by decide)).trans HB31.out
  clear a0 a1 a2 a3 a4 a5 a6 a7 la A0 hA
  obtain ⟨a0, a1, a2, a3, a4, a5, a6, a7, la⟩ := wpo A1
  go_upto_region 2 with (fail)
  (refine wp_region_mildF 11 [false, false, false, false, false, false, false, false, false, false, false] (by kernel_rfl) (by kernel_rfl) ?_; simp only [List.take_succ_cons, List.take_zero, List.drop_succ_cons, List.drop_zero])
  (apply wpMildF_const; (focus (intro wm hm; have hrw := fun p h => Go.RowKit.Below.cell (p := p) hm h; go_simp; exact rfl)); simp only [List.cons_append, List.nil_append])
  (apply wpMildF_const; (focus (intro wm hm; have hrw := fun p h => Go.RowKit.Below.cell (p := p) hm h; go_simp; exact rfl)); simp only [List.cons_append, List.nil_append])
  (apply wpMildF_const; (focus (intro wm hm; have hrw := fun p h => Go.RowKit.Below.cell (p := p) hm h; go_simp; exact rfl)); simp only [List.cons_append, List.nil_append])
  (apply wpMildF_const; (focus (intro wm hm; have hrw := fun p h => Go.RowKit.Below.cell (p := p) hm h; go_simp; exact rfl)); simp only [List.cons_append, List.nil_append])
  (apply wpMildF_const; (focus (intro wm hm; have hrw := fun p h => Go.RowKit.Below.cell (p := p) hm h; go_simp; exact rfl)); simp only [List.cons_append, List.nil_append])
  (apply wpMildF_const; (focus (intro wm hm; have hrw := fun p h => Go.RowKit.Below.cell (p := p) hm h; go_simp; exact rfl)); simp only [List.cons_append, List.nil_append])
  (apply wpMildF_const; (focus (intro wm hm; have hrw := fun p h => Go.RowKit.Below.cell (p := p) hm h; go_simp; exact rfl)); simp only [List.cons_append, List.nil_append])
  (apply wpMildF_const; (focus (intro wm hm; have hrw := fun p h => Go.RowKit.Below.cell (p := p) hm h; go_simp; exact rfl)); simp only [List.cons_append, List.nil_append])
  (apply wpMildF_const; (focus (intro wm hm; have hrw := fun p h => Go.RowKit.Below.cell (p := p) hm h; go_simp; exact rfl)); simp only [List.cons_append, List.nil_append])
  (apply wpMildF_const; (focus (intro wm hm; have hrw := fun p h => Go.RowKit.Below.cell (p := p) hm h; go_simp; exact rfl)); simp only [List.cons_append, List.nil_append])
  (apply wpMildF_const; (focus (intro wm hm; have hrw := fun p h => Go.RowKit.Below.cell (p := p) hm h; go_simp; exact rfl)); simp only [List.cons_append, List.nil_append])
  (refine wpMildF_nil ?_; intro wm hm; simp only [mildAllF, MWord.blk_at, md_off, forall_eq, forall_exists_index, and_imp, and_true, true_implies, Act.put, List.setIfInBounds_toArray, List.set_cons_succ, List.set_cons_zero, forall_eq_apply_imp_iff])
  have hown2 := Vo.owns_below hown hm
  have B2 := B1.trans (hm.mono B1.size)
  have fg := hown2.frozenAt 31
  have cg2 : wm.cell? ⟨g, 31, none⟩ = some (.int .u8 (b31 : Int)) := (hown2.cellAt 31 (by decide)).trans HB31.out
  have hgl2 := (hown2.lt g rfl).2
  have hst := (hown2.stored 31 (.int .u8 (t0 : Int))).1
  have B3 := B2.setCell (p := ⟨g, 31, none⟩) (show w.heap.size ≤ g from Nat.le_trans B0.size hgw) (.int .u8 (t0 : Int))
  have hzs := B0.size
  clear a0 a1 a2 a3 a4 a5 a6 a7 la hown hm cg hgl hown2 A1 B1 B2
  go_wp2
  refine bodyPost_ret (by simp [results, Tryz.results129, go_sem]; try rfl) rfl ?_
  refine ⟨_, rfl, ?_, B3⟩
  have e : cs pb = (cs bl).set 31 (.int .u8 (t0 : Int)) := by
    rw [HPB.out]
    simp only [cs, List.map_set, UInt8.toNat_ofNat']
    rw [Nat.mod_eq_of_lt (show t0 < 2 ^ 8 from HTL.out)]
  rw [e]
  exact Vo.owns_base hst hzs
end Go.Proofs.YtlgghcffmnofdaaGreatDoor.Nu
