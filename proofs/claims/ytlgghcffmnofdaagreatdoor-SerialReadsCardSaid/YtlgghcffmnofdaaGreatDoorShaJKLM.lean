/-
  Several texts in one: ShaJ, ShaK, ShaL, ShaM.
-/
import Derived.Lib.BufferOwn
import Derived.Laws.Bits64b
import Derived.BigQuiet
import Derived.Test.YtlgghcffmnofdaaGreatDoorMildAll
import Derived.Test.YtlgghcffmnofdaaGreatDoorShaCQ
import Derived.Test.YtlgghcffmnofdaaGreatDoorShaDQ
import Derived.Test.YtlgghcffmnofdaaGreatDoorShaEGHI
import Derived.Test.YtlgghcffmnofdaaGreatDoorShaFQ

/-
  The words behind blocks; a hash in memory.
-/
namespace Go.Proofs.YtlgghcffmnofdaaGreatDoor.Sh
open Go Go.RowKit Go.Proofs.YtlgghcffmnofdaaGreatDoor.Cn Go.Proofs.YtlgghcffmnofdaaGreatDoor.Nu
set_option maxRecDepth 100000

theorem nextS_lt (K W st : Nat → Nat) (i : Nat) : nextS K W st i < 18446744073709551616 := Nat.mod_lt _ (by decide)
theorem nxS_ex (K W st : Nat → Nat) : ∃ f : Nat → Nat, f = nextS K W st := ⟨_, rfl⟩
/-- The words behind a block (none evaluates it). -/
noncomputable def nxS (K W st : Nat → Nat) : Nat → Nat := Classical.choose (nxS_ex K W st)
theorem nxS_eq (K W st : Nat → Nat) : nxS K W st = nextS K W st := Classical.choose_spec (nxS_ex K W st)
theorem nxS_lt (K W st : Nat → Nat) (i : Nat) : nxS K W st i < 18446744073709551616 := by rw [nxS_eq]; exact nextS_lt K W st i

theorem block_nx (K st : Nat → Nat) (l : List UInt8) (v : Value) (g : Nat) (left n size : Value) (w : World) (hv : Bsl w v l) (hlen : l.length = 128) (hst : ∀ i, i < 8 → st i < 18446744073709551616)
    (hg : w.heap[g]? = some (.cells (hrow st left n size) 229 (0, 0))) (hK : Wd w 6 80 K) :
    Calls Tryz.prog 135 #[.pointer (some ⟨g, 0, none⟩), v] w fun e w' => e = .returned (.tuple #[]) ∧ w.grownBy w' (some g) ∧ w'.heap[g]? = some (.cells (hrow (nxS K (wtab l 80) st) left n size) 229 (0, 0)) := by
  have h := block_any K st l v g left n size w hv hlen hst hg hK
  rw [← nxS_eq] at h
  exact h

/-- The words behind some blocks of a list. -/
noncomputable def absS (K : Nat → Nat) (l : List UInt8) (st : Nat → Nat) : Nat → Nat → Nat
  | 0 => st
  | k + 1 => nxS K (wtab ((l.drop (128 * k)).take 128) 80) (absS K l st k)
theorem absS_lt (K : Nat → Nat) (l : List UInt8) (st : Nat → Nat) (h : ∀ i, i < 8 → st i < 18446744073709551616) (k i : Nat) (hi : i < 8) : absS K l st k i < 18446744073709551616 := by
  cases k with
  | zero => exact h i hi
  | succ k => exact nxS_lt _ _ _ _
theorem absS_append (K : Nat → Nat) (l m : List UInt8) (st : Nat → Nat) : ∀ k, 128 * k ≤ l.length → absS K (l ++ m) st k = absS K l st k
  | 0, _ => rfl
  | k + 1, h => by
    show nxS K _ (absS K (l ++ m) st k) = nxS K _ (absS K l st k)
    rw [absS_append K l m st k (by omega)]
    congr 2
    rw [List.drop_append_of_le_length (by omega), List.take_append_of_le_length (by rw [List.length_drop]; omega)]

/-- A hash lies in memory: its words behind whole blocks of a text, and what is left of it. -/
def HashAt (w : World) (g : Nat) (K st : Nat → Nat) (l : List UInt8) (size : Nat) : Prop :=
  ∃ left, w.heap[g]? = some (.cells (hrow (absS K l st (l.length / 128)) left (.int .i64 l.length) (.int .i64 size)) 229 (0, 0)) ∧ Bsl w left (l.drop (128 * (l.length / 128)))

/-- Bytes that lie beside a hash stay where it is turned. -/
theorem bsl_beside {w w' : World} {v left n size : Value} {l : List UInt8} {g : Nat} {st : Nat → Nat} {t : TypeId} (h : Bsl w v l) (hg : w.heap[g]? = some (.cells (hrow st left n size) t (0, 0))) (hl : ∃ a x c, left = .slice a x c) (hn : ∃ x, n = .int .i64 x) (hs : ∃ x, size = .int .i64 x)
    (hgr : w.grownBy w' (some g)) : Bsl w' v l := by
  obtain ⟨a, cap, rfl, hcap, hc⟩ := h
  refine ⟨a, cap, rfl, hcap, fun j hj => ?_⟩
  obtain ⟨b, off, rfl, h2⟩ := hc j hj
  refine ⟨b, off, rfl, hgr.cell h2 ?_⟩
  intro e
  obtain rfl : b = g := Option.some.inj e
  rw [cell_of_row w b _ _ _ _ hg] at h2
  obtain ⟨a', x', c', rfl⟩ := hl
  obtain ⟨n', rfl⟩ := hn
  obtain ⟨s', rfl⟩ := hs
  generalize off + j = i at *
  unfold hrow at h2
  rcases i with _ | _ | _ | _ | _ | _ | _ | _ | _ | _ | _ | i <;> simp at h2
/-- Parts beside a hash stay. -/
theorem parts_beside {w w' : World} {left n size : Value} {b : Nat} {vs : List Value} {ps : List (List UInt8)} {g : Nat} {st : Nat → Nat} {t : TypeId} (h : Parts w b vs ps) (hg : w.heap[g]? = some (.cells (hrow st left n size) t (0, 0))) (hl : ∃ a x c, left = .slice a x c) (hn : ∃ x, n = .int .i64 x) (hs : ∃ x, size = .int .i64 x)
    (hgr : w.grownBy w' (some g)) : Parts w' b vs ps := by
  refine ⟨h.len, fun i hi => hgr.cell (h.at_ i hi) ?_, fun i hi hi' => bsl_beside (h.bsl i hi hi') hg hl hn hs hgr, Nat.lt_of_lt_of_le h.lt hgr.size⟩
  intro e
  obtain rfl : b = g := Option.some.inj e
  have h0 := h.at_ 0 (by omega)
  rw [cell_of_row w b _ _ _ _ hg] at h0
  obtain ⟨a', x', he, _⟩ := h.bsl 0 (by omega) (by have := h.len; omega)
  rw [he] at h0
  simp [hrow] at h0
/-- The rounds' words beside a hash stay. -/
theorem wd_beside {w w' : World} {left n size : Value} {b m g : Nat} {f : Nat → Nat} {st : Nat → Nat} {t : TypeId} (h : Wd w b m f) (hm : 8 < m) (hg : w.heap[g]? = some (.cells (hrow st left n size) t (0, 0))) (hl : ∃ a x c, left = .slice a x c) (hgr : w.grownBy w' (some g)) : Wd w' b m f := by
  have hne : b ≠ g := by
    intro e
    subst e
    have h0 := h.at_ 8 hm
    rw [cell_of_row w b _ _ _ _ hg] at h0
    obtain ⟨a, x, c, rfl⟩ := hl
    simp [hrow] at h0
  have hb : w'.heap[b]? = w.heap[b]? := hgr.block b h.lt (by intro e; exact hne (Option.some.inj e))
  exact ⟨fun i hi => (World.cell?_of_block (w := w) hb).trans (h.at_ i hi), Nat.lt_of_lt_of_le h.lt hgr.size, fun i => (World.frozen?_of_block (w := w) hb).trans (h.thaw i)⟩

theorem bsl_slice {w : World} {v : Value} {l : List UInt8} (h : Bsl w v l) : ∃ a x c, v = .slice a x c := by
  obtain ⟨a, c, rfl, _, _⟩ := h
  exact ⟨_, _, _, rfl⟩
/-- A part of bytes. -/
theorem Bsl.sub {w : World} {b off n cap : Nat} {l : List UInt8} (h : Bsl w (.slice (some ⟨b, off, none⟩) n cap) l) (i k c : Nat) (hik : i + k ≤ l.length) (hc : k ≤ c) : Bsl w (.slice (some ⟨b, off + i, none⟩) k c) ((l.drop i).take k) := by
  obtain ⟨a, cap', he, hcap, hcl⟩ := h
  simp only [Value.slice.injEq] at he
  obtain ⟨rfl, rfl, rfl⟩ := he
  have hlen : ((l.drop i).take k).length = k := by simp; omega
  refine ⟨_, c, by rw [hlen], by rw [hlen]; exact hc, fun j hj => ⟨b, off + i, rfl, ?_⟩⟩
  rw [hlen] at hj
  obtain ⟨b', o', h1, h2⟩ := hcl (i + j) (by omega)
  cases h1
  rw [Nat.add_assoc, h2]
  simp
/-- What is left behind a part. -/
theorem Bsl.rest {w : World} {b off m cap q : Nat} {l : List UInt8} (h : Bsl w (.slice (some ⟨b, off, none⟩) m cap) (l.drop (128 * q))) (hm : 128 ≤ m) : Bsl w (.slice (if cap = 128 then some ⟨b, off, none⟩ else some ⟨b, off + 128, none⟩) (m - 128) (cap - 128)) (l.drop (128 * (q + 1))) := by
  have hlen : m = (l.drop (128 * q)).length ∧ m ≤ cap := by
    obtain ⟨a, c, he, hc, _⟩ := h
    simp only [Value.slice.injEq] at he
    omega
  have e : l.drop (128 * (q + 1)) = (l.drop (128 * q)).drop 128 := by rw [List.drop_drop]; congr 1
  by_cases hc : cap = 128
  · rw [if_pos hc]
    have hm8 : m = 128 := by omega
    have hz : l.drop (128 * (q + 1)) = [] := by
      rw [e]
      exact List.drop_eq_nil_of_le (by omega)
    rw [hz, hm8]
    exact ⟨_, _, rfl, by simp, fun j hj => absurd hj (Nat.not_lt_zero j)⟩
  · rw [if_neg hc]
    have h2 := Bsl.sub h 128 (m - 128) (cap - 128) (by omega) (by omega)
    rw [List.take_of_length_le (by rw [List.length_drop]; omega)] at h2
    rw [e]
    exact h2
theorem parts2 {w : World} {v1 v2 : Value} {l1 l2 : List UInt8} {t : TypeId} (h1 : Bsl w v1 l1) (h2 : Bsl w v2 l2) : Parts (w.alloc (.cells #[v1, v2] t)) w.heap.size [v1, v2] [l1, l2] := by
  have hb := (Below.refl w.heap.size w).alloc (Nat.le_refl _) (.cells #[v1, v2] t)
  refine ⟨rfl, fun i hi => ?_, fun i hi hi' => ?_, by simp⟩
  · rw [cell_of_row _ w.heap.size i _ _ _ (heap_alloc_new w _)]
    obtain rfl | rfl : i = 0 ∨ i = 1 := by simp at hi; omega
    all_goals rfl
  · obtain rfl | rfl : i = 0 ∨ i = 1 := by simp at hi; omega
    · exact h1.below hb
    · exact h2.below hb
theorem parts1 {w : World} {v1 : Value} {l1 : List UInt8} {t : TypeId} (h1 : Bsl w v1 l1) : Parts (w.alloc (.cells #[v1] t)) w.heap.size [v1] [l1] := by
  have hb := (Below.refl w.heap.size w).alloc (Nat.le_refl _) (.cells #[v1] t)
  refine ⟨rfl, fun i hi => ?_, fun i hi hi' => ?_, by simp⟩
  · rw [cell_of_row _ w.heap.size i _ _ _ (heap_alloc_new w _)]
    obtain rfl : i = 0 := by simp at hi; omega
    rfl
  · obtain rfl : i = 0 := by simp at hi; omega
    exact h1.below hb
end Go.Proofs.YtlgghcffmnofdaaGreatDoor.Sh

/-
  The walk of sha.Hash.Add.
-/
namespace Go.Proofs.YtlgghcffmnofdaaGreatDoor.Sh
open Go Go.RowKit Go.Proofs.YtlgghcffmnofdaaGreatDoor.Cn Go.Proofs.YtlgghcffmnofdaaGreatDoor.Nu
set_option linter.unusedSimpArgs false
set_option maxRecDepth 100000

set_option maxHeartbeats 16000000 in
theorem add_any (K st : Nat → Nat) (vs : List Value) (ps : List (List UInt8)) (b cap g size : Nat) (l : List UInt8) (w : World) (hp : Parts w b vs ps) (hh : HashAt w g K st l size) (hst : ∀ i, i < 8 → st i < 18446744073709551616)
    (hK : Wd w 6 80 K) (hn : (l ++ ps.flatten).length < 100000000) (hpl : ps.length < 1000) :
    Calls Tryz.prog 92 #[.pointer (some ⟨g, 0, none⟩), .slice (some ⟨b, 0, none⟩) vs.length cap] w fun e w' => e = .returned (.tuple #[]) ∧ w.grownBy w' (some g) ∧ HashAt w' g K st (l ++ ps.flatten) size := by
  have HP := Lib.hid hp
  have HH := Lib.hid hh
  have HST := Lib.hid hst
  have HKW := Lib.hid hK
  have HN := Lib.hid (And.intro hn hpl)
  clear hp hh hst hK hn hpl
  go_enter Tryz.func92, Tryz.ntmps92
  go_wp2_with fail
  go_loopw [9] (fun c wr => ∃ k : Nat, k ≤ vs.length ∧ c = .int .i64 k ∧ w.grownBy wr (some g) ∧ HashAt wr g K st (l ++ (ps.take k).flatten) size) (fun c _ => vs.length - (intOf c).toNat)
  case atStart => exact ⟨0, by omega, rfl, World.grownBy.refl _ _, by simpa using HH.out⟩
  case round =>
    obtain ⟨k, hk, rfl, hgr, hat⟩ := hrel
    by_cases hkl : k < vs.length
    · have hkp : k < ps.length := by rw [← HP.out.len]; exact hkl
      have hlt : decide ((k : Int) < (vs.length : Int)) = true := decide_eq_true (by omega)
      have hk0 : (0 : Int) ≤ (k : Int) := by omega
      have hk2 : (k : Int) < (vs.length : Int) := by omega
      have hk1 : IntKind.i64.wrap ((k : Int) + 1) = (k : Int) + 1 := by have := HN.out.2; rw [IntKind.wrap_i64]; omega
      obtain ⟨left0, hg0, hb0⟩ := HH.out
      have PR := parts_beside HP.out hg0 (bsl_slice hb0) ⟨_, rfl⟩ ⟨_, rfl⟩ hgr
      have HK1 := Lib.hid (wd_beside HKW.out (by decide) hg0 (bsl_slice hb0) hgr)
      obtain ⟨a, c', he, hc1, hc2⟩ := PR.bsl k hkl hkp
      have ck := PR.at_ k hkl
      have HPB := Lib.hid (PR.bsl k hkl hkp)
      rw [he] at ck HPB
      have lk := PR.lt
      obtain ⟨left, hg, hb⟩ := hat
      have HT : Hid (l ++ (ps.take (k + 1)).flatten = (l ++ (ps.take k).flatten) ++ ps[k]) := Lib.hid (by
        rw [List.take_succ_eq_append_getElem hkp, List.flatten_append, List.append_assoc]
        simp)
      have hle : (l ++ (ps.take (k + 1)).flatten).length ≤ (l ++ ps.flatten).length := by
        conv => rhs; rw [← List.take_append_drop (k + 1) ps, List.flatten_append, List.length_append]
        rw [List.length_append]
        simp
      have HLE : Hid ((l ++ (ps.take k).flatten).length + (ps[k]).length < 100000000) := Lib.hid (by
        rw [← List.length_append, ← HT.out]
        exact Nat.lt_of_le_of_lt hle HN.out.1)
      have HKL := Lib.hid hkl
      clear hle he hc1 hc2 PR hg0 hb0 left0 hk hkl
      generalize l ++ (ps.take k).flatten = T at *
      generalize ps[k] = p at *
      obtain ⟨pn, hpn⟩ : ∃ n, n = p.length := ⟨_, rfl⟩
      obtain ⟨tn, htn⟩ : ∃ n, n = T.length := ⟨_, rfl⟩
      obtain ⟨sn, hsn⟩ : ∃ n, n = tn + pn := ⟨_, rfl⟩
      obtain ⟨q0, hq0⟩ : ∃ q, q = T.length / 128 := ⟨_, rfl⟩
      rw [← hq0] at hg hb
      have hq1 : 128 * q0 ≤ T.length := by omega
      have HQ0 := Lib.hid (And.intro hq0 hq1)
      have hwn : IntKind.i64.wrap ((tn : Int) + (pn : Int)) = (sn : Int) := by have := HLE.out; rw [IntKind.wrap_i64]; omega
      have HSN : Hid (sn = (T ++ p).length) := Lib.hid (by rw [List.length_append]; omega)
      rw [← hpn] at ck HPB
      rw [← htn] at hg
      have c9 : wr.cell? ⟨g, 9, none⟩ = some (.int .i64 tn) := by rw [cell_of_row wr g 9 _ _ _ hg]; rfl
      have f9 : wr.frozen? ⟨g, 9, none⟩ = false := frozen_of_row wr g 9 _ _ hg
      have lg := md_heap_lt hg
      have HG := Lib.hid hg
      have HB := Lib.hid hb
      have HTN := Lib.hid htn
      clear hg hb hpn htn hsn hkp hq0 hq1
      go_upto_region 4 with (fail)
      have gr1 : wr.grownBy (wr.setCell ⟨g, 9, none⟩ (.int .i64 (sn : Int))) (some g) := Lib.grownBy_setCell wr g 9 _
      have HG1 : Hid ((wr.setCell ⟨g, 9, none⟩ (.int .i64 (sn : Int))).heap[g]? = some (.cells (hrow (absS K T st q0) left (.int .i64 sn) (.int .i64 size)) 229 (0, 0))) := Lib.hid (heap_setCell_same wr g 9 _ _ (.int .i64 (sn : Int)) HG.out)
      have HPB1 := Lib.hid (bsl_beside HPB.out HG.out (bsl_slice HB.out) ⟨_, rfl⟩ ⟨_, rfl⟩ gr1)
      have HB1 := Lib.hid (bsl_beside HB.out HG.out (bsl_slice HB.out) ⟨_, rfl⟩ ⟨_, rfl⟩ gr1)
      have HK2 := Lib.hid (wd_beside HK1.out (by decide) HG.out (bsl_slice HB.out) gr1)
      have hgr1 := Lib.hid (Lib.grownBy_trans hgr gr1)
      generalize wr.setCell ⟨g, 9, none⟩ (.int .i64 (sn : Int)) = w1 at *
      obtain ⟨la, ln, lc, rfl⟩ := bsl_slice HB1.out
      have c8 : w1.cell? ⟨g, 8, none⟩ = some (.slice la ln lc) := by rw [cell_of_row w1 g 8 _ _ _ HG1.out]; rfl
      have lg1 := md_heap_lt HG1.out
      clear HG HB HPB HK1 gr1 hgr c9 f9 lg ck lk hwn
      have HPT := Lib.hid (parts2 (t := 36) HB1.out HPB1.out)
      have HT2 : Hid ([T.drop (128 * q0), p].flatten = (T ++ p).drop (128 * q0)) := Lib.hid (by
        rw [List.drop_append_of_le_length HQ0.out.2]
        simp)
      have hdl : ((T ++ p).drop (128 * q0)).length ≤ sn := by rw [List.length_drop, HSN.out]; omega
      have HCC := Lib.hid (concat_any [.slice la ln lc, .slice a pn c'] [T.drop (128 * q0), p] w1.heap.size 2 _ HPT.out (by rw [HT2.out]; have := HLE.out; have := HSN.out; rw [List.length_append] at this; omega) (by simp))
      rw [HT2.out] at HCC
      have HAB := Lib.hid (absS_append K T p st q0 HQ0.out.2)
      rw [← HAB.out] at HG1
      clear hdl HPT
      go_wp2_with fail
      refine HCC.out.mono ?_
      rintro e w2 ⟨v', rfl, own2, hb2⟩
      have B2 := ((Below.refl w1.heap.size w1).alloc (Nat.le_refl _) _).trans (hb2.mono (by simp))
      have HG2 := Lib.hid (Vo.heap_below HG1.out B2)
      have HBV := Lib.hid (Bsl.owns own2)
      have HK3 := Lib.hid (HK2.out.below B2)
      have hgr2 := Lib.hid (Lib.grownBy_below hgr1.out B2)
      clear own2 hb2 HG1 HK2 hgr1 HCC c8 lg1 HB1 HPB1 HT2 HAB B2
      have hq1 : 128 * q0 ≤ (T ++ p).length := by have := HQ0.out.2; rw [List.length_append]; omega
      have HQ1 := Lib.hid hq1
      clear hq1 HQ0
      generalize T ++ p = T2 at *
      go_wp2_with fail
      go_loopw [6] (fun v wx => ∃ q : Nat, 128 * q ≤ T2.length ∧ Bsl wx v (T2.drop (128 * q)) ∧ w.grownBy wx (some g) ∧ Wd wx 6 80 K ∧ wx.heap[g]? = some (.cells (hrow (absS K T2 st q) (.slice la ln lc) (.int .i64 sn) (.int .i64 size)) 229 (0, 0))) (fun v _ => sliceLen v)
      case atStart => exact ⟨q0, HQ1.out, HBV.out, hgr2.out, HK3.out, HG2.out⟩
      case round =>
        obtain ⟨q, hq, hbv, hgrx, hKx, hgx⟩ := hrel
        clear HG2 HBV HK3 hgr2
        obtain ⟨ad, cap6, hve, hcap6, hcc⟩ := hbv
        obtain ⟨m, hm⟩ : ∃ m, m = (T2.drop (128 * q)).length := ⟨_, rfl⟩
        have hml : m = T2.length - 128 * q := by rw [hm, List.length_drop]
        rw [← hm] at hve hcap6
        by_cases hm128 : 128 ≤ m
        · obtain ⟨vb, vo, rfl⟩ : ∃ vb vo, ad = some ⟨vb, vo, none⟩ := by
            obtain ⟨b', o', h1, _⟩ := hcc 0 (by omega)
            exact ⟨b', o', h1⟩
          subst hve
          have HBV := Lib.hid (show Bsl wr (.slice (some ⟨vb, vo, none⟩) m cap6) (T2.drop (128 * q)) from ⟨_, _, by rw [hm], by rw [← hm]; exact hcap6, hcc⟩)
          have hge : decide ((128 : Int) ≤ (m : Int)) = true := decide_eq_true (by omega)
          have hc1 : (128 : Int) ≤ (cap6 : Int) := by omega
          have hc2 : (128 : Int) ≤ (m : Int) := by omega
          have HML := Lib.hid (And.intro hml (And.intro hq (And.intro hm128 hcap6)))
          have HBLK := Lib.hid (fun w (h : Bsl w (.slice (some ⟨vb, vo, none⟩) 128 cap6) ((T2.drop (128 * q)).take 128)) hg hK => block_nx K (absS K T2 st q) ((T2.drop (128 * q)).take 128) (.slice (some ⟨vb, vo, none⟩) 128 cap6) g (.slice la ln lc) (.int .i64 sn) (.int .i64 size) w h (by rw [List.length_take, ← hm]; omega) (fun i hi => absS_lt K T2 st HST.out q i hi) hg hK)
          have HGX := Lib.hid hgx
          have HKX := Lib.hid hKx
          have HGR := Lib.hid hgrx
          have hlg := md_heap_lt hgx
          clear hm hml hq hm128 hcc hcap6 hgx hKx hgrx
          go_upto_region 6 with (fail)
          (refine wp_region_mildF 5 [false, false, false, false, false] (by kernel_rfl) (by kernel_rfl) ?_; simp only [List.take_succ_cons, List.take_zero, List.drop_succ_cons, List.drop_zero])
          (apply wpMildF_const; (focus (intro wm hm; have hrw := fun p h => Go.RowKit.Below.cell (p := p) hm h; go_simp; exact rfl)); simp only [List.cons_append, List.nil_append])
          (apply wpMildF_const; (focus (intro wm hm; have hrw := fun p h => Go.RowKit.Below.cell (p := p) hm h; go_simp; exact rfl)); simp only [List.cons_append, List.nil_append])
          (apply wpMildF_const; (focus (intro wm hm; have hrw := fun p h => Go.RowKit.Below.cell (p := p) hm h; go_simp; exact rfl)); simp only [List.cons_append, List.nil_append])
          (apply wpMildF_const; (focus (intro wm hm; have hrw := fun p h => Go.RowKit.Below.cell (p := p) hm h; go_simp; exact rfl)); simp only [List.cons_append, List.nil_append])
          (apply wpMildF_const; (focus (intro wm hm; have hrw := fun p h => Go.RowKit.Below.cell (p := p) hm h; go_simp; exact rfl)); simp only [List.cons_append, List.nil_append])
          (refine wpMildF_nil ?_; intro wm hm; simp only [mildAllF, MWord.blk_at, md_off, forall_eq, forall_exists_index, and_imp, and_true, true_implies, Act.put, List.setIfInBounds_toArray, List.set_cons_succ, List.set_cons_zero, forall_eq_apply_imp_iff])
          have hb1 := HBV.out.below hm
          have hg1 := Vo.heap_below HGX.out hm
          have hK1 := HKX.out.below hm
          have hgr1 := Lib.grownBy_below HGR.out hm
          have HSUB : Hid (Bsl wm (.slice (some ⟨vb, vo, none⟩) 128 cap6) ((T2.drop (128 * q)).take 128)) := Lib.hid (by
            have := Bsl.sub hb1 0 128 cap6 (by have := HML.out; rw [List.length_drop]; omega) (by have := HML.out; omega)
            simpa using this)
          have HB1 := Lib.hid hb1
          have HG1 := Lib.hid hg1
          have HK1 := Lib.hid hK1
          have HGR1 := Lib.hid hgr1
          clear hb1 hg1 hK1 hgr1 hm HBV HGX HKX HGR hlg
          go_wp2_with fail
          refine (HBLK.out _ HSUB.out HG1.out HK1.out).mono ?_
          rintro e w3 ⟨rfl, hgr3, hg3⟩
          have HB3 := Lib.hid (bsl_beside HB1.out HG1.out ⟨_, _, _, rfl⟩ ⟨_, rfl⟩ ⟨_, rfl⟩ hgr3)
          have HK3 := Lib.hid (wd_beside HK1.out (by decide) HG1.out ⟨_, _, _, rfl⟩ hgr3)
          have HGR3 := Lib.hid (Lib.grownBy_trans HGR1.out hgr3)
          have HG3 := Lib.hid hg3
          clear hgr3 hg3 HB1 HG1 HK1 HGR1 HSUB HBLK
          go_wp2_with fail
          go_roundw
          case rel =>
            exact ⟨q + 1, by have := HML.out; omega, Bsl.rest HB3.out HML.out.2.2.1, HGR3.out, HK3.out, HG3.out⟩
          case measure => have := HML.out; simp [sliceLen]; omega
        · subst hve
          have hge : decide ((128 : Int) ≤ (m : Int)) = false := decide_eq_false (by omega)
          have HQE : Hid (q = T2.length / 128) := Lib.hid (by omega)
          have HBV : Hid (Bsl wr (.slice ad m cap6) (T2.drop (128 * q))) := Lib.hid ⟨_, _, by rw [hm], by rw [← hm]; exact hcap6, hcc⟩
          have f8 : wr.frozen? ⟨g, 8, none⟩ = false := frozen_of_row wr g 8 _ _ hgx
          have c8 : wr.cell? ⟨g, 8, none⟩ = some (.slice la ln lc) := by rw [cell_of_row wr g 8 _ _ _ hgx]; rfl
          have lg := md_heap_lt hgx
          have HGX := Lib.hid hgx
          have HGR := Lib.hid hgrx
          clear hcc hm hml hq hm128 hcap6 hgx hgrx hKx
          go_wp2_with fail
          go_roundw
          case rel =>
            have hg1 : (wr.setCell ⟨g, 8, none⟩ (.slice ad m cap6)).heap[g]? = some (.cells (hrow (absS K T2 st q) (.slice ad m cap6) (.int .i64 sn) (.int .i64 size)) 229 (0, 0)) := heap_setCell_same wr g 8 _ _ (.slice ad m cap6) HGX.out
            have gr1 := Lib.grownBy_setCell wr g 8 (.slice ad m cap6)
            have hb1 := bsl_beside HBV.out HGX.out ⟨_, _, _, rfl⟩ ⟨_, rfl⟩ ⟨_, rfl⟩ gr1
            refine ⟨k + 1, HKL.out, by simp, Lib.grownBy_trans HGR.out gr1, ?_⟩
            rw [HT.out]
            rw [HQE.out, HSN.out] at hg1
            rw [HQE.out] at hb1
            exact ⟨_, hg1, hb1⟩
          case measure => have := HKL.out; simp [intOf]; omega
    · have hkl2 : k = vs.length := by omega
      subst hkl2
      have hlt2 : decide ((vs.length : Int) < (vs.length : Int)) = false := by simp
      have htk : ps.take vs.length = ps := by rw [HP.out.len, List.take_length]
      rw [htk] at hat
      have hzs := hgr.size
      clear hk hkl htk
      go_wp2
      refine bodyPost_end (v := .tuple #[]) (by simp [results, Tryz.results92, go_sem]; try rfl) rfl ?_
      exact ⟨rfl, hgr, hat⟩
end Go.Proofs.YtlgghcffmnofdaaGreatDoor.Sh

/-
  The walk of sha.Hash.Sum.
-/
namespace Go.Proofs.YtlgghcffmnofdaaGreatDoor.Sh
open Go Go.RowKit Go.Proofs.YtlgghcffmnofdaaGreatDoor.Cn Go.Proofs.YtlgghcffmnofdaaGreatDoor.Nu
set_option linter.unusedSimpArgs false
set_option maxRecDepth 100000

/-- Bytes, filled up; their sum. -/
def fillL (l : List UInt8) : List UInt8 := l ++ tailL l.length
noncomputable def shaN (K st : Nat → Nat) (l : List UInt8) (size : Nat) : List UInt8 := (sbytes (absS K (fillL l) st ((fillL l).length / 128)) 64).take size
theorem lens_length (n k : Nat) : (lens n k).length = k := by simp [lens]
theorem tailL_length (n : Nat) : (tailL n).length = padN n + 17 := by rw [tailL, List.length_append, tail0_length, lens_length]
theorem padN_lt (n : Nat) : padN n < 128 := Nat.mod_lt _ (by decide)
theorem shaN_length (K st : Nat → Nat) (l : List UInt8) (size : Nat) (h : size ≤ 64) : (shaN K st l size).length = size := by
  rw [shaN, List.length_take, sbytes_length]; omega

/-- A slice of 64 bytes. -/
def SumW (l : List UInt8) : MWord := fun v w => ∃ gg cap, v = .slice (some ⟨gg, 0, none⟩) 64 cap ∧ 64 ≤ cap ∧ Bsl w v l
theorem SumW.stays {l : List UInt8} {v : Value} {w w' : World} (h : SumW l v w) (hb : Below w.heap.size w w') : SumW l v w' := by
  obtain ⟨gg, cap, h1, h2, h3⟩ := h
  exact ⟨gg, cap, h1, h2, h3.below hb⟩
theorem sbytes_mild (st : Nat → Nat) (g : Nat) (left n size : Value) (t : TypeId) (w : World) (hg : w.heap[g]? = some (.cells (hrow st left n size) t (0, 0))) :
    Calls Tryz.prog 137 #[.pointer (some ⟨g, 0, none⟩)] w fun e w' => ∃ v, e = .returned v ∧ Below w.heap.size w w' ∧ SumW (sbytes st 64) v w' := by
  refine (sbytes_any st g w (fun i hi => by rw [cell_of_row w g i _ _ _ hg]; exact hrow_at st _ _ _ i hi) (md_heap_lt hg)).mono ?_
  rintro e w' ⟨v, rfl, hown, hb⟩
  obtain ⟨gg, cap, rfl, hcap⟩ := own_slice hown
  exact ⟨_, rfl, hb, gg, cap, rfl, hcap, Bsl.owns (by rw [sbytes_length]; exact hown)⟩

set_option maxHeartbeats 4000000 in
theorem clone_empty (a : Option Addr) (c : Nat) (w : World) :
    Calls Tryz.prog 58 #[.slice a 0 c] w fun e w' => ∃ v', e = .returned v' ∧ Bsl w' v' [] ∧ Below w.heap.size w w' := by
  obtain ⟨i0, hi, hz0, hz1, hz2⟩ := info_parts (show (Tryz.prog.info? 5).map (fun i => (i.zero, i.size, i.bytes)) = some (some (.int .u8 0), 1, 1) by kernel_rfl)
  have q22 : ∀ (w : World) (a : Option Addr) (n c n' c' : Nat), (binOp .eql 36 (.slice a n c) (.slice none n' c')).run Tryz.prog w = .ok (.bool a.isNone) w := fun w a n c n' c' => Lib.run_eql_slice_nil w _ _ a n c n' c' Tryz.underlying36
  cases a with
  | none =>
    go_enter Tryz.func58, Tryz.ntmps58
    go_wp2
    refine bodyPost_ret (by simp [results, Tryz.results58, go_sem]; try rfl) rfl ?_
    exact ⟨_, rfl, Bsl.nil _, Below.refl _ _⟩
  | some ad =>
    go_enter Tryz.func58, Tryz.ntmps58
    go_wp2_with (at_builtin; go_must (refine Vo.wpList_append_zero _ rfl _ _ 36 rfl 5 i0 Tryz.underlying36 hi _ _ _ _ _ rfl rfl (Nat.le_refl _) ?_))
    go_wp2
    refine bodyPost_ret (by simp [results, Tryz.results58, go_sem]; try rfl) rfl ?_
    refine ⟨_, rfl, ⟨_, _, rfl, Nat.le_refl _, fun j hj => absurd hj (Nat.not_lt_zero j)⟩, ?_⟩
    exact (Below.refl _ w).alloc (Nat.le_refl _) _

theorem clone_all (l : List UInt8) (v : Value) (w : World) (hv : Bsl w v l) (hlen : l.length < 1000000000) :
    Calls Tryz.prog 58 #[v] w fun e w' => ∃ v', e = .returned v' ∧ Bsl w' v' l ∧ Below w.heap.size w w' := by
  by_cases hl : 0 < l.length
  · refine (clone_any l v w hv hl hlen).mono ?_
    rintro e w' ⟨v', rfl, hown, hb⟩
    exact ⟨v', rfl, Bsl.owns hown, hb⟩
  · obtain rfl : l = [] := List.eq_nil_of_length_eq_zero (by omega)
    obtain ⟨a, c, rfl, _, _⟩ := hv
    exact clone_empty a c w

set_option maxHeartbeats 16000000 in
theorem sum_any (K st : Nat → Nat) (l : List UInt8) (g size : Nat) (w : World) (hh : HashAt w g K st l size) (hst : ∀ i, i < 8 → st i < 18446744073709551616) (hK : Wd w 6 80 K) (hn : l.length < 10000000) (hs : size ≤ 64) :
    Calls Tryz.prog 93 #[.pointer (some ⟨g, 0, none⟩)] w fun e w' => ∃ b cap, e = .returned (.slice (some ⟨b, 0, none⟩) size cap) ∧ Bsl w' (.slice (some ⟨b, 0, none⟩) size cap) (shaN K st l size) ∧ Below w.heap.size w w' := by
  obtain ⟨left, hg, hb⟩ := hh
  obtain ⟨la, ln, lc, rfl⟩ := bsl_slice hb
  have HST := Lib.hid hst
  have HKW := Lib.hid hK
  have HN := Lib.hid hn
  have HS := Lib.hid hs
  have HG := Lib.hid hg
  have HB := Lib.hid hb
  have hgl := md_heap_lt hg
  obtain ⟨S, hS⟩ : ∃ S, S = absS K l st (l.length / 128) := ⟨_, rfl⟩
  have HSS := Lib.hid hS
  rw [← hS] at HG hg
  obtain ⟨n, hnn⟩ : ∃ n, n = l.length := ⟨_, rfl⟩
  have HNN := Lib.hid hnn
  rw [← hnn] at HG hg
  have c0 : w.cell? ⟨g, 0, none⟩ = some (w64 (S 0)) := by rw [cell_of_row w g 0 _ _ _ hg]; rfl
  have c1 : w.cell? ⟨g, 1, none⟩ = some (w64 (S 1)) := by rw [cell_of_row w g 1 _ _ _ hg]; rfl
  have c2 : w.cell? ⟨g, 2, none⟩ = some (w64 (S 2)) := by rw [cell_of_row w g 2 _ _ _ hg]; rfl
  have c3 : w.cell? ⟨g, 3, none⟩ = some (w64 (S 3)) := by rw [cell_of_row w g 3 _ _ _ hg]; rfl
  have c4 : w.cell? ⟨g, 4, none⟩ = some (w64 (S 4)) := by rw [cell_of_row w g 4 _ _ _ hg]; rfl
  have c5 : w.cell? ⟨g, 5, none⟩ = some (w64 (S 5)) := by rw [cell_of_row w g 5 _ _ _ hg]; rfl
  have c6 : w.cell? ⟨g, 6, none⟩ = some (w64 (S 6)) := by rw [cell_of_row w g 6 _ _ _ hg]; rfl
  have c7 : w.cell? ⟨g, 7, none⟩ = some (w64 (S 7)) := by rw [cell_of_row w g 7 _ _ _ hg]; rfl
  have c8 : w.cell? ⟨g, 8, none⟩ = some (.slice la ln lc) := by rw [cell_of_row w g 8 _ _ _ hg]; rfl
  have c9 : w.cell? ⟨g, 9, none⟩ = some (.int .i64 n) := by rw [cell_of_row w g 9 _ _ _ hg]; rfl
  have c10 : w.cell? ⟨g, 10, none⟩ = some (.int .i64 size) := by rw [cell_of_row w g 10 _ _ _ hg]; rfl
  clear hg hb hst hK hn hs hS hnn
  go_enter Tryz.func93, Tryz.ntmps93
  go_upto_region 2 with (fail)
  have B0 := (Below.refl w.heap.size w).alloc (Nat.le_refl _) (Obj.cells (hrow S (.slice la ln lc) (.int .i64 n) (.int .i64 size)) 229)
  have G0 : (w.alloc (Obj.cells (hrow S (.slice la ln lc) (.int .i64 n) (.int .i64 size)) 229)).heap[w.heap.size]? = some (.cells (hrow S (.slice la ln lc) (.int .i64 n) (.int .i64 size)) 229 (0, 0)) := heap_alloc_new _ _
  rw [show Obj.cells (hrow S (.slice la ln lc) (.int .i64 n) (.int .i64 size)) 229 = Obj.cells #[w64 (S 0), w64 (S 1), w64 (S 2), w64 (S 3), w64 (S 4), w64 (S 5), w64 (S 6), w64 (S 7), .slice la ln lc, .int .i64 n, .int .i64 size] 229 from rfl] at B0
  have G1 : (w.alloc (Obj.cells #[w64 (S 0), w64 (S 1), w64 (S 2), w64 (S 3), w64 (S 4), w64 (S 5), w64 (S 6), w64 (S 7), .slice la ln lc, .int .i64 n, .int .i64 size] 229)).heap[w.heap.size]? = some (.cells (hrow S (.slice la ln lc) (.int .i64 n) (.int .i64 size)) 229 (0, 0)) := G0
  clear G0
  generalize w.alloc (Obj.cells #[w64 (S 0), w64 (S 1), w64 (S 2), w64 (S 3), w64 (S 4), w64 (S 5), w64 (S 6), w64 (S 7), .slice la ln lc, .int .i64 n, .int .i64 size] 229) = w0 at *
  have d8 := (B0.cell (p := ⟨g, 8, none⟩) hgl).trans c8
  have HCL := Lib.hid (clone_all _ _ w0 (HB.out.below B0) (by have := HN.out; rw [List.length_drop]; omega))
  have HG1 := Lib.hid G1
  have HGL := Lib.hid hgl
  have HB0 := Lib.hid B0
  have HC9 := Lib.hid c9
  have HC10 := Lib.hid c10
  have hgl0 := Nat.lt_of_lt_of_le hgl B0.size
  clear c0 c1 c2 c3 c4 c5 c6 c7 c8 c9 c10 G1 B0 hgl HG HB
  go_wp2_with fail
  refine HCL.out.mono ?_
  rintro e w1 ⟨v', rfl, hbv, hb1⟩
  clear HCL d8 hgl0
  obtain ⟨va, vn, vc, rfl⟩ := bsl_slice hbv
  have g1 := Vo.heap_below HG1.out hb1
  have B1 := HB0.out.trans (hb1.mono HB0.out.size)
  have f8 : w1.frozen? ⟨w.heap.size, 8, none⟩ = false := frozen_of_row w1 w.heap.size 8 _ _ g1
  have c8 : w1.cell? ⟨w.heap.size, 8, none⟩ = some (.slice la ln lc) := by rw [cell_of_row w1 w.heap.size 8 _ _ _ g1]; rfl
  have hl8 := md_heap_lt g1
  have HG1' := Lib.hid g1
  have HB1 := Lib.hid B1
  have HBV := Lib.hid hbv
  clear HG1 HB0 g1 B1 hbv hb1
  go_upto_region 3 with (fail)
  have gr2 := Lib.grownBy_setCell w1 w.heap.size 8 (.slice va vn vc)
  have HG2 : Hid ((w1.setCell ⟨w.heap.size, 8, none⟩ (.slice va vn vc)).heap[w.heap.size]? = some (.cells (hrow S (.slice va vn vc) (.int .i64 n) (.int .i64 size)) 229 (0, 0))) := Lib.hid (heap_setCell_same w1 w.heap.size 8 _ _ (.slice va vn vc) HG1'.out)
  have HBV2 := Lib.hid (bsl_beside HBV.out HG1'.out ⟨_, _, _, rfl⟩ ⟨_, rfl⟩ ⟨_, rfl⟩ gr2)
  have HB2 := Lib.hid (HB1.out.setCell (p := ⟨w.heap.size, 8, none⟩) (Nat.le_refl _) (.slice va vn vc))
  clear gr2 HG1' HBV HB1 f8 c8 hl8
  generalize w1.setCell ⟨w.heap.size, 8, none⟩ (.slice va vn vc) = w2 at *
  have c9 := (HB2.out.cell (p := ⟨g, 9, none⟩) HGL.out).trans HC9.out
  have HTA := Lib.hid (fun w => tail_any n w (by have := HN.out; have := HNN.out; omega))
  have hgl2 := Nat.lt_of_lt_of_le HGL.out HB2.out.size
  go_wp2_with fail
  refine (HTA.out _).mono ?_
  rintro e w3 ⟨tv, rfl, own3, hb3⟩
  have HTV : Hid (Bsl w3 tv (tailL n)) := Lib.hid (Bsl.owns (by rw [tailL_length]; exact own3))
  have HB3 := Lib.hid (HB2.out.trans (hb3.mono HB2.out.size))
  have HG3 := Lib.hid (Vo.heap_below HG2.out hb3)
  have HBV3 := Lib.hid (HBV2.out.below hb3)
  clear own3 hb3 HB2 HG2 HBV2 c9 hgl2 HTA
  obtain ⟨ta, tn, tc, rfl⟩ := bsl_slice HTV.out
  have HP3 := Lib.hid (parts1 (t := 36) HTV.out)
  have hba := (Below.refl w3.heap.size w3).alloc (Nat.le_refl _) (Obj.cells #[.slice ta tn tc] 36)
  have HHA : Hid (HashAt (w3.alloc (Obj.cells #[.slice ta tn tc] 36)) w.heap.size K st l size) := Lib.hid (by
    refine ⟨.slice va vn vc, ?_, HBV3.out.below hba⟩
    have h := Vo.heap_below HG3.out hba
    rw [HSS.out, HNN.out] at h
    exact h)
  have HK4 := Lib.hid ((HKW.out.belowB (HKW.out.lt) HB3.out).below hba)
  have HFL : Hid (l ++ [tailL n].flatten = fillL l) := Lib.hid (by rw [HNN.out]; simp [fillL])
  have HADD := Lib.hid (add_any K st [.slice ta tn tc] [tailL n] w3.heap.size 1 w.heap.size size l _ HP3.out HHA.out HST.out HK4.out (by
    have := padN_lt l.length
    have := HN.out
    rw [HFL.out, fillL, List.length_append, tailL_length]
    omega) (by simp))
  rw [HFL.out] at HADD
  clear hba HP3 HK4 HFL HTV HG3 HBV3 HHA
  go_wp2_with fail
  refine HADD.out.mono ?_
  rintro e w4 ⟨rfl, hgr4, hat4⟩
  have B4 : Below w.heap.size w w4 := (HB3.out.alloc HB3.out.size _).grown hgr4 (by have := HB3.out.size; simp; omega) (by intro k hk; cases hk; exact Nat.le_refl _)
  clear HADD hgr4 HB3
  obtain ⟨lv, hg4, hbl4⟩ := hat4
  have c10 := (B4.cell (p := ⟨g, 10, none⟩) HGL.out).trans HC10.out
  have hgl4 := Nat.lt_of_lt_of_le HGL.out B4.size
  have HX : Hid (shaN K st l size = (sbytes (absS K (fillL l) st ((fillL l).length / 128)) 64).take size) := Lib.hid rfl
  generalize absS K (fillL l) st ((fillL l).length / 128) = ST at *
  have HG4 := Lib.hid hg4
  have HB4 := Lib.hid B4
  clear hg4 hbl4 B4 HSS HNN HC9 HKW HST
  go_upto_region 4 with (fail)
  (refine wp_region_mildF 6 [false, false, false, false, false, false] (by kernel_rfl) (by kernel_rfl) ?_; simp only [List.take_succ_cons, List.take_zero, List.drop_succ_cons, List.drop_zero])
  (apply wpMildF_const; (focus (intro wm hm; have hrw := fun p h => Go.RowKit.Below.cell (p := p) hm h; go_simp; exact rfl)); simp only [List.cons_append, List.nil_append])
  (apply wpMildF_call; (focus (intro wm hm; have hrw := fun p h => Go.RowKit.Below.cell (p := p) hm h; go_simp; (exact sbytes_mild ST w.heap.size lv _ _ 229 _ (Vo.heap_below HG4.out hm)))); (focus (first | exact Go.md_stays_eq _ | (intro v w w' h hb; first | exact Bsl.below h hb | exact Sizes.stays _ _ _ h hb | (obtain ⟨c, h1, h2, h3⟩ := h; exact ⟨c, h1, h2, Vo.heap_below h3 hb⟩) | exact SumW.stays h hb))); simp only [List.cons_append, List.nil_append])
  (apply wpMildF_const; (focus (intro wm hm; have hrw := fun p h => Go.RowKit.Below.cell (p := p) hm h; go_simp; exact rfl)); simp only [List.cons_append, List.nil_append])
  (apply wpMildF_const; (focus (intro wm hm; have hrw := fun p h => Go.RowKit.Below.cell (p := p) hm h; go_simp; exact rfl)); simp only [List.cons_append, List.nil_append])
  (apply wpMildF_const; (focus (intro wm hm; have hrw := fun p h => Go.RowKit.Below.cell (p := p) hm h; go_simp; exact rfl)); simp only [List.cons_append, List.nil_append])
  (apply wpMildF_const; (focus (intro wm hm; have hrw := fun p h => Go.RowKit.Below.cell (p := p) hm h; go_simp; exact rfl)); simp only [List.cons_append, List.nil_append])
  (refine wpMildF_nil ?_; intro wm hm; simp only [mildAllF, MWord.blk_at, md_off, forall_eq, forall_exists_index, and_imp, and_true, true_implies, Act.put, List.setIfInBounds_toArray, List.set_cons_succ, List.set_cons_zero, forall_eq_apply_imp_iff])
  intro v hv
  obtain ⟨gg, cap, rfl, hcap, hbs⟩ := hv
  have hs0 : (0 : Int) ≤ (size : Int) := by omega
  have hs1 : (size : Int) ≤ (cap : Int) := by have := HS.out; omega
  have B5 := HB4.out.trans (hm.mono HB4.out.size)
  have hzs := B5.size
  have HR : Hid (Bsl wm (.slice (some ⟨gg, 0, none⟩) size cap) (shaN K st l size)) := Lib.hid (by
    have := Bsl.sub hbs 0 size cap (by rw [sbytes_length]; have := HS.out; omega) (by have := HS.out; omega)
    rw [HX.out]
    simpa using this)
  clear hm hbs hcap c10 hgl4 HG4 HB4
  go_wp2
  refine bodyPost_ret (by simp [results, Tryz.results93, go_sem]; try rfl) rfl ?_
  exact ⟨_, _, rfl, HR.out, B5⟩
end Go.Proofs.YtlgghcffmnofdaaGreatDoor.Sh

/-
  The walks of sha.Sum512, Sum384.
-/
namespace Go.Proofs.YtlgghcffmnofdaaGreatDoor.Sh
open Go Go.RowKit Go.Proofs.YtlgghcffmnofdaaGreatDoor.Cn Go.Proofs.YtlgghcffmnofdaaGreatDoor.Nu Go.Proofs.YtlgghcffmnofdaaGreatDoor.St
set_option maxRecDepth 100000

/-- A block of bytes. -/
abbrev brow (l : List UInt8) : Array Value := (cs l).toArray
def Bw (w : World) (b : Nat) (l : List UInt8) (t : TypeId) : Prop := w.heap[b]? = some (.cells (brow l) t (0, 0))
theorem brow_size (l : List UInt8) : (brow l).size = l.length := by simp [brow, cs]
theorem brow_one (l : List UInt8) : (brow l).all (·.oneCell') = true := by
  rw [Array.all_eq_true_iff_forall_mem]
  intro v hv
  simp only [brow, cs, List.mem_toArray, List.mem_map] at hv
  obtain ⟨i, _, rfl⟩ := hv
  rfl
theorem Bw.below {w w' : World} {b : Nat} {l : List UInt8} {t : TypeId} (h : Bw w b l t) (hb : Below w.heap.size w w') : Bw w' b l t := Vo.heap_below h hb
theorem Bw.bsl {w : World} {b : Nat} {l : List UInt8} {t : TypeId} (h : Bw w b l t) : Bsl w (.slice (some ⟨b, 0, none⟩) l.length l.length) l := by
  refine ⟨_, _, rfl, Nat.le_refl _, fun j hj => ⟨b, 0, rfl, ?_⟩⟩
  rw [Nat.zero_add, cell_of_row w b j _ _ _ h]
  simp [brow, cs, hj]

/-- An array read out of cells. -/
theorem run_loadVar_list {P : Program} (w : World) (a : Addr) (ty : TypeId) (xs : List Value) (d : TypeDesc) (h : ∀ j v, xs[j]? = some v → w.cell? (a.add j) = some v)
    (hu : P.underlying ty = some d) (hd : (match d with | .struct _ | .array _ _ => true | _ => false) = true) (hi : (P.info? ty).map (·.size) = some xs.length) :
    (loadVar ty a).run P w = .ok (.agg xs.toArray) w := by
  have hl : (loadCells a xs.length).run P w = .ok xs.toArray w := run_loadCells_list (P := P) w a xs h
  cases hq : P.info? ty with
  | none => simp [hq] at hi
  | some i =>
    have hs : i.size = xs.length := by simpa [hq] using hi
    have hagg : (isAgg ty).run P w = .ok true w := by
      unfold isAgg
      rw [Sem.run_bind, run_underlying hu w]
      cases d <;> simp_all
    simp [loadVar, Sem.run_bind, hagg, sizeOf, typeInfo, hq, hs, hl]
theorem bsl_cellAt {w : World} {b off n cap : Nat} {l : List UInt8} (h : Bsl w (.slice (some ⟨b, off, none⟩) n cap) l) : ∀ j v, (cs l)[j]? = some v → w.cell? ((⟨b, off, none⟩ : Addr).add j) = some v := by
  intro j v hj
  obtain ⟨a, c, he, _, hc⟩ := h
  simp only [Value.slice.injEq] at he
  obtain ⟨rfl, rfl, rfl⟩ := he
  have hjl : j < l.length := by
    have := (List.getElem?_eq_some_iff.1 hj).1
    simpa [cs] using this
  obtain ⟨b', o', h1, h2⟩ := hc j hjl
  cases h1
  rw [Addr.add_lit, h2, ← hj]
  simp [cs, hjl]

theorem run_arr64 (a : Addr) (n c : Nat) (hn : 64 ≤ n) (w : World) : (Instr.arrayAt 207 (.slice (some a) n c)).run Tryz.prog w = .ok (.pointer (some a)) w := by
  have h : ¬ n < 64 := by omega
  simp [Instr.arrayAt, run_underlying Tryz.underlying207, h]
theorem run_load64 {w : World} {b off n cap : Nat} {l : List UInt8} (h : Bsl w (.slice (some ⟨b, off, none⟩) n cap) l) (hl : l.length = 64) : (Instr.loadAt 207 (.pointer (some ⟨b, off, none⟩))).run Tryz.prog w = .ok (.agg (brow l)) w := by
  have := run_loadVar_list (P := Tryz.prog) w ⟨b, off, none⟩ 207 (cs l) _ (bsl_cellAt h) Tryz.underlying207 rfl (by rw [show (cs l).length = 64 by simp [cs, hl]]; kernel_rfl)
  simp [Instr.loadAt, Instr.sureAddr, this]
theorem run_store64 {w : World} {c : Nat} {l m : List UInt8} {t : TypeId} (h : Bw w c l t) (hl : l.length = 64) (hm : m.length = 64) : (Instr.storeAt 207 (.pointer (some ⟨c, 0, none⟩)) (.agg (brow m))).run Tryz.prog w = .ok () (w.setRow c (brow m)) := by
  have := run_storeVar_row (P := Tryz.prog) w c t 207 (brow l) (brow m) h (by rw [brow_size, hm]; kernel_rfl) (by rw [brow_size, brow_size, hl, hm]) (brow_one _)
  simp [Instr.storeAt, Instr.sureAddr, this]
theorem bw_set {w : World} {c : Nat} {l : List UInt8} {t : TypeId} (h : Bw w c l t) (m : List UInt8) : Bw (w.setRow c (brow m)) c m t := setRow_heap w c _ _ t _ h

set_option maxHeartbeats 16000000 in
theorem sum512_any (K st : Nat → Nat) (vs : List Value) (ps : List (List UInt8)) (b cap : Nat) (w : World) (hp : Parts w b vs ps) (hst : ∀ i, i < 8 → st i < 18446744073709551616)
    (hS : Wd w 2 8 st) (hK : Wd w 6 80 K) (hn : ps.flatten.length < 10000000) (hpl : ps.length < 1000) :
    Calls Tryz.prog 128 #[.slice (some ⟨b, 0, none⟩) vs.length cap] w fun e w' => e = .returned (.agg (brow (shaN K st ps.flatten 64))) ∧ Below w.heap.size w w' := by
  have HP := Lib.hid hp
  have HST := Lib.hid hst
  have HSW := Lib.hid hS
  have HKW := Lib.hid hK
  have HN := Lib.hid (And.intro hn hpl)
  clear hp hst hS hK hn hpl
  obtain ⟨R, hR⟩ : ∃ R, R = shaN K st ps.flatten 64 := ⟨_, rfl⟩
  have HRL : Hid (R.length = 64) := Lib.hid (by rw [hR]; exact shaN_length K st _ 64 (by decide))
  have HRE := Lib.hid hR
  rw [← hR]
  clear hR
  go_enter Tryz.func128, Tryz.ntmps128
  go_upto_region 1 with (fail)
  refine wp_start1 ?_
  intro w0 B0 hO
  have A0 : Bw w0 w.heap.size (List.replicate 64 0) 207 := hO
  clear hO
  go_wp2_with fail
  refine (new512_any st _ (HSW.out.below B0)).mono ?_
  rintro e w1 ⟨rfl, hb1, hh1⟩
  have B1 := B0.trans (hb1.mono B0.size)
  have HB1 := Lib.hid B1
  have A1 := Lib.hid (A0.below hb1)
  have hgl : w.heap.size < w0.heap.size := md_heap_lt A0
  obtain ⟨g, hg⟩ : ∃ g, g = w0.heap.size := ⟨_, rfl⟩
  rw [← hg] at hgl hh1 ⊢
  have HHA : Hid (HashAt w1 g K st [] 64) := Lib.hid ⟨_, hh1, Bsl.nil _⟩
  have HGL := Lib.hid hgl
  have HADD := Lib.hid (add_any K st vs ps b cap g 64 [] w1 (HP.out.below B1) HHA.out HST.out (HKW.out.below B1) (by simpa using (show ps.flatten.length < 100000000 by have := HN.out.1; omega)) HN.out.2)
  clear B0 A0 hb1 B1 hh1 hg hgl
  go_wp2_with fail
  refine HADD.out.mono ?_
  rintro e w2 ⟨rfl, hgr2, hat2⟩
  have hK2 : Wd w2 6 80 K := by
    obtain ⟨left, h1, h2⟩ := HHA.out
    exact wd_beside (HKW.out.below HB1.out) (by decide) h1 (bsl_slice h2) hgr2
  have A2 : Hid (Bw w2 w.heap.size (List.replicate 64 0) 207) := Lib.hid ((hgr2.block _ (md_heap_lt A1.out) (by intro e; have := Option.some.inj e; have := HGL.out; omega)).trans A1.out)
  have HB2 : Hid (Below w.heap.size w w2) := Lib.hid (HB1.out.grown hgr2 HB1.out.size (by intro k hk; cases hk; exact Nat.le_of_lt HGL.out))
  rw [List.nil_append] at hat2
  have HSUM := Lib.hid (sum_any K st ps.flatten g 64 w2 hat2 HST.out hK2 HN.out.1 (by decide))
  rw [← HRE.out] at HSUM
  clear hK2 hat2 hgr2 HADD HHA A1 HB1 HSW HKW HST HP HRE
  go_upto_region 3 with (fail)
  refine wp_region_lit ?_
  refine st_move rfl rfl rfl ?_
  refine st_call HSUM.out (by go_simp) rfl rfl (by simp [Act.put, Act.eval]) ?_
  rintro e w3 ⟨sb, sc, rfl, hbs, hb3⟩
  refine ⟨_, rfl, ?_⟩
  refine st_arr (run_arr64 ⟨sb, 0, none⟩ 64 sc (by decide) w3) rfl rfl rfl ?_
  refine st_load (run_load64 hbs HRL.out) rfl rfl rfl ?_
  have A3 := A2.out.below hb3
  refine st_store (run_store64 A3 (by decide) HRL.out) rfl rfl rfl rfl ?_
  simp only [Act.put]
  have A4 := bw_set A3 R
  have B4 := Go.below_setRow (HB2.out.trans (hb3.mono HB2.out.size)) (Nat.le_refl _) (brow R)
  generalize w3.setRow w.heap.size (brow R) = w4 at *
  clear A3 hbs hb3 A2 HB2 HSUM
  have hzs := B4.size
  go_wp2
  refine bodyPost_ret (v := .agg (brow R)) ?_ rfl ?_
  · exact results_cell Tryz.results128 rfl (run_loadVar_row (P := Tryz.prog) w4 w.heap.size 207 207 (brow R) (0, 0) _ A4 Tryz.underlying207 rfl (by rw [brow_size, HRL.out]; kernel_rfl))
  · exact ⟨rfl, B4⟩
end Go.Proofs.YtlgghcffmnofdaaGreatDoor.Sh
