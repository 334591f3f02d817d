/-
  The walk of (coin.code).bytes at an alphabet of 6 bits: the bytes of a text in its signs.
-/
import Derived.Test.YtlgghcffmnofdaaGreatDoorCoinRune
import Derived.BigQuiet
import Derived.Deep.QuietTactic
import Derived.Lib.Walk
import Derived.Lib.Hide
import Derived.WalkSpells
import Derived.Test.YtlgghcffmnofdaaGreatDoorVoc
namespace Go.Proofs.YtlgghcffmnofdaaGreatDoor.Cn
open Go.RowKit

def BytesPost6 (R : Option (List UInt8 × Nat × Nat)) (w : World) (e : Ending) (w' : World) : Prop :=
  Below w.heap.size w w' ∧ match R with
  | none => e = .returned (.tuple #[.slice none 0 0, .int .i64 0, .int .i64 0, .bool false])
  | some (o, h, m) => ∃ v, e = .returned (.tuple #[v, .int .i64 h, .int .i64 m, .bool true]) ∧ w'.ownsRow w.heap.size 5 1 v o.length (cs o)

set_option maxHeartbeats 1600000 in
set_option maxRecDepth 100000 in
theorem bytes6_any (sg : ByteArray) (s : ByteArray) (w : World) (ha : ∀ c ∈ sg.data.toList, c.toNat < 128) (hs : s.size ≤ 1000000) (hsg : sg.size ≤ 2 ^ 6) :
    Calls Tryz.prog 168 #[.agg #[.string sg, .int .i64 6], .string s] w (BytesPost6 (dec sg.data.toList 6 s.data.toList [] 0 0) w) := by
  obtain ⟨i0, hi, hz0, hz1, hz2⟩ := info_parts (show (Tryz.prog.info? 5).map (fun i => (i.zero, i.size, i.bytes)) = some (some (.int .u8 0), 1, 1) by kernel_rfl)
  have HA := Lib.hid ha; clear ha
  have HI : Hid (∀ (i : Nat) (h : i < sg.size), (sg[i]'h).toNat < 128) := fun i h => HA.out _ (by
    have : sg[i] = sg.data.toList[i]'(by simpa using h) := rfl
    rw [this]; exact List.getElem_mem _)
  have hlt := fun r => at_lt sg.data.toList r 0
  have HL := Lib.hid hlt; clear hlt
  go_enter Tryz.func168, Tryz.ntmps168
  go_wp2
  go_loopw [8, 9, 10] (fun v h n wr => ∃ (k : Nat) (out : List UInt8) (held m : Nat), k ≤ s.size ∧ h = .int .i64 held ∧ n = .int .i64 m ∧ wr.heap[w.heap.size]? = some (.cells #[.string sg, .int .i64 6] 160 (0, 0)) ∧ wr.heap[w.heap.size + 1]? = some (.stringIter s k) ∧
        wr.ownsRow (w.heap.size + 2) 5 1 v out.length (cs out) ∧ Below w.heap.size w wr ∧ m < 8 ∧ m % 2 = 0 ∧ held < 2 ^ m ∧ out.length ≤ k ∧ Hid (dec sg.data.toList 6 (s.data.toList.drop k) out held m = dec sg.data.toList 6 s.data.toList [] 0 0)) (fun _ _ _ wr => s.size - wr.iterPos (w.heap.size + 1))
  case atStart =>
    refine ⟨0, [], 0, 0, Nat.zero_le _, rfl, rfl, ?_, ?_, World.ownsRow_nil _ _ _ _, ?_, by omega, rfl, by decide, by simp, by simp [Hid]⟩
    · exact heap_alloc2_old w _ _
    · exact heap_alloc2_new w _ _
    · exact ((Below.refl _ _).alloc (Nat.le_refl _) _).alloc (by simp) _
  case round =>
    obtain ⟨k, out, held, m, hk, rfl, rfl, hb0, hb1, hown, hbel, hm8, hm2, hheld, hok, HD⟩ := hrel
    by_cases hp : k < s.size
    · by_cases has : (s[k]'hp).toNat < 128
      · have hnx : ∀ ty, (Instr.next (.pointer (some ⟨w.heap.size + 1, 0, none⟩)) true ty).run Tryz.prog wr = _ := fun ty => Lib.run_next_ascii_at wr _ s k ty hb1 hp has
        have hc0 : (wr.iterAt (w.heap.size + 1) s (k + 1)).heap[w.heap.size]? = _ := (Lib.iterAt_other _ _ _ _ _ (by omega)).trans hb0
        have c0 : (wr.iterAt (w.heap.size + 1) s (k + 1)).cell? ⟨w.heap.size, 0, none⟩ = some (.string sg) := by rw [Lib.cell_of_heap hc0]; rfl
        go_wp2_with fail
        refine (runeAt_any sg _ _ HI.out).mono ?_
        rintro e w1 ⟨rfl, hb⟩
        have hge := at_ge sg.data.toList ((s[k]'hp).toNat : Int) 0
        have hle := HL.out ((s[k]'hp).toNat : Int)
        have HD' : Hid (dec sg.data.toList 6 (s[k] :: s.data.toList.drop (k + 1)) out held m = dec sg.data.toList 6 s.data.toList [] 0 0) := by
          rw [← drop_at s k hp]; exact HD
        clear HD
        simp only [Hid, dec] at HD'
        generalize at_ sg.data.toList ((s[k]'hp).toNat : Int) 0 = v at *
        have hsl : (sg.data.toList.length : Int) ≤ 2 ^ 6 := by have h9 : sg.data.toList.length = sg.size := (by simp); omega
        have b0 : w1.heap[w.heap.size]? = _ := Vo.heap_below hc0 hb
        have b1 : w1.heap[w.heap.size + 1]? = _ := Vo.heap_below (Lib.iterAt_heap _ _ _ _ _ hb1) hb
        have own1 := Vo.owns_below (Vo.owns_iterAt hown hb1 (k + 1)) hb
        have bel1 : Below w.heap.size w w1 := (Lib.below_iterAt hbel (by omega) _ _).trans (hb.mono (by rw [Lib.iterAt_size]; exact hbel.size))
        have hsz := Vo.heap_lt b1
        have c1 : w1.cell? ⟨w.heap.size, 1, none⟩ = some (.int .i64 6) := by rw [Lib.cell_of_heap b0]; rfl
        have it0 := Lib.hid hb1
        clear hown hbel hb hb1 hb0 hc0 c0 hnx
        by_cases hv : v < 0
        · have hvd : decide (v < 0) = true := decide_eq_true hv
          rw [if_pos hv] at HD'
          have HF := Lib.hid HD'; clear HD' hv hle hge hsl
          go_wp2_with fail
          refine bodyPost_ret (v := .tuple #[.slice none 0 0, .int .i64 0, .int .i64 0, .bool false]) (by simp [results, Tryz.results168, go_sem]) rfl ?_
          refine ⟨bel1, ?_⟩
          rw [← HF.out]
        · have hvd : decide (v < 0) = false := decide_eq_false hv
          rw [if_neg hv] at HD'
          obtain ⟨q, rfl⟩ := Int.eq_ofNat_of_zero_le (show 0 ≤ v by omega)
          rw [Int.toNat_natCast] at HD'
          have hq : q < 2 ^ 6 := by omega
          clear hge hle hsl hv
          have hm : m = 0 ∨ m = 2 ∨ m = 4 ∨ m = 6 := by omega
          obtain ⟨x, hx⟩ : ∃ x, x = held * 2 ^ 6 + q := ⟨_, rfl⟩
          rw [← hx] at HD'
          rcases hm with rfl | rfl | rfl | rfl
          · -- held: 0 bits
            have hx14 : x < 16384 := by omega
            have hor : bits .or .i64 ((held : Int) * 64) (q : Int) = (x : Int) := by have := Vo.or_i64 6 (held * 64) q (by omega) (by omega) (by omega) (by omega); rw [hx]; simpa using this
            rw [if_neg (by decide)] at HD'
            have HF := Lib.hid HD'; clear HD'
            have HX := Lib.hid hx; clear hx
            go_wp2_with fail
            go_quiet (fail)
            go_wp2_with fail
            go_roundw
            case rel => exact ⟨k + 1, out, x, 6, by omega, by go_num, by go_num, b0, b1, own1, Vo.below_drewN bel1 _, by omega, by omega, by have := HX.out; omega, by omega, HF⟩
            case measure =>
              have e1 : (w1.drewN nq).iterPos (w.heap.size + 1) = k + 1 := by simp [World.iterPos, b1]
              have e2 : wr.iterPos (w.heap.size + 1) = k := by simp [World.iterPos, it0.out]
              rw [e1, e2]; omega
          · -- held: 2 bits
            have hx14 : x < 16384 := by omega
            have hor : bits .or .i64 ((held : Int) * 64) (q : Int) = (x : Int) := by have := Vo.or_i64 6 (held * 64) q (by omega) (by omega) (by omega) (by omega); rw [hx]; simpa using this
            rw [if_pos (by decide)] at HD'
            have hand : bits .and .i64 (x : Int) 0 = ((x % 1 : Nat) : Int) := by have := Vo.and_i64 0 (by decide) x (by omega); simpa using this
            have HF := Lib.hid HD'; clear HD'
            have HX := Lib.hid hx; clear hx
            have hy : x / 1 < 256 := by have := HX.out; omega
            go_wp2_with fail
            go_quiet (fail)
            go_wp2_with (at_builtin; go_must (refine wpList_append_own _ rfl _ _ 36 rfl (w.heap.size + 2) 5 i0 (.int .u8 0) 1 1 Tryz.underlying36 hi hz0 hz1 hz2 rfl (by decide) _ _ _ rfl (World.ownsRow.alloc (w := w1.drewN nq) own1 _) ⟨w1.heap.size, 0, none⟩ 1 1 [.int .u8 ((x : Int))] rfl rfl (cell_one_new _ _ _) (by intro u hu; simp at hu; subst hu; rfl) (by unfold maxLen; omega) (by omega) (by simp; omega) ?_))
            intro v' w2 own2 hgrow _
            have d0 : w2.heap[w.heap.size]? = _ := Vo.heap_grown (k := w.heap.size) (w := (w1.drewN nq).alloc _) ((Below.heap_alloc _ _ _ (by simp; omega)).trans b0) hgrow (Vo.own_base own1 (by omega))
            have d1 : w2.heap[w.heap.size + 1]? = _ := Vo.heap_grown (k := w.heap.size + 1) (w := (w1.drewN nq).alloc _) ((Below.heap_alloc _ _ _ (by simp; omega)).trans b1) hgrow (Vo.own_base own1 (by omega))
            have bel2 : Below w.heap.size w w2 := ((Vo.below_drewN bel1 nq).alloc bel1.size _).grown hgrow (by have := bel1.size; simp; omega) (Vo.own_ge own1 (by omega))
            have h9 : ((x / 1 % 2 ^ 8 : Nat) : Int) = (x : Int) := by omega
            have own3 : w2.ownsRow (w.heap.size + 2) 5 1 v' (out ++ [UInt8.ofNat (x / 1)]).length (cs (out ++ [UInt8.ofNat (x / 1)])) := by
              have e : cs (out ++ [UInt8.ofNat (x / 1)]) = cs out ++ [Value.int .u8 ((x : Int))] := by
                rw [cs_append]; simp only [cs, List.map_cons, List.map_nil, UInt8.toNat_ofNat']; rw [h9]
              rw [e, List.length_append]; exact own2
            clear b0 b1 own1 bel1 hgrow own2 c1 hor hsz
            go_wp2_with fail
            go_roundw
            case rel => exact ⟨k + 1, out ++ [UInt8.ofNat (x / 1)], x % 1, 0, by omega, by go_num, by go_num, d0, d1, own3, bel2, by omega, by omega, by omega, by simp; omega, HF⟩
            case measure =>
              have e1 : w2.iterPos (w.heap.size + 1) = k + 1 := by simp [World.iterPos, d1]
              have e2 : wr.iterPos (w.heap.size + 1) = k := by simp [World.iterPos, it0.out]
              rw [e1, e2]; omega
          · -- held: 4 bits
            have hx14 : x < 16384 := by omega
            have hor : bits .or .i64 ((held : Int) * 64) (q : Int) = (x : Int) := by have := Vo.or_i64 6 (held * 64) q (by omega) (by omega) (by omega) (by omega); rw [hx]; simpa using this
            rw [if_pos (by decide)] at HD'
            have hand : bits .and .i64 (x : Int) 3 = ((x % 4 : Nat) : Int) := by have := Vo.and_i64 2 (by decide) x (by omega); simpa using this
            have HF := Lib.hid HD'; clear HD'
            have HX := Lib.hid hx; clear hx
            have hy : x / 4 < 256 := by have := HX.out; omega
            go_wp2_with fail
            go_quiet (fail)
            go_wp2_with (at_builtin; go_must (refine wpList_append_own _ rfl _ _ 36 rfl (w.heap.size + 2) 5 i0 (.int .u8 0) 1 1 Tryz.underlying36 hi hz0 hz1 hz2 rfl (by decide) _ _ _ rfl (World.ownsRow.alloc (w := w1.drewN nq) own1 _) ⟨w1.heap.size, 0, none⟩ 1 1 [.int .u8 ((x : Int) / 4)] rfl rfl (cell_one_new _ _ _) (by intro u hu; simp at hu; subst hu; rfl) (by unfold maxLen; omega) (by omega) (by simp; omega) ?_))
            intro v' w2 own2 hgrow _
            have d0 : w2.heap[w.heap.size]? = _ := Vo.heap_grown (k := w.heap.size) (w := (w1.drewN nq).alloc _) ((Below.heap_alloc _ _ _ (by simp; omega)).trans b0) hgrow (Vo.own_base own1 (by omega))
            have d1 : w2.heap[w.heap.size + 1]? = _ := Vo.heap_grown (k := w.heap.size + 1) (w := (w1.drewN nq).alloc _) ((Below.heap_alloc _ _ _ (by simp; omega)).trans b1) hgrow (Vo.own_base own1 (by omega))
            have bel2 : Below w.heap.size w w2 := ((Vo.below_drewN bel1 nq).alloc bel1.size _).grown hgrow (by have := bel1.size; simp; omega) (Vo.own_ge own1 (by omega))
            have h9 : ((x / 4 % 2 ^ 8 : Nat) : Int) = (x : Int) / 4 := by omega
            have own3 : w2.ownsRow (w.heap.size + 2) 5 1 v' (out ++ [UInt8.ofNat (x / 4)]).length (cs (out ++ [UInt8.ofNat (x / 4)])) := by
              have e : cs (out ++ [UInt8.ofNat (x / 4)]) = cs out ++ [Value.int .u8 ((x : Int) / 4)] := by
                rw [cs_append]; simp only [cs, List.map_cons, List.map_nil, UInt8.toNat_ofNat']; rw [h9]
              rw [e, List.length_append]; exact own2
            clear b0 b1 own1 bel1 hgrow own2 c1 hor hsz
            go_wp2_with fail
            go_roundw
            case rel => exact ⟨k + 1, out ++ [UInt8.ofNat (x / 4)], x % 4, 2, by omega, by go_num, by go_num, d0, d1, own3, bel2, by omega, by omega, by omega, by simp; omega, HF⟩
            case measure =>
              have e1 : w2.iterPos (w.heap.size + 1) = k + 1 := by simp [World.iterPos, d1]
              have e2 : wr.iterPos (w.heap.size + 1) = k := by simp [World.iterPos, it0.out]
              rw [e1, e2]; omega
          · -- held: 6 bits
            have hx14 : x < 16384 := by omega
            have hor : bits .or .i64 ((held : Int) * 64) (q : Int) = (x : Int) := by have := Vo.or_i64 6 (held * 64) q (by omega) (by omega) (by omega) (by omega); rw [hx]; simpa using this
            rw [if_pos (by decide)] at HD'
            have hand : bits .and .i64 (x : Int) 15 = ((x % 16 : Nat) : Int) := by have := Vo.and_i64 4 (by decide) x (by omega); simpa using this
            have HF := Lib.hid HD'; clear HD'
            have HX := Lib.hid hx; clear hx
            have hy : x / 16 < 256 := by have := HX.out; omega
            go_wp2_with fail
            go_quiet (fail)
            go_wp2_with (at_builtin; go_must (refine wpList_append_own _ rfl _ _ 36 rfl (w.heap.size + 2) 5 i0 (.int .u8 0) 1 1 Tryz.underlying36 hi hz0 hz1 hz2 rfl (by decide) _ _ _ rfl (World.ownsRow.alloc (w := w1.drewN nq) own1 _) ⟨w1.heap.size, 0, none⟩ 1 1 [.int .u8 ((x : Int) / 16)] rfl rfl (cell_one_new _ _ _) (by intro u hu; simp at hu; subst hu; rfl) (by unfold maxLen; omega) (by omega) (by simp; omega) ?_))
            intro v' w2 own2 hgrow _
            have d0 : w2.heap[w.heap.size]? = _ := Vo.heap_grown (k := w.heap.size) (w := (w1.drewN nq).alloc _) ((Below.heap_alloc _ _ _ (by simp; omega)).trans b0) hgrow (Vo.own_base own1 (by omega))
            have d1 : w2.heap[w.heap.size + 1]? = _ := Vo.heap_grown (k := w.heap.size + 1) (w := (w1.drewN nq).alloc _) ((Below.heap_alloc _ _ _ (by simp; omega)).trans b1) hgrow (Vo.own_base own1 (by omega))
            have bel2 : Below w.heap.size w w2 := ((Vo.below_drewN bel1 nq).alloc bel1.size _).grown hgrow (by have := bel1.size; simp; omega) (Vo.own_ge own1 (by omega))
            have h9 : ((x / 16 % 2 ^ 8 : Nat) : Int) = (x : Int) / 16 := by omega
            have own3 : w2.ownsRow (w.heap.size + 2) 5 1 v' (out ++ [UInt8.ofNat (x / 16)]).length (cs (out ++ [UInt8.ofNat (x / 16)])) := by
              have e : cs (out ++ [UInt8.ofNat (x / 16)]) = cs out ++ [Value.int .u8 ((x : Int) / 16)] := by
                rw [cs_append]; simp only [cs, List.map_cons, List.map_nil, UInt8.toNat_ofNat']; rw [h9]
              rw [e, List.length_append]; exact own2
            clear b0 b1 own1 bel1 hgrow own2 c1 hor hsz
            go_wp2_with fail
            go_roundw
            case rel => exact ⟨k + 1, out ++ [UInt8.ofNat (x / 16)], x % 16, 4, by omega, by go_num, by go_num, d0, d1, own3, bel2, by omega, by omega, by omega, by simp; omega, HF⟩
            case measure =>
              have e1 : w2.iterPos (w.heap.size + 1) = k + 1 := by simp [World.iterPos, d1]
              have e2 : wr.iterPos (w.heap.size + 1) = k := by simp [World.iterPos, it0.out]
              rw [e1, e2]; omega
      · have hnx : ∀ ty, (Instr.next (.pointer (some ⟨w.heap.size + 1, 0, none⟩)) true ty).run Tryz.prog wr = _ := fun ty => Lib.run_next_any_at wr _ s k ty hb1 hp
        have hhi := decode_high s k hp (by omega)
        generalize (Utf8.decode s k).2 = wd at *
        generalize (Utf8.decode s k).1 = rn at *
        have hc0 : (wr.iterAt (w.heap.size + 1) s (k + wd)).heap[w.heap.size]? = _ := (Lib.iterAt_other _ _ _ _ _ (by omega)).trans hb0
        have c0 : (wr.iterAt (w.heap.size + 1) s (k + wd)).cell? ⟨w.heap.size, 0, none⟩ = some (.string sg) := by rw [Lib.cell_of_heap hc0]; rfl
        have hat := at_high sg.data.toList (rn : Int) 0 HA.out (by omega)
        have hat2 := at_high sg.data.toList ((s[k]'hp).toNat : Int) 0 HA.out (by omega)
        have HD' : Hid (dec sg.data.toList 6 (s[k] :: s.data.toList.drop (k + 1)) out held m = dec sg.data.toList 6 s.data.toList [] 0 0) := by
          rw [← drop_at s k hp]; exact HD
        simp only [Hid, dec, hat2] at HD'
        rw [if_pos (by decide)] at HD'
        have HF := Lib.hid HD'; clear HD' HD hat2
        have HT := Lib.hid hat; clear hat
        go_wp2_with fail
        refine (runeAt_any sg _ _ HI.out).mono ?_
        rintro e w1 ⟨rfl, hb⟩
        rw [HT.out]
        have b0 : w1.heap[w.heap.size]? = _ := Vo.heap_below hc0 hb
        have bel1 : Below w.heap.size w w1 := (Lib.below_iterAt hbel (by omega) _ _).trans (hb.mono (by rw [Lib.iterAt_size]; exact hbel.size))
        clear hown hbel hb hb1 hb0 hc0 c0 hnx
        go_wp2_with fail
        refine bodyPost_ret (v := .tuple #[.slice none 0 0, .int .i64 0, .int .i64 0, .bool false]) (by simp [results, Tryz.results168, go_sem]) rfl ?_
        refine ⟨bel1, ?_⟩
        rw [← HF.out]
    · have hnx : ∀ ty, (Instr.next (.pointer (some ⟨w.heap.size + 1, 0, none⟩)) true ty).run Tryz.prog wr = _ := fun ty => Lib.run_next_end_at wr _ s k ty hb1 hp
      have hd : s.data.toList.drop k = [] := List.drop_eq_nil_of_le (by simp; omega)
      rw [hd] at HD
      have HF := Lib.hid (show some (out, held, m) = _ from HD.out); clear HD hd
      go_wp2
      refine bodyPost_ret (v := .tuple #[u8, .int .i64 held, .int .i64 m, .bool true]) (by simp [results, Tryz.results168, go_sem]) rfl ?_
      refine ⟨hbel, ?_⟩
      rw [← HF.out]
      exact ⟨_, rfl, Vo.owns_base hown (by omega)⟩
end Go.Proofs.YtlgghcffmnofdaaGreatDoor.Cn
