/-
  The walks of coin.Text, Hex, Bytes, Unhex, and (coin.code).read.
-/
import Derived.Test.YtlgghcffmnofdaaGreatDoorCoinBytes6
import Derived.Test.YtlgghcffmnofdaaGreatDoorCoinText6
namespace Go.Proofs.YtlgghcffmnofdaaGreatDoor.Cn
open Go.RowKit

def sg64 : ByteArray := ⟨#[65, 66, 67, 68, 69, 70, 71, 72, 73, 74, 75, 76, 77, 78, 79, 80, 81, 82, 83, 84, 85, 86, 87, 88, 89, 90, 97, 98, 99, 100, 101, 102, 103, 104, 105, 106, 107, 108, 109, 110, 111, 112, 113, 114, 115, 116, 117, 118, 119, 120, 121, 122, 48, 49, 50, 51, 52, 53, 54, 55, 56, 57, 45, 95]⟩
def sg16 : ByteArray := ⟨#[48, 49, 50, 51, 52, 53, 54, 55, 56, 57, 97, 98, 99, 100, 101, 102]⟩
theorem sg64_size : sg64.size = 2 ^ 6 := by decide +kernel
theorem sg16_size : sg16.size = 2 ^ 4 := by decide +kernel
theorem sg64_ascii : ∀ c ∈ sg64.data.toList, c.toNat < 128 := by decide +kernel
theorem sg16_ascii : ∀ c ∈ sg16.data.toList, c.toNat < 128 := by decide +kernel

/-- The alphabets lie in their variables. -/
def Base (w : World) : Prop := w.cell? ⟨1, 0, none⟩ = some (.string sg64) ∧ w.cell? ⟨1, 1, none⟩ = some (.int .i64 6)

theorem cell_below {w w' : World} {a : Addr} {v : Value} (h : w.cell? a = some v) (hb : Below w.heap.size w w') : w'.cell? a = some v :=
  (hb.cell (p := a) (World.block_lt_of_cell? w a h)).trans h
theorem Base.below {w w' : World} (h : Base w) (hb : Below w.heap.size w w') : Base w' := ⟨cell_below h.1 hb, cell_below h.2 hb⟩
theorem Bsl.below {w w' : World} {v : Value} {l : List UInt8} (h : Bsl w v l) (hb : Below w.heap.size w w') : Bsl w' v l := by
  obtain ⟨a, cap, rfl, hle, hc⟩ := h
  refine ⟨a, cap, rfl, hle, fun j hj => ?_⟩
  obtain ⟨b, off, rfl, h1⟩ := hc j hj
  exact ⟨b, off, rfl, cell_below h1 hb⟩
theorem Bsl.nil (w : World) : Bsl w (.slice none 0 0) [] := ⟨none, 0, rfl, Nat.le_refl _, fun j h => absurd h (Nat.not_lt_zero j)⟩
theorem Bsl.owns {w : World} {base : Nat} {v : Value} {l : List UInt8} (h : w.ownsRow base 5 1 v l.length (cs l)) : Bsl w v l := by
  rcases h.2 with ⟨rfl, h0⟩ | ⟨g, cap, cur, rfl, _, hg, hle, _, _, ht⟩
  · refine ⟨none, 0, by rw [h0], by omega, fun j hj => by omega⟩
  · refine ⟨_, _, rfl, hle, fun j hj => ⟨g, 0, rfl, ?_⟩⟩
    rw [cell_of_row w g (0 + j) cur 5 (0, 0) hg, Nat.zero_add]
    have h1 : (cur.toList.take (l.length * 1))[j]? = some (.int .u8 (l[j]'hj).toNat) := by
      rw [ht]; simp [cs, hj]
    rw [List.getElem?_take, if_pos (by omega)] at h1
    simpa using h1

/-- Bytes in an alphabet's signs. -/
def txt (sg : ByteArray) (b : Nat) (l : List UInt8) : List UInt8 := enc sg.data.toList b (4 * l.length + 1) l 0 0 []
/-- What a text in an alphabet's signs is read as: bytes and an error's number. -/
def rdOf (b : Nat) : Option (List UInt8 × Nat × Nat) → List UInt8 × Nat
  | none => ([], 2)
  | some (o, h, m) => if b ≤ m then ([], 3) else if h ≠ 0 then ([], 4) else (o, 0)
def rdv (sg : ByteArray) (b : Nat) (s : ByteArray) : List UInt8 × Nat := rdOf b (dec sg.data.toList b s.data.toList [] 0 0)

set_option maxHeartbeats 800000 in
set_option maxRecDepth 100000 in
theorem text_any (l : List UInt8) (v : Value) (w : World) (hg : Base w) (hv : Bsl w v l) (hl : l.length ≤ 1000000) :
    Calls Tryz.prog 47 #[v] w fun e w' => e = .returned (.string ⟨(txt sg64 6 l).toArray⟩) ∧ Below w.heap.size w w' := by
  obtain ⟨g0, g1⟩ := hg
  have HT := Lib.hid (text6_any sg64 l v w hv hl sg64_size)
  clear hv
  go_enter Tryz.func47, Tryz.ntmps47
  go_wp2_with fail
  refine HT.out.mono ?_
  rintro e w1 ⟨rfl, hb⟩
  go_wp2_with fail
  go_ret
  exact ⟨rfl, hb⟩

theorem rdOf_def (b : Nat) (R : Option (List UInt8 × Nat × Nat)) : rdOf b R = match R with | none => ([], 2) | some (o, h, m) => if b ≤ m then ([], 3) else if h ≠ 0 then ([], 4) else (o, 0) := by
  cases R <;> rfl

def ReadPost (r : List UInt8 × Nat) (w : World) (e : Ending) (w' : World) : Prop :=
  ∃ v, e = .returned (.tuple #[v, .int .i64 r.2]) ∧ Bsl w' v r.1 ∧ Below w.heap.size w w'

set_option maxHeartbeats 800000 in
set_option maxRecDepth 100000 in
theorem read6_any (sg s : ByteArray) (w : World) (ha : ∀ c ∈ sg.data.toList, c.toNat < 128) (hs : s.size ≤ 1000000) (hsg : sg.size ≤ 2 ^ 6) :
    Calls Tryz.prog 115 #[.agg #[.string sg, .int .i64 6], .string s, .int .i64 6] w (ReadPost (rdv sg 6 s) w) := by
  have HT := Lib.hid (fun w => bytes6_any sg s w ha hs hsg)
  have hr : rdv sg 6 s = rdOf 6 (dec sg.data.toList 6 s.data.toList [] 0 0) := rfl
  rw [hr]; clear hr
  generalize dec sg.data.toList 6 s.data.toList [] 0 0 = R at HT
  go_enter Tryz.func115, Tryz.ntmps115
  go_wp2_with fail
  refine (HT.out _).mono ?_
  rintro e w1 ⟨hb, hm⟩
  have bel : Below w.heap.size w w1 := ((Below.refl _ _).alloc (Nat.le_refl _) _).trans (hb.mono (by simp))
  clear hb
  rcases R with _ | ⟨o, h, m⟩
  · obtain rfl := hm
    go_wp2_with fail
    refine bodyPost_ret (v := .tuple #[.slice none 0 0, .int .i64 2]) (by simp [results, Tryz.results115, go_sem]) rfl ?_
    exact ⟨_, rfl, Bsl.nil _, bel⟩
  · obtain ⟨v, rfl, hown⟩ := hm
    by_cases h1 : 6 ≤ m
    · have h1b : decide ((6 : Int) ≤ (m : Int)) = true := decide_eq_true (by omega)
      have hr : rdOf 6 (some (o, h, m)) = ([], 3) := by simp only [rdOf, if_pos h1]
      have HR := Lib.hid hr; clear hr
      go_wp2_with fail
      refine bodyPost_ret (v := .tuple #[.slice none 0 0, .int .i64 3]) (by simp [results, Tryz.results115, go_sem]) rfl ?_
      exact ⟨_, by rw [HR.out]; rfl, by rw [HR.out]; exact Bsl.nil _, bel⟩
    · have h1b : decide ((6 : Int) ≤ (m : Int)) = false := decide_eq_false (by omega)
      by_cases h2 : h ≠ 0
      · have h2b : ((h : Int) != 0) = true := by simp; omega
        have hr : rdOf 6 (some (o, h, m)) = ([], 4) := by simp only [rdOf, if_neg h1, if_pos h2]
        have HR := Lib.hid hr; clear hr
        go_wp2_with fail
        refine bodyPost_ret (v := .tuple #[.slice none 0 0, .int .i64 4]) (by simp [results, Tryz.results115, go_sem]) rfl ?_
        exact ⟨_, by rw [HR.out]; rfl, by rw [HR.out]; exact Bsl.nil _, bel⟩
      · have h2b : ((h : Int) != 0) = false := by simp; omega
        have hr : rdOf 6 (some (o, h, m)) = (o, 0) := by simp only [rdOf, if_neg h1, if_neg h2]
        have HR := Lib.hid hr; clear hr
        go_wp2_with fail
        refine bodyPost_ret (v := .tuple #[v, .int .i64 0]) (by simp [results, Tryz.results115, go_sem]) rfl ?_
        exact ⟨_, by rw [HR.out]; rfl, by rw [HR.out]; exact Bsl.owns hown, bel⟩

set_option maxHeartbeats 800000 in
set_option maxRecDepth 100000 in
theorem bytes_any (s : ByteArray) (w : World) (hg : Base w) (hs : s.size ≤ 1000000) :
    Calls Tryz.prog 66 #[.string s] w (ReadPost (rdv sg64 6 s) w) := by
  obtain ⟨g0, g1⟩ := hg
  have HT := Lib.hid (read6_any sg64 s w sg64_ascii hs (Nat.le_of_eq sg64_size))
  go_enter Tryz.func66, Tryz.ntmps66
  go_wp2_with fail
  refine HT.out.mono ?_
  rintro e w1 ⟨v, rfl, hv, hb⟩
  go_wp2_with fail
  go_ret2
  exact ⟨_, rfl, hv, hb⟩






end Go.Proofs.YtlgghcffmnofdaaGreatDoor.Cn
