/-
  A witness for a row whose list of variables is long: what is laid is looked at block by block.
-/
import Derived.Test.YtlgghcffmnofdaaGreatDoorLaid
import Derived.LaidLaws
namespace Go.Proofs.YtlgghcffmnofdaaGreatDoor.La
open Go Go.Lib

def rowsOf (rows : List (Nat × Nat)) : List MemPlace := rows.flatMap fun x => MemPlace.row ⟨x.1, 0, none⟩ x.2

def noIface : Value → Bool
  | .iface _ _ => false
  | _ => true

theorem mem_row {g n b off : Nat} : MemPlace.cell b off ∈ MemPlace.row ⟨g, 0, none⟩ n ↔ b = g ∧ off < n := by
  simp only [MemPlace.row, List.mem_map, List.mem_range, MemPlace.cell.injEq]
  constructor
  · rintro ⟨i, h, rfl, rfl⟩; exact ⟨rfl, by omega⟩
  · rintro ⟨rfl, h⟩; exact ⟨off, h, rfl, by omega⟩

theorem row_nodup (g n : Nat) : (MemPlace.row ⟨g, 0, none⟩ n).Nodup := by
  unfold MemPlace.row
  rw [List.nodup_iff_pairwise_ne, List.pairwise_map]
  refine List.Pairwise.imp ?_ List.pairwise_lt_range
  intro a b h e
  simp only [MemPlace.cell.injEq] at e
  omega

theorem row_cells {g n : Nat} {x : MemPlace} (h : x ∈ MemPlace.row ⟨g, 0, none⟩ n) : ∃ off, x = .cell g off := by
  simp only [MemPlace.row, List.mem_map] at h
  obtain ⟨i, _, rfl⟩ := h
  exact ⟨_, rfl⟩

theorem rowsOf_nodup : ∀ {rows : List (Nat × Nat)}, (rows.map (·.1)).Nodup → (rowsOf rows).Nodup
  | [], _ => by simp [rowsOf]
  | (g, n) :: r, h => by
    simp only [List.map_cons, List.nodup_cons] at h
    unfold rowsOf
    rw [List.flatMap_cons, List.nodup_append]
    refine ⟨row_nodup g n, rowsOf_nodup h.2, fun x hx y hy e => ?_⟩
    subst e
    obtain ⟨off, rfl⟩ := row_cells hx
    simp only [List.mem_flatMap] at hy
    obtain ⟨z, hz, hm⟩ := hy
    obtain ⟨rfl, _⟩ := mem_row.1 hm
    exact h.1 (List.mem_map.2 ⟨z, hz, rfl⟩)

def rowsB (w : World) (rows : List (Nat × Nat)) : Bool := rows.all fun x => match w.heap[x.1]? with
  | some (.cells cs _ (0, 0)) => cs.toList.all noIface
  | _ => false

theorem laidMet_rows {P : Program} {w : World} {l : List (String × DataW Unit)} (fuel : Nat) (rows : List (Nat × Nat)) (h : DataW.laidRun P w fuel (l.map (·.1)) = some (l, rowsOf rows))
    (hn : decide (rows.map (·.1)).Nodup = true) (hr : rowsB w rows = true) : laidMet P l w := by
  refine ⟨rowsOf rows, DataW.LaidVars_of_laidRun h, rowsOf_nodup (of_decide_eq_true hn), fun b off hp => ?_⟩
  unfold rowsOf at hp
  simp only [List.mem_flatMap] at hp
  obtain ⟨x, hx, hm⟩ := hp
  obtain ⟨rfl, _⟩ := mem_row.1 hm
  have := List.all_eq_true.1 hr _ hx
  split at this
  · rename_i cs t hh
    refine ⟨⟨cs, t, hh⟩, fun u v hc => ?_⟩
    have hc2 : cs[off]? = some (.iface u v) := by
      rw [← hc]
      simp [World.cell?, hh]
    have := List.all_eq_true.1 this (.iface u v) (by
      have := Array.mem_of_getElem? hc2
      simpa using this)
    cases this
  · cases this
end Go.Proofs.YtlgghcffmnofdaaGreatDoor.La
