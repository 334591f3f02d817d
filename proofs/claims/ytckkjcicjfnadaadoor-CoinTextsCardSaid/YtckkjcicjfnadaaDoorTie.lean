/-
  DERIVED. GIVEN WITH THE SEED: THE PROGRAM's TIES (one call each: nine closed facts by the kernel) AND EACH ROW's TIE, after the 31st guide's Derived/Test/Toyas{Tie, Card}.lean. No idea stands in it: it is a product of the set-up. Laid BY PROGRAM, IN A SANDBOX (cutbox-door.mjs). By AI agents, Wed Nov 11 2026. No macro, syntax, notation, axiom, sorry.
-/
import Derived.Test.YtckkjcicjfnadaaDoorRows
import Derived.LaidByTextLater
import Derived.SevenTiedAt
import Derived.LaidSub
import Derived.LaidOnce
namespace Go.Proofs.YtckkjcicjfnadaaDoor
open Go
set_option maxRecDepth 100000
theorem seatTie1 : Tryd.prog.laidByTextLater [("escutcheon/coin.base", Rows.laid_escutcheon_coin_base), ("escutcheon/coin.hexa", Rows.laid_escutcheon_coin_hexa)] [.wider, .wider] true :=
  Program.laidByTextLater_by_one 19 8 3 (by kernel_rfl) (by kernel_rfl) (by kernel_rfl) (by kernel_rfl) (by kernel_rfl) (by kernel_rfl) (fun _ _ => by kernel_rfl)
theorem noOwnUnsafe : Tryd.pinned.checked.prog.headLifts.contains "ownunsafe" = false := by kernel_rfl
theorem tie : Tryd.prog.laidByTextLater [("escutcheon/coin.base", Rows.laid_escutcheon_coin_base)] [.wider] true :=
  Program.laidByTextLater.sub seatTie1 ["escutcheon/coin.base"] (by kernel_rfl) (by kernel_rfl)
theorem coinReads_row_tie : Rows.coinReadsRow.laidByTextAt .later Tryd.pinned [.wider] true :=
  OpenClaim.laidByTextAt_later rfl rfl tie noOwnUnsafe
theorem tie2 : Tryd.prog.laidByTextLater [("escutcheon/coin.base", Rows.laid_escutcheon_coin_base), ("escutcheon/coin.hexa", Rows.laid_escutcheon_coin_hexa)] [.wider, .wider] true :=
  Program.laidByTextLater.sub seatTie1 ["escutcheon/coin.base", "escutcheon/coin.hexa"] (by kernel_rfl) (by kernel_rfl)
theorem coinHexes_row_tie : Rows.coinHexesRow.laidByTextAt .later Tryd.pinned [.wider, .wider] true :=
  OpenClaim.laidByTextAt_later rfl rfl tie2 noOwnUnsafe
theorem coinTexts_row_tie : Rows.coinTextsRow.laidByTextAt .later Tryd.pinned [.wider, .wider] true :=
  OpenClaim.laidByTextAt_later rfl rfl tie2 noOwnUnsafe
theorem coinReadsUpto_row_tie : Rows.coinReadsUptoRow.laidByTextAt .later Tryd.pinned [.wider] true :=
  OpenClaim.laidByTextAt_later rfl rfl tie noOwnUnsafe
theorem coinHexesUpto_row_tie : Rows.coinHexesUptoRow.laidByTextAt .later Tryd.pinned [.wider, .wider] true :=
  OpenClaim.laidByTextAt_later rfl rfl tie2 noOwnUnsafe
theorem coinTextsUpto_row_tie : Rows.coinTextsUptoRow.laidByTextAt .later Tryd.pinned [.wider, .wider] true :=
  OpenClaim.laidByTextAt_later rfl rfl tie2 noOwnUnsafe
end Go.Proofs.YtckkjcicjfnadaaDoor
