/-
  DERIVED. GIVEN WITH THE SEED: THE PROGRAM's TIES (one call each: nine closed facts by the kernel) AND EACH ROW's TIE, after the 31st guide's Derived/Test/Toyas{Tie, Card}.lean. No idea stands in it: it is a product of the set-up. Laid BY PROGRAM, IN A SANDBOX (cutbox-door.mjs). By AI agents, Wed Nov 11 2026. No macro, syntax, notation, axiom, sorry.
-/
import Derived.Test.YtlgghcffmnofdaaGreatDoorRows
import Derived.LaidByTextLater
import Derived.SevenTiedAt
import Derived.LaidSub
import Derived.LaidOnce
namespace Go.Proofs.YtlgghcffmnofdaaGreatDoor
open Go
set_option maxRecDepth 100000
theorem seatTie1 : Tryz.prog.laidByTextLater [("escutcheon/api.Rounds80", Rows.laid_escutcheon_api_Rounds80), ("math/bits.deBruijn32tab", Rows.laid_math_bits_deBruijn32tab), ("math/bits.deBruijn64tab", Rows.laid_math_bits_deBruijn64tab), ("internal/strconv.uint64pow10", Rows.laid_internal_strconv_uint64pow10), ("escutcheon/coin.base", Rows.laid_escutcheon_coin_base), ("escutcheon/serial.words", Rows.laid_escutcheon_serial_words)] [.data, .data, .data, .data, .wider, .data] true :=
  Program.laidByTextLater_by_one 86 8 161 (by kernel_rfl) (by kernel_rfl) (by kernel_rfl) (by kernel_rfl) (by kernel_rfl) (by kernel_rfl) (fun _ _ => by kernel_rfl)
theorem seatTie2 : Tryz.prog.laidByTextLater [("escutcheon/api.Rounds80", Rows.laid_escutcheon_api_Rounds80), ("escutcheon/api.Start384", Rows.laid_escutcheon_api_Start384), ("escutcheon/api.Turns", Rows.laid_escutcheon_api_Turns), ("math/bits.deBruijn32tab", Rows.laid_math_bits_deBruijn32tab), ("math/bits.deBruijn64tab", Rows.laid_math_bits_deBruijn64tab), ("internal/strconv.uint64pow10", Rows.laid_internal_strconv_uint64pow10), ("escutcheon/coin.base", Rows.laid_escutcheon_coin_base), ("escutcheon/blake.places", Rows.laid_escutcheon_blake_places), ("escutcheon/serial.words", Rows.laid_escutcheon_serial_words)] [.data, .data, .data, .data, .data, .data, .wider, .data, .data] true :=
  Program.laidByTextLater_by_one 86 8 161 (by kernel_rfl) (by kernel_rfl) (by kernel_rfl) (by kernel_rfl) (by kernel_rfl) (by kernel_rfl) (fun _ _ => by kernel_rfl)
theorem seatTie3 : Tryz.prog.laidByTextLater [("escutcheon/api.Rounds80", Rows.laid_escutcheon_api_Rounds80), ("escutcheon/api.Start384", Rows.laid_escutcheon_api_Start384), ("escutcheon/api.Turns", Rows.laid_escutcheon_api_Turns), ("math/bits.deBruijn32tab", Rows.laid_math_bits_deBruijn32tab), ("math/bits.deBruijn64tab", Rows.laid_math_bits_deBruijn64tab), ("internal/strconv.uint64pow10", Rows.laid_internal_strconv_uint64pow10), ("unicode/utf8.acceptRanges", Rows.laid_unicode_utf8_acceptRanges), ("escutcheon/coin.base", Rows.laid_escutcheon_coin_base), ("escutcheon/blake.places", Rows.laid_escutcheon_blake_places), ("escutcheon/serial.words", Rows.laid_escutcheon_serial_words)] [.data, .data, .data, .data, .data, .data, .data, .wider, .data, .data] true :=
  Program.laidByTextLater_by_one 86 8 161 (by kernel_rfl) (by kernel_rfl) (by kernel_rfl) (by kernel_rfl) (by kernel_rfl) (by kernel_rfl) (fun _ _ => by kernel_rfl)
theorem seatTie4 : Tryz.prog.laidByTextLater [("escutcheon/api.Rounds80", Rows.laid_escutcheon_api_Rounds80), ("escutcheon/api.Start384", Rows.laid_escutcheon_api_Start384), ("escutcheon/api.Turns", Rows.laid_escutcheon_api_Turns), ("math/bits.deBruijn32tab", Rows.laid_math_bits_deBruijn32tab), ("math/bits.deBruijn64tab", Rows.laid_math_bits_deBruijn64tab), ("internal/strconv.uint64pow10", Rows.laid_internal_strconv_uint64pow10), ("escutcheon/coin.base", Rows.laid_escutcheon_coin_base), ("escutcheon/blake.places", Rows.laid_escutcheon_blake_places)] [.data, .data, .data, .data, .data, .data, .wider, .data] true :=
  Program.laidByTextLater_by_one 86 8 161 (by kernel_rfl) (by kernel_rfl) (by kernel_rfl) (by kernel_rfl) (by kernel_rfl) (by kernel_rfl) (fun _ _ => by kernel_rfl)
theorem pin_laid_unicode_utf8_first : Tryz.pinned.checked.prog.pinnedFits "unicode/utf8.first" = true := by kernel_rfl
theorem noOwnUnsafe : Tryz.pinned.checked.prog.headLifts.contains "ownunsafe" = false := by kernel_rfl
theorem tie : Tryz.prog.laidByTextLater [("escutcheon/api.Rounds80", Rows.laid_escutcheon_api_Rounds80), ("math/bits.deBruijn32tab", Rows.laid_math_bits_deBruijn32tab), ("math/bits.deBruijn64tab", Rows.laid_math_bits_deBruijn64tab), ("internal/strconv.uint64pow10", Rows.laid_internal_strconv_uint64pow10), ("escutcheon/coin.base", Rows.laid_escutcheon_coin_base), ("escutcheon/serial.words", Rows.laid_escutcheon_serial_words)] [.data, .data, .data, .data, .wider, .data] true :=
  Program.laidByTextLater.sub seatTie1 ["escutcheon/api.Rounds80", "math/bits.deBruijn32tab", "math/bits.deBruijn64tab", "internal/strconv.uint64pow10", "escutcheon/coin.base", "escutcheon/serial.words"] (by kernel_rfl) (by kernel_rfl)
theorem serialReads_row_tie : Rows.serialReadsRow.laidByTextAt .later Tryz.pinned [.data, .data, .data, .data, .wider, .data] true :=
  OpenClaim.laidByTextAt_later rfl rfl tie noOwnUnsafe
theorem serialNamed_row_tie : Rows.serialNamedRow.laidByTextAt .later Tryz.pinned [.data, .data, .data, .data, .wider, .data] true :=
  OpenClaim.laidByTextAt_later rfl rfl tie noOwnUnsafe
theorem tie2 : Tryz.prog.laidByTextLater [("escutcheon/api.Rounds80", Rows.laid_escutcheon_api_Rounds80), ("escutcheon/api.Start384", Rows.laid_escutcheon_api_Start384), ("escutcheon/api.Turns", Rows.laid_escutcheon_api_Turns), ("math/bits.deBruijn32tab", Rows.laid_math_bits_deBruijn32tab), ("math/bits.deBruijn64tab", Rows.laid_math_bits_deBruijn64tab), ("internal/strconv.uint64pow10", Rows.laid_internal_strconv_uint64pow10), ("escutcheon/coin.base", Rows.laid_escutcheon_coin_base), ("escutcheon/blake.places", Rows.laid_escutcheon_blake_places), ("escutcheon/serial.words", Rows.laid_escutcheon_serial_words)] [.data, .data, .data, .data, .data, .data, .wider, .data, .data] true :=
  Program.laidByTextLater.sub seatTie2 ["escutcheon/api.Rounds80", "escutcheon/api.Start384", "escutcheon/api.Turns", "math/bits.deBruijn32tab", "math/bits.deBruijn64tab", "internal/strconv.uint64pow10", "escutcheon/coin.base", "escutcheon/blake.places", "escutcheon/serial.words"] (by kernel_rfl) (by kernel_rfl)
theorem serialTexts_row_tie : Rows.serialTextsRow.laidByTextAt .later Tryz.pinned [.data, .data, .data, .data, .data, .data, .wider, .data, .data] true :=
  OpenClaim.laidByTextAt_later rfl rfl tie2 noOwnUnsafe
theorem fits3 : Tryz.pinned.checked.prog.listedFits [("escutcheon/api.Rounds80", Rows.laid_escutcheon_api_Rounds80), ("escutcheon/api.Start384", Rows.laid_escutcheon_api_Start384), ("escutcheon/api.Turns", Rows.laid_escutcheon_api_Turns), ("math/bits.deBruijn32tab", Rows.laid_math_bits_deBruijn32tab), ("math/bits.deBruijn64tab", Rows.laid_math_bits_deBruijn64tab), ("internal/strconv.uint64pow10", Rows.laid_internal_strconv_uint64pow10), ("unicode/utf8.acceptRanges", Rows.laid_unicode_utf8_acceptRanges), ("escutcheon/coin.base", Rows.laid_escutcheon_coin_base), ("escutcheon/blake.places", Rows.laid_escutcheon_blake_places), ("escutcheon/serial.words", Rows.laid_escutcheon_serial_words), ("unicode/utf8.first", Rows.laid_unicode_utf8_first)] = true := by
  unfold Program.listedFits
  rw [noOwnUnsafe]
  kernel_rfl
theorem tie3 : Tryz.prog.laidByTextLater [("escutcheon/api.Rounds80", Rows.laid_escutcheon_api_Rounds80), ("escutcheon/api.Start384", Rows.laid_escutcheon_api_Start384), ("escutcheon/api.Turns", Rows.laid_escutcheon_api_Turns), ("math/bits.deBruijn32tab", Rows.laid_math_bits_deBruijn32tab), ("math/bits.deBruijn64tab", Rows.laid_math_bits_deBruijn64tab), ("internal/strconv.uint64pow10", Rows.laid_internal_strconv_uint64pow10), ("unicode/utf8.acceptRanges", Rows.laid_unicode_utf8_acceptRanges), ("escutcheon/coin.base", Rows.laid_escutcheon_coin_base), ("escutcheon/blake.places", Rows.laid_escutcheon_blake_places), ("escutcheon/serial.words", Rows.laid_escutcheon_serial_words)] [.data, .data, .data, .data, .data, .data, .data, .wider, .data, .data] true :=
  Program.laidByTextLater.sub seatTie3 ["escutcheon/api.Rounds80", "escutcheon/api.Start384", "escutcheon/api.Turns", "math/bits.deBruijn32tab", "math/bits.deBruijn64tab", "internal/strconv.uint64pow10", "unicode/utf8.acceptRanges", "escutcheon/coin.base", "escutcheon/blake.places", "escutcheon/serial.words"] (by kernel_rfl) (by kernel_rfl)
theorem topOnly_row_tie : Rows.topOnlyRow.laidByTextAt .later Tryz.pinned [.data, .data, .data, .data, .data, .data, .data, .wider, .data, .data, .pinned] true :=
  OpenClaim.laidByTextAt_pinned rfl rfl tie3 rfl rfl rfl rfl (fun y hy _e => by
    simp only [Rows.topOnlyRow, List.zip_cons_cons, List.zip_nil_right, List.mem_cons, List.mem_nil_iff, or_false] at hy
    rcases hy with rfl | rfl | rfl | rfl | rfl | rfl | rfl | rfl | rfl | rfl | rfl
    · cases _e
    · cases _e
    · cases _e
    · cases _e
    · cases _e
    · cases _e
    · cases _e
    · cases _e
    · cases _e
    · cases _e
    · exact ⟨pin_laid_unicode_utf8_first, by kernel_rfl⟩) fits3
theorem topKinds_row_tie : Rows.topKindsRow.laidByTextAt .later Tryz.pinned [.data, .data, .data, .data, .data, .data, .data, .wider, .data, .data, .pinned] true :=
  OpenClaim.laidByTextAt_pinned rfl rfl tie3 rfl rfl rfl rfl (fun y hy _e => by
    simp only [Rows.topKindsRow, List.zip_cons_cons, List.zip_nil_right, List.mem_cons, List.mem_nil_iff, or_false] at hy
    rcases hy with rfl | rfl | rfl | rfl | rfl | rfl | rfl | rfl | rfl | rfl | rfl
    · cases _e
    · cases _e
    · cases _e
    · cases _e
    · cases _e
    · cases _e
    · cases _e
    · cases _e
    · cases _e
    · cases _e
    · exact ⟨pin_laid_unicode_utf8_first, by kernel_rfl⟩) fits3
theorem tie4 : Tryz.prog.laidByTextLater [("escutcheon/api.Rounds80", Rows.laid_escutcheon_api_Rounds80), ("escutcheon/api.Start384", Rows.laid_escutcheon_api_Start384), ("escutcheon/api.Turns", Rows.laid_escutcheon_api_Turns), ("math/bits.deBruijn32tab", Rows.laid_math_bits_deBruijn32tab), ("math/bits.deBruijn64tab", Rows.laid_math_bits_deBruijn64tab), ("internal/strconv.uint64pow10", Rows.laid_internal_strconv_uint64pow10), ("escutcheon/coin.base", Rows.laid_escutcheon_coin_base), ("escutcheon/blake.places", Rows.laid_escutcheon_blake_places)] [.data, .data, .data, .data, .data, .data, .wider, .data] true :=
  Program.laidByTextLater.sub seatTie4 ["escutcheon/api.Rounds80", "escutcheon/api.Start384", "escutcheon/api.Turns", "math/bits.deBruijn32tab", "math/bits.deBruijn64tab", "internal/strconv.uint64pow10", "escutcheon/coin.base", "escutcheon/blake.places"] (by kernel_rfl) (by kernel_rfl)
theorem wrapEnds_row_tie : Rows.wrapEndsRow.laidByTextAt .later Tryz.pinned [.data, .data, .data, .data, .data, .data, .wider, .data] true :=
  OpenClaim.laidByTextAt_later rfl rfl tie4 noOwnUnsafe
theorem wrapWraps_row_tie : Rows.wrapWrapsRow.laidByTextAt .later Tryz.pinned [.data, .data, .data, .data, .data, .data, .wider, .data] true :=
  OpenClaim.laidByTextAt_later rfl rfl tie4 noOwnUnsafe
theorem wrapUnwraps_row_tie : Rows.wrapUnwrapsRow.laidByTextAt .later Tryz.pinned [.data, .data, .data, .data, .data, .data, .wider, .data] true :=
  OpenClaim.laidByTextAt_later rfl rfl tie4 noOwnUnsafe
theorem serialReadsUpto_row_tie : Rows.serialReadsUptoRow.laidByTextAt .later Tryz.pinned [.data, .data, .data, .data, .wider, .data] true :=
  OpenClaim.laidByTextAt_later rfl rfl tie noOwnUnsafe
theorem serialNamedUpto_row_tie : Rows.serialNamedUptoRow.laidByTextAt .later Tryz.pinned [.data, .data, .data, .data, .wider, .data] true :=
  OpenClaim.laidByTextAt_later rfl rfl tie noOwnUnsafe
theorem serialTextsUpto_row_tie : Rows.serialTextsUptoRow.laidByTextAt .later Tryz.pinned [.data, .data, .data, .data, .data, .data, .wider, .data, .data] true :=
  OpenClaim.laidByTextAt_later rfl rfl tie2 noOwnUnsafe
theorem topOnlyUpto_row_tie : Rows.topOnlyUptoRow.laidByTextAt .later Tryz.pinned [.data, .data, .data, .data, .data, .data, .data, .wider, .data, .data, .pinned] true :=
  OpenClaim.laidByTextAt_pinned rfl rfl tie3 rfl rfl rfl rfl (fun y hy _e => by
    simp only [Rows.topOnlyUptoRow, List.zip_cons_cons, List.zip_nil_right, List.mem_cons, List.mem_nil_iff, or_false] at hy
    rcases hy with rfl | rfl | rfl | rfl | rfl | rfl | rfl | rfl | rfl | rfl | rfl
    · cases _e
    · cases _e
    · cases _e
    · cases _e
    · cases _e
    · cases _e
    · cases _e
    · cases _e
    · cases _e
    · cases _e
    · exact ⟨pin_laid_unicode_utf8_first, by kernel_rfl⟩) fits3
theorem topKindsUpto_row_tie : Rows.topKindsUptoRow.laidByTextAt .later Tryz.pinned [.data, .data, .data, .data, .data, .data, .data, .wider, .data, .data, .pinned] true :=
  OpenClaim.laidByTextAt_pinned rfl rfl tie3 rfl rfl rfl rfl (fun y hy _e => by
    simp only [Rows.topKindsUptoRow, List.zip_cons_cons, List.zip_nil_right, List.mem_cons, List.mem_nil_iff, or_false] at hy
    rcases hy with rfl | rfl | rfl | rfl | rfl | rfl | rfl | rfl | rfl | rfl | rfl
    · cases _e
    · cases _e
    · cases _e
    · cases _e
    · cases _e
    · cases _e
    · cases _e
    · cases _e
    · cases _e
    · cases _e
    · exact ⟨pin_laid_unicode_utf8_first, by kernel_rfl⟩) fits3
theorem wrapEndsUpto_row_tie : Rows.wrapEndsUptoRow.laidByTextAt .later Tryz.pinned [.data, .data, .data, .data, .data, .data, .wider, .data] true :=
  OpenClaim.laidByTextAt_later rfl rfl tie4 noOwnUnsafe
theorem wrapWrapsUpto_row_tie : Rows.wrapWrapsUptoRow.laidByTextAt .later Tryz.pinned [.data, .data, .data, .data, .data, .data, .wider, .data] true :=
  OpenClaim.laidByTextAt_later rfl rfl tie4 noOwnUnsafe
theorem wrapUnwrapsUpto_row_tie : Rows.wrapUnwrapsUptoRow.laidByTextAt .later Tryz.pinned [.data, .data, .data, .data, .data, .data, .wider, .data] true :=
  OpenClaim.laidByTextAt_later rfl rfl tie4 noOwnUnsafe
end Go.Proofs.YtlgghcffmnofdaaGreatDoor
