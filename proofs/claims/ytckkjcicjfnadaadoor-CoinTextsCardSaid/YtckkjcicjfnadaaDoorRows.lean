/-
  NARROWER THAN 'FOR EVERY INPUT', by the rows' own cells (each row's printed sentence says how): CoinReads: laid · CoinHexes: laid · CoinTexts: laid.
  DERIVED. THE GIVEN ROWS OF THIS SEAT. 3 by the template 'for every input the law returns true; each argument reads behind the call as it read before'; 0 by the template 'total and deterministic' (their statements: YtckkjcicjfnadaaDoorTotals.lean).
  GIVEN WITH THE SEED: the statements are not yours to turn. If you find one false, say at which input.
  Laid BY PROGRAM, IN A SANDBOX (cutbox-rows.mjs): the forced cells as the released guide's own fill.sh prints them over the translation ab047fe787e9820c… (all of the seat's roots in one cut). By AI agents, Wed Nov 11 2026. No macro, syntax, notation, axiom, sorry.
-/
import Derived.Test.YtckkjcicjfnadaaDoorChecked
import GoSem.Claim
import GoSem.ClaimJoined
import GoSem.ClaimMapViews
import Derived.JoinedTies
import Derived.KernelRfl
namespace Go.Proofs.YtckkjcicjfnadaaDoor
/- THE CELL 'sum', in the pinned program and in every row, IS THE sha256 OF THE DUMP (.gsa) THAT YtckkjcicjfnadaaDoorProg.lean LOADS. Nothing in Lean hashes anything: it is a label: what it is worth is what the hold of that sum in a sandbox is worth. -/
noncomputable def Tryd.pinned : Pinned := { name := "ytckkjcicjfnadaadoor", sum := "ab047fe787e9820cb39e307d98c6115aa204d02da1d790b83da81475b9d59d8f", checked := Tryd.checked }
namespace Rows
def none {H : Type} : Left H := { results := [], args := [] }

/- WHAT THE LISTED PACKAGE-LEVEL VARIABLES READ AS WHEN THE CALL BEGINS. Each datum BY PROGRAM (the guide's laid-datum.mjs) off the statement by which the dump's own 'gosem.cut.vars' lays the variable. In a bare row this is a premise. The card (YtckkjcicjfnadaaDoorCards.lean) ties it to the program's text. -/
def laid_escutcheon_coin_base {H : Type} : DataW H := .agg [.lit (.string [65, 66, 67, 68, 69, 70, 71, 72, 73, 74, 75, 76, 77, 78, 79, 80, 81, 82, 83, 84, 85, 86, 87, 88, 89, 90, 97, 98, 99, 100, 101, 102, 103, 104, 105, 106, 107, 108, 109, 110, 111, 112, 113, 114, 115, 116, 117, 118, 119, 120, 121, 122, 48, 49, 50, 51, 52, 53, 54, 55, 56, 57, 45, 95]), .lit (.int .i64 6)]
def laid_escutcheon_coin_hexa {H : Type} : DataW H := .agg [.lit (.string [48, 49, 50, 51, 52, 53, 54, 55, 56, 57, 97, 98, 99, 100, 101, 102]), .lit (.int .i64 4)]

/-- 'escutcheonlaw01.CoinReads': WHATEVER THE INPUT: true; the input reads as it did. -/
def coinReadsSpec : ChangeSpec := { name := "coinReads", fn := fun _ => fun
  | [d] => { results := [.lit (.bool true)], args := [d] }
  | _ => none }
def coinReadsRow : OpenClaim := { program := "ytckkjcicjfnadaadoor", sum := "ab047fe787e9820cb39e307d98c6115aa204d02da1d790b83da81475b9d59d8f", func := "escutcheon/escutcheonlaw01.CoinReads", spec := "coinReads", inPlace := ["internal/abi.NoEscape"], named := ["escutcheon/coin.base"], apart := false, laid := [("escutcheon/coin.base", laid_escutcheon_coin_base)] }
def CoinReadsSaid : Prop := coinReadsRow.holds Tryd.pinned (OpenSpec.ofChange coinReadsSpec)

/-- ITS FALSE NEIGHBOUR: 'it returns false'. Refute it at one input. -/
def coinReadsWrong : ChangeSpec := { name := "coinReads", fn := fun _ => fun
  | [d] => { results := [.lit (.bool false)], args := [d] }
  | _ => none }
def CoinReadsWrongFalsely : Prop := coinReadsRow.holds Tryd.pinned (OpenSpec.ofChange coinReadsWrong)

/-- 'escutcheonlaw01.CoinHexes': WHATEVER THE INPUT: true; the input reads as it did. -/
def coinHexesSpec : ChangeSpec := { name := "coinHexes", fn := fun _ => fun
  | [d] => { results := [.lit (.bool true)], args := [d] }
  | _ => none }
def coinHexesRow : OpenClaim := { program := "ytckkjcicjfnadaadoor", sum := "ab047fe787e9820cb39e307d98c6115aa204d02da1d790b83da81475b9d59d8f", func := "escutcheon/escutcheonlaw01.CoinHexes", spec := "coinHexes", inPlace := ["internal/abi.NoEscape"], named := ["escutcheon/coin.base", "escutcheon/coin.hexa"], apart := false, laid := [("escutcheon/coin.base", laid_escutcheon_coin_base), ("escutcheon/coin.hexa", laid_escutcheon_coin_hexa)] }
def CoinHexesSaid : Prop := coinHexesRow.holds Tryd.pinned (OpenSpec.ofChange coinHexesSpec)

/-- ITS FALSE NEIGHBOUR: 'it returns false'. Refute it at one input. -/
def coinHexesWrong : ChangeSpec := { name := "coinHexes", fn := fun _ => fun
  | [d] => { results := [.lit (.bool false)], args := [d] }
  | _ => none }
def CoinHexesWrongFalsely : Prop := coinHexesRow.holds Tryd.pinned (OpenSpec.ofChange coinHexesWrong)

/-- 'escutcheonlaw01.CoinTexts': WHATEVER THE INPUT: true; the input reads as it did. -/
def coinTextsSpec : ChangeSpec := { name := "coinTexts", fn := fun _ => fun
  | [d] => { results := [.lit (.bool true)], args := [d] }
  | _ => none }
def coinTextsRow : OpenClaim := { program := "ytckkjcicjfnadaadoor", sum := "ab047fe787e9820cb39e307d98c6115aa204d02da1d790b83da81475b9d59d8f", func := "escutcheon/escutcheonlaw01.CoinTexts", spec := "coinTexts", inPlace := ["internal/abi.NoEscape"], named := ["escutcheon/coin.base", "escutcheon/coin.hexa"], apart := false, laid := [("escutcheon/coin.base", laid_escutcheon_coin_base), ("escutcheon/coin.hexa", laid_escutcheon_coin_hexa)] }
def CoinTextsSaid : Prop := coinTextsRow.holds Tryd.pinned (OpenSpec.ofChange coinTextsSpec)

/-- ITS FALSE NEIGHBOUR: 'it returns false'. Refute it at one input. -/
def coinTextsWrong : ChangeSpec := { name := "coinTexts", fn := fun _ => fun
  | [d] => { results := [.lit (.bool false)], args := [d] }
  | _ => none }
def CoinTextsWrongFalsely : Prop := coinTextsRow.holds Tryd.pinned (OpenSpec.ofChange coinTextsWrong)

/- THE SECOND FORM. 'bulk': how many values and letters a reading holds, each counted each time it is reached (what is shared counts as often as it is met; a slice's spare places count too). A statement '..UptoSaid' is the law's where the arguments, and the package variables that the reading takes, are together of bulk at most 1048576: NARROWER than '..Said'. Prove '..Said' where nothing that the law and all that it calls make is longer than what came in: it says more and counts as full. Else prove '..UptoSaid'. A law counts once. -/
mutual
def uptoBulk {H : Type} : DataW H → Nat
  | .lit (.string bytes) => bytes.length + 1
  | .lit _ => 1
  | .nil => 1
  | .ptr d => uptoBulk d + 1
  | .slice elems spare => uptoBulkAll elems + uptoBulkAll spare + 1
  | .agg parts => uptoBulkAll parts + 1
  | .iface _ d => uptoBulk d + 1
  | .map entries => uptoBulkEntries entries + 1
  | .held _ => 1
def uptoBulkAll {H : Type} : List (DataW H) → Nat
  | [] => 0
  | d :: r => uptoBulk d + uptoBulkAll r
def uptoBulkEntries {H : Type} : List (Lit × DataW H) → Nat
  | [] => 0
  | x :: r => uptoBulkEntry x + uptoBulkEntries r
def uptoBulkEntry {H : Type} : Lit × DataW H → Nat
  | (.string bytes, d) => bytes.length + uptoBulk d + 1
  | (_, d) => uptoBulk d + 1
 end
def uptoSmall : (H : Type) → List (DataW H) → Bool := fun _ ds => decide (uptoBulkAll ds ≤ 1048576)
def OpenSpec.upto (s : _root_.Go.ChangeSpec) : _root_.Go.OpenSpec := { _root_.Go.OpenSpec.ofChange s with cond := some uptoSmall }

/-- 'escutcheonlaw01.CoinReads', WHERE WHAT IT READS IS OF BULK AT MOST 1048576: true; the input reads as it did. -/
def coinReadsUptoRow : OpenClaim := { program := "ytckkjcicjfnadaadoor", sum := "ab047fe787e9820cb39e307d98c6115aa204d02da1d790b83da81475b9d59d8f", func := "escutcheon/escutcheonlaw01.CoinReads", spec := "coinReads", inPlace := ["internal/abi.NoEscape"], named := ["escutcheon/coin.base"], apart := false, laid := [("escutcheon/coin.base", laid_escutcheon_coin_base)], narrowed := true }
def CoinReadsUptoSaid : Prop := coinReadsUptoRow.holds Tryd.pinned (OpenSpec.upto coinReadsSpec)

/-- 'escutcheonlaw01.CoinHexes', WHERE WHAT IT READS IS OF BULK AT MOST 1048576: true; the input reads as it did. -/
def coinHexesUptoRow : OpenClaim := { program := "ytckkjcicjfnadaadoor", sum := "ab047fe787e9820cb39e307d98c6115aa204d02da1d790b83da81475b9d59d8f", func := "escutcheon/escutcheonlaw01.CoinHexes", spec := "coinHexes", inPlace := ["internal/abi.NoEscape"], named := ["escutcheon/coin.base", "escutcheon/coin.hexa"], apart := false, laid := [("escutcheon/coin.base", laid_escutcheon_coin_base), ("escutcheon/coin.hexa", laid_escutcheon_coin_hexa)], narrowed := true }
def CoinHexesUptoSaid : Prop := coinHexesUptoRow.holds Tryd.pinned (OpenSpec.upto coinHexesSpec)

/-- 'escutcheonlaw01.CoinTexts', WHERE WHAT IT READS IS OF BULK AT MOST 1048576: true; the input reads as it did. -/
def coinTextsUptoRow : OpenClaim := { program := "ytckkjcicjfnadaadoor", sum := "ab047fe787e9820cb39e307d98c6115aa204d02da1d790b83da81475b9d59d8f", func := "escutcheon/escutcheonlaw01.CoinTexts", spec := "coinTexts", inPlace := ["internal/abi.NoEscape"], named := ["escutcheon/coin.base", "escutcheon/coin.hexa"], apart := false, laid := [("escutcheon/coin.base", laid_escutcheon_coin_base), ("escutcheon/coin.hexa", laid_escutcheon_coin_hexa)], narrowed := true }
def CoinTextsUptoSaid : Prop := coinTextsUptoRow.holds Tryd.pinned (OpenSpec.upto coinTextsSpec)

end Rows
end Go.Proofs.YtckkjcicjfnadaaDoor
