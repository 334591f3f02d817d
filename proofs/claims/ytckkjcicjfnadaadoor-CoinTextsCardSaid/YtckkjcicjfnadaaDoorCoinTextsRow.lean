/-
  CoinTexts: any bytes' base 64 is the document's, and is read as these; so is their hexadecimal. Condition: the alphabets' variables hold what the program's text lays (the card ties it).
-/
import Derived.Test.YtckkjcicjfnadaaDoorCoinTextsWalk
import Derived.Test.YtckkjcicjfnadaaDoorArgs
import Derived.Test.YtckkjcicjfnadaaDoorCards
import Derived.Test.YtckkjcicjfnadaaDoorTie
import Derived.WalkKit
import Derived.ProofKit
import Derived.OpenShut
import Derived.Deep.DeepHandedRow
import Derived.Lib.LaidTab
namespace Go.Proofs.YtckkjcicjfnadaaDoor.coinTexts
open Go.ChangeShapes Go.WideShapes Go.ChangeAt Go.RowKit Go.ChangeMaps Go.Proofs.YtckkjcicjfnadaaDoor.Cn Go.Proofs.YtckkjcicjfnadaaDoor.CnT

theorem own : ownKnob Tryd.prog.godebug = none := by kernel_rfl
theorem laidOut : laidOutB Tryd.prog = true := by kernel_rfl
theorem gBase : Tryd.prog.globalNamed "escutcheon/coin.base" = some 0 := by kernel_rfl
theorem tBase : (Tryd.prog.globals[0]?).map (·.type) = some 33 := by kernel_rfl

theorem gHexa : Tryd.prog.globalNamed "escutcheon/coin.hexa" = some 1 := by kernel_rfl
theorem tHexa : (Tryd.prog.globals[1]?).map (·.type) = some 33 := by kernel_rfl

/-- The two cells of an alphabet's variable. -/
theorem cells_of {enc : TypeId × Value → Unit} {W : World} {base fuel : Nat} {spare : Nat → Bool} {held : Bool} {cs : Array Value} {g : Nat} {nm : String} {sg : ByteArray} {k : Int} {p : List MemPlace}
    (hg : Tryd.prog.globalNamed nm = some g) (hv : W.var? Tryd.prog nm = some cs)
    (hd : DataW.trod enc Tryd.prog W base spare held fuel 33 cs.toList = some (.agg [.lit (.string sg.data.toList), .lit (.int .i64 k)], p)) :
    W.cell? ⟨g, 0, none⟩ = some (.string sg) ∧ W.cell? ⟨g, 1, none⟩ = some (.int .i64 k) := by
  obtain ⟨y0, y1, n, hx, hl, h0, h1⟩ := trod_struct2 Tryd.underlying33 hd
  have c33 : Tryd.prog.cellsOf 33 = 2 := by kernel_rfl
  have c9 : Tryd.prog.cellsOf 9 = 1 := by kernel_rfl
  have c3 : Tryd.prog.cellsOf 3 = 1 := by kernel_rfl
  rw [c33] at hl
  obtain ⟨l0⟩ := cs
  match l0, hl with
  | [a, b], _ =>
    obtain ⟨s, e0, e1, _⟩ := DataW.trod_string Tryd.underlying9 h0
    obtain ⟨q, e2, e3, _⟩ := DataW.trod_int Tryd.underlying3 h1
    simp only [c9, c3, List.drop_zero, List.take_succ_cons, List.take_zero, List.drop_succ_cons] at e0 e2
    simp only [List.cons.injEq, and_true] at e0 e2
    subst e0 e2
    rw [e1, e3] at hx
    simp only [Prod.mk.injEq] at hx
    have hx1 := hx.1
    simp only [DataW.agg.injEq, List.cons.injEq, DataW.lit.injEq, Lit.string.injEq, Lit.int.injEq, and_true, true_and] at hx1
    obtain ⟨hs, hk⟩ := hx1
    have hs' : s = sg := by
      have h2 := congrArg List.toArray hs.symm
      simp only [Array.toArray_toList] at h2
      obtain ⟨d⟩ := s
      exact congrArg ByteArray.mk h2
    subst hs' hk
    have v0 := World.var?_cell hg hv 0
    have v1 := World.var?_cell hg hv 1
    exact ⟨by simpa using v0, by simpa using v1⟩

/-- What the row's list gives the walk: the variables' cells. -/
theorem of_laid {W : World} (h : laidMetH Tryd.prog Rows.coinTextsRow.laid W) : Base W ∧ Hexa W := by
  rw [MakeChecks.laidMetH_plain _ _ _ (by kernel_rfl)] at h
  obtain ⟨ps, ⟨g0, t0, cs0, f0, p0, q0, hg0, ht0, hv0, hd0, ⟨g1, t1, cs1, f1, p1, q1, hg1, ht1, hv1, hd1, _, _⟩, _⟩, _, _⟩ := h
  obtain rfl := Option.some.inj (gBase.symm.trans hg0)
  obtain rfl := Option.some.inj (tBase.symm.trans ht0)
  obtain rfl := Option.some.inj (gHexa.symm.trans hg1)
  obtain rfl := Option.some.inj (tHexa.symm.trans ht1)
  exact ⟨cells_of (sg := sg64) hg0 hv0 hd0, cells_of (sg := sg16) hg1 hv1 hd1⟩

/-- What the walks give, for every argument and every world that holds the alphabet. -/
theorem contract (H : Type) (enc : TypeId × Value → H) (W : World) (base : Nat) (args : Array Value) (ds gs : List (DataW H)) (before : List MemPlace)
    (hval : ∀ (j : Nat) t v, Tryd.f5.params[j]? = some t → args[j]? = some v → Value.okWide Tryd.prog W .any base t v)
    (hW : DataW.Whole enc Tryd.prog Tryd.f5.params.toList Rows.coinTextsSpec.vars false W args.toList ds gs before) (hL : laidMetH Tryd.prog Rows.coinTextsRow.laid W) :
    Calls Tryd.prog 5 args W fun e W' => ∃ v, e = .returned v ∧ Rows.coinTextsSpec.post enc Tryd.prog Tryd.f5 false true false false W args v W' := by
  have hW' := hW
  obtain ⟨p, q, hA0, hV, rfl, hfz, hnd⟩ := hW
  have hA : DataW.TrodAll enc Tryd.prog W 0 (fun _ => true) true Tryd.f5.params.toList args.toList ds p := hA0
  rw [Tryd.params5] at hA hval
  obtain ⟨v0, vs0, d0, ds0, p0, q0, hargs, rfl, rfl, h0, r0⟩ := trodAll_cons hA
  obtain ⟨rfl, rfl, rfl⟩ := trodAll_nil r0
  obtain rfl : args = #[v0] := by cases args; simp_all
  obtain ⟨rfl, rfl⟩ := trodVars_none hV
  obtain ⟨l, hbsl, hm⟩ := arg_bsl (hval 0 23 v0 rfl rfl) h0
  clear hA0
  simp only [List.append_nil] at hW'
  have hlt : ∀ x ∈ p0, x.block < W.heap.size := fun x hx => by have := hW'.lt x hx; simpa using this
  refine (coinTexts_any l v0 W (of_laid hL).1 (of_laid hL).2 hbsl (by unfold maxLen at hm; omega)).mono fun e W' ⟨he, hb⟩ => ?_
  subst he
  refine ⟨_, rfl, _, _, _, [], p0, [], hW', ?_, ?_, ?_, hb.frame _, fun h => by cases h⟩
  · exact trodAll_cons_mk (shut_bool Tryd.underlying4 _) trodAll_mk0
  · have := trodAll_cons_mk (Below.trod laidOut (by kernel_rfl) (of_decide_eq_true (by kernel_rfl)) h0 hb hlt) trodAll_mk0
    rw [List.append_nil] at this
    exact this
  · rfl

/-- A world for the witness. -/
def lay (sg : ByteArray) (k : Int) : Obj → Obj
  | .cells _ t frozen => .cells #[.string sg, .int .i64 k] t frozen
  | o => o
noncomputable def laidWorld (os : Os) : World :=
  { World.holding Tryd.prog os ⟨#[], #[], []⟩ with heap := ((World.holding Tryd.prog os ⟨#[], #[], []⟩).heap.modify 0 (lay sg64 6)).modify 1 (lay sg16 4) }
theorem laid_met (os : Os) : laidMet Tryd.prog Rows.coinTextsRow.laid ((laidWorld os).forCall (fun _ _ => 0) ⟨#[], #[.slice none 0 0], []⟩).memory :=
  laidMet_of_run' 8 (by kernel_rfl) (by kernel_rfl)
theorem reads (os : Os) {H : Type} (enc : TypeId × Value → H) : ∃ places, DataW.whole enc Tryd.prog ((laidWorld os).forCall (fun _ _ => 0) ⟨#[], #[.slice none 0 0], []⟩).memory Tryd.f5.params.toList Rows.coinTextsSpec.vars false #[Value.slice none 0 0].toList 8 = some ([.nil], [], places) :=
  ⟨[], by kernel_rfl⟩

set_option maxRecDepth 100000 in
theorem lifted (os : Os) (started : os.Started) (H : Type) (enc : TypeId × Value → H) (F : Stop.Interp) :
    ReturnsInHanded {} Tryd.checked os 5 .any ((OpenSpec.ofChange Rows.coinTextsSpec).preRow enc Tryd.prog Tryd.f5 Rows.coinTextsRow.domain false Rows.coinTextsRow.laid) (((OpenSpec.ofChange Rows.coinTextsSpec).at F).post enc Tryd.prog Tryd.f5 false true false false) := by
  obtain ⟨places, hx⟩ := reads os enc
  refine returnsInHanded_of_row (C := Tryd.checked) (s := OpenSpec.ofChange Rows.coinTextsSpec) own started (by kernel_rfl) Tryd.func5
    (witness_row_at (enc := enc) (C := Tryd.checked) false (laidWorld os) #[.slice none 0 0] rfl (by kernel_rfl) (by kernel_rfl) (by kernel_rfl)
      (OpenSpec.preRow_of_cond 8 hx (by kernel_rfl) (fun k hk => by cases hk) (by kernel_rfl) (laid_met os))) ?_
  intro W base args ds gs before hval hW _ _ _ hL _ _
  exact contract H enc W base args ds gs before hval hW hL

theorem said : Rows.CoinTextsSaid :=
  OpenClaim.holds_of_cond 5 Tryd.f5 rfl rfl rfl rfl rfl rfl rfl ⟨rfl, rfl, rfl, rfl, rfl⟩ rfl rfl rfl rfl rfl (by kernel_rfl) Tryd.func5 (by kernel_rfl)
    (of_decide_eq_true (by kernel_rfl)) (by unfold Func.isWrapper; first | (rw [if_pos (by decide +kernel)]; kernel_rfl) | (rw [if_neg (by decide +kernel)]; exact ⟨rfl, rfl⟩))
    (fun os started H enc _ F => by rw [OpenClaim.pre_eq_preRow]; exact lifted os started H enc F)

/-- No parameter wants a stand-in; the program's own looks are off: what the card asks. -/
theorem plain (f : FuncId) (fn : Func) (hf : Tryd.pinned.checked.prog.funcNamed "escutcheon/escutcheonlaw01.CoinTexts" = some f) (hfn : Tryd.pinned.checked.prog.funcs[f]? = some fn) :
    false = Tryd.pinned.checked.prog.looks [] ∧ ∀ (j : Nat) t, fn.params[j]? = some t → Tryd.pinned.checked.prog.wantsStandIn t = false := by
  obtain rfl : f = 5 := Option.some.inj ((show Tryd.prog.funcNamed "escutcheon/escutcheonlaw01.CoinTexts" = some 5 by kernel_rfl).symm.trans hf) |>.symm
  obtain rfl : fn = Tryd.f5 := (Option.some.inj (Tryd.func5.symm.trans hfn)).symm
  refine ⟨by kernel_rfl, fun j t ht => ?_⟩
  rw [Tryd.params5] at ht
  obtain rfl : t = 23 := by simpa using Array.mem_of_getElem? ht
  exact (show Tryd.prog.wantsStandIn 23 = false by kernel_rfl)

/-- The card. -/
theorem card : Rows.CoinTextsCardSaid :=
  Claim7.holds_tied_plain_at .later [] _ _ _ _ said (fun _ h => by cases h) (by kernel_rfl) (fun _ h => by cases h) coinTexts_row_tie rfl ⟨rfl, rfl⟩ (by kernel_rfl) rfl plain (by kernel_rfl)
#print axioms card
end Go.Proofs.YtckkjcicjfnadaaDoor.coinTexts
