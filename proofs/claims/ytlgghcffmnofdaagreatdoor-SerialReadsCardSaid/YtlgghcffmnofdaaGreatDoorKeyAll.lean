/-
  Several texts in one: KeyA, KeyNew, KeySame.
-/
import Derived.BigQuiet
import Derived.Lib.ConvBytes
import Derived.WalkSpells
import Derived.Test.YtlgghcffmnofdaaGreatDoorCoinAll
import Derived.Test.YtlgghcffmnofdaaGreatDoorMildAll

/-
  The walks of package key's small functions.
-/
namespace Go.Proofs.YtlgghcffmnofdaaGreatDoor.Ke
open Go Go.RowKit Go.Proofs.YtlgghcffmnofdaaGreatDoor.Cn
set_option maxRecDepth 100000

/-- A kind, and a key, by value. -/
abbrev kindV (v p : Int) : Value := .agg #[.int .i64 v, .int .i64 p]
abbrev keyV (v p : Int) (b : ByteArray) : Value := .agg #[.int .i64 v, .int .i64 p, .string b]

theorem version_any (v p : Int) (w : World) : Calls Tryz.prog 72 #[kindV v p] w fun e w' => e = .returned (.int .i64 v) ∧ Below w.heap.size w w' := by
  go_enter Tryz.func72, Tryz.ntmps72
  go_wp2
  go_ret
  exact ⟨rfl, (Below.refl _ _).alloc (Nat.le_refl _) _⟩

theorem purpose_any (v p : Int) (w : World) : Calls Tryz.prog 70 #[kindV v p] w fun e w' => e = .returned (.int .i64 p) ∧ Below w.heap.size w w' := by
  go_enter Tryz.func70, Tryz.ntmps70
  go_wp2
  go_ret
  exact ⟨rfl, (Below.refl _ _).alloc (Nat.le_refl _) _⟩

theorem below_bytesWorld (w : World) (e : TypeId) (s : ByteArray) : Below w.heap.size w (Lib.bytesWorld w e s) :=
  ⟨rfl, rfl, rfl, by rw [Lib.bytesWorld_size]; omega, fun k hk => Lib.bytesWorld_at_old w e s k hk⟩

theorem bsl_bytesWorld (w : World) (e : TypeId) (s : ByteArray) : Bsl (Lib.bytesWorld w e s) (.slice (some ⟨w.heap.size, 0, none⟩) s.size (grownCap w s.size 0 e)) s.data.toList := by
  have hn : s.data.toList.length = s.size := rfl
  refine ⟨_, _, by rw [hn], by rw [hn]; exact grownCap_ge w s.size 0 e, fun j hj => ⟨w.heap.size, 0, rfl, ?_⟩⟩
  rw [Nat.zero_add, Lib.bytesWorld_cell w e s j (by omega)]
  have h2 : j < s.size := hj
  simp [h2]

theorem keyBytes_any (v p : Int) (b : ByteArray) (w : World) : Calls Tryz.prog 16 #[keyV v p b] w fun e w' => ∃ s, e = .returned s ∧ Below w.heap.size w w' ∧ Bsl w' s b.data.toList := by
  have hcv := fun w => Lib.run_convert_string_bytes (P := Tryz.prog) w 9 36 5 b Tryz.underlying9 Tryz.underlying36 Tryz.underlying5
  go_enter Tryz.func16, Tryz.ntmps16
  go_wp2
  have hB := bsl_bytesWorld (w.alloc (Obj.cells #[Value.int IntKind.i64 v, Value.int IntKind.i64 p, Value.string b] 28)) 5 b
  go_ret
  exact ⟨_, rfl, ((Below.refl _ _).alloc (Nat.le_refl _) _).trans ((below_bytesWorld _ _ _).mono (by simp)), by simpa using hB⟩

/-- The entries of a map of kinds: version, purpose, size, birth. -/
abbrev Ent := Int × Int × Int × Nat
def en (x : Ent) : MapEntry := ⟨kindV x.1 x.2.1, .int .i64 x.2.2.1, x.2.2.2⟩
def look (a b : Int) : List Ent → Nat → Option (Nat × Value)
  | [], _ => none
  | x :: t, i => if a == x.1 && b == x.2.1 then some (i, .int .i64 x.2.2.1) else look a b t (i + 1)
/-- No entry has that key. -/
def fresh (a b : Int) : List Ent → Bool
  | [] => true
  | x :: t => !(a == x.1 && b == x.2.1) && fresh a b t

theorem look_fresh (a b : Int) (l : List Ent) (i : Nat) (h : fresh a b l = true) : look a b l i = none := by
  induction l generalizing i with
  | nil => rfl
  | cons x t ih =>
    simp only [fresh, Bool.and_eq_true, Bool.not_eq_true'] at h
    simp only [look, h.1, Bool.false_eq_true, if_false]
    exact ih _ h.2
theorem fresh_reverse (a b : Int) (l : List Ent) (h : fresh a b l = true) : fresh a b l.reverse = true := by
  have key : ∀ (x y : List Ent), fresh a b x = true → fresh a b y = true → fresh a b (x.reverse ++ y) = true := by
    intro x
    induction x with
    | nil => intro y _ hy; simpa using hy
    | cons c t ih =>
      intro y hx hy
      simp only [fresh, Bool.and_eq_true] at hx
      rw [List.reverse_cons, List.append_assoc]
      exact ih _ hx.2 (by simp only [List.singleton_append, fresh, hx.1, hy, Bool.and_self])
  have := key l [] h rfl
  simpa using this

theorem run_equal_kind (a b c d : Int) (w : World) : (Op.equal 26 (kindV a b) (kindV c d)).run Tryz.prog w = .ok (a == c && b == d) w := by
  have h1 : Tryz.prog.underlying 26 = some (.struct (Tryz.prog.fieldsOf 26)) := by kernel_rfl
  have h2 : Tryz.prog.stoodInHeld 26 = false := by kernel_rfl
  unfold Op.equal Op.maxDepth
  rw [run_equalIn_agg w _ _ _ _ h1 h2]
  clear h1 h2
  by_cases e1 : a = c
  · by_cases e2 : b = d
    · subst e1 e2; go_simp
    · have : (b == d) = false := by simpa using e2
      subst e1; go_simp
  · have : (a == c) = false := by simpa using e1
    go_simp

theorem run_findAsking (a b : Int) (l : List Ent) (i : Nat) (w : World) : (Instr.findAsking 26 (kindV a b) (l.map en) i).run Tryz.prog w = .ok (look a b l i) w := by
  induction l generalizing i with
  | nil => rfl
  | cons x t ih =>
    simp only [List.map_cons, Instr.findAsking, Sem.run_bind]
    rw [show (en x).key = kindV x.1 x.2.1 from rfl, run_equal_kind]
    simp only [Result.andThen_ok, look]
    by_cases h : (a == x.1 && b == x.2.1) = true
    · simp only [h, if_true]; rfl
    · simp only [h]; exact ih _

theorem run_findKey (a b : Int) (l : List Ent) (w : World) : (Instr.findKey 26 (kindV a b) (l.map en)).run Tryz.prog w = .ok (look a b l 0) w := by
  have h1 : Tryz.prog.underlying 26 = some (.struct (Tryz.prog.fieldsOf 26)) := by kernel_rfl
  unfold Instr.findKey
  rw [Sem.run_bind, run_underlying h1]
  simp only [Result.andThen_ok]
  cases l with
  | nil => rfl
  | cons x t =>
    have : Instr.findNow (.struct (Tryz.prog.fieldsOf 26)) (kindV a b) ((x :: t).map en) 0 = none := rfl
    rw [this]
    exact run_findAsking a b (x :: t) 0 w

theorem run_checkKey (e : Bool) (a b : Int) (w : World) : (Instr.checkKey e 10000 26 (kindV a b)).run Tryz.prog w = .ok () w := by
  cases e <;> kernel_rfl

/-- The world with a map of kinds as its last block. -/
def mw (w : World) (l : List Ent) (c : Nat) : World := (w.alloc (.map (l.reverse.map en).toArray c)).drew

theorem run_insert (w : World) (l : List Ent) (c : Nat) (a b z : Int) (h : fresh a b l = true) :
    (Instr.mapUpdate 85 (.map (some w.heap.size)) (kindV a b) (.int .i64 z)).run Tryz.prog (mw w l c) = .ok () (mw w ((a, b, z, c) :: l) (c + 1)) := by
  have hh : (mw w l c).heap[w.heap.size]? = some (.map (l.reverse.map en).toArray c) := heap_alloc_new w _
  have hu : Tryz.prog.underlying 85 = some (.map 26 3) := by kernel_rfl
  unfold Instr.mapUpdate
  simp only [Sem.run_bind, run_underlying hu, Result.andThen_ok, getObj, Sem.run, hh, run_checkKey, run_findKey, look_fresh a b l.reverse 0 (fresh_reverse a b l h), setObj]
  congr 1
  unfold mw World.drew World.alloc
  congr 1
  apply Array.ext'
  simp [Array.setIfInBounds, Array.toList_push, en]

theorem run_lookupKind (w : World) (bm : Nat) (l : List Ent) (c : Nat) (a b : Int) (hh : w.heap[bm]? = some (.map (l.map en).toArray c)) :
    (Instr.lookup 85 (.map (some bm)) (kindV a b) true).run Tryz.prog w = .ok (match look a b l 0 with | some (_, v) => .tuple #[v, .bool true] | none => .tuple #[.int .i64 0, .bool false]) w := by
  have hu : Tryz.prog.underlying 85 = some (.map 26 3) := by kernel_rfl
  have hz : (zeroValue 3).run Tryz.prog w = .ok (.int .i64 0) w := by kernel_rfl
  unfold Instr.lookup
  rw [Sem.run_bind, run_underlying hu]
  simp only [Result.andThen_ok]
  have hg : (getObj bm).run Tryz.prog w = .ok (.map (l.map en).toArray c) w := by simp only [getObj, Sem.run, hh]
  simp only [Sem.run_bind, hg, Result.andThen_ok, Sem.run_pure, run_checkKey, run_findKey]
  cases look a b l 0 with
  | none => simp [hz]
  | some x => simp

/-- What the map of sizes holds. -/
def sizesT : List (Int × Int × Int) := [(3, 1, 32), (4, 1, 32), (4, 2, 64), (4, 3, 32)]
def okL (l : List Ent) : Bool := l.all (fun x => sizesT.contains (x.1, x.2.1, x.2.2.1)) && sizesT.all (fun y => l.any fun x => x.1 == y.1 && x.2.1 == y.2.1)
def sizeOf (v p : Int) : Option Int := if v = 3 ∧ p = 1 then some 32 else if v = 4 ∧ p = 1 then some 32 else if v = 4 ∧ p = 2 then some 64 else if v = 4 ∧ p = 3 then some 32 else none

theorem look_all (a b : Int) : ∀ (l : List Ent) (i : Nat), (∀ x ∈ l, sizesT.contains (x.1, x.2.1, x.2.2.1) = true) → look a b l i = none ∧ (∀ x ∈ l, ¬ (x.1 = a ∧ x.2.1 = b)) ∨ ∃ j z, look a b l i = some (j, .int .i64 z) ∧ sizeOf a b = some z
  | [], _, _ => .inl ⟨rfl, fun x hx => by cases hx⟩
  | x :: t, i, h => by
    by_cases hx : (a == x.1 && b == x.2.1) = true
    · refine .inr ⟨i, x.2.2.1, by simp only [look, hx, if_true], ?_⟩
      have h1 := h x (by simp)
      obtain ⟨x1, x2, x3, x4⟩ := x
      simp only [Bool.and_eq_true, beq_iff_eq] at hx
      obtain ⟨rfl, rfl⟩ := hx
      simp only [sizesT, List.contains_iff_mem, List.mem_cons, List.not_mem_nil, or_false, Prod.mk.injEq] at h1
      rcases h1 with ⟨rfl, rfl, rfl⟩ | ⟨rfl, rfl, rfl⟩ | ⟨rfl, rfl, rfl⟩ | ⟨rfl, rfl, rfl⟩ <;> rfl
    · rcases look_all a b t (i + 1) (fun y hy => h y (by simp [hy])) with ⟨h1, h2⟩ | ⟨j, z, h1, h2⟩
      · refine .inl ⟨by simp only [look, hx]; exact h1, fun y hy hk => ?_⟩
        rcases List.mem_cons.1 hy with rfl | hy
        · apply hx; simp [hk.1, hk.2]
        · exact h2 y hy hk
      · exact .inr ⟨j, z, by simp only [look, hx]; exact h1, h2⟩

theorem look_ok (a b : Int) (l : List Ent) (h : okL l = true) : (look a b l 0 = none ∧ sizeOf a b = none) ∨ ∃ j z, look a b l 0 = some (j, .int .i64 z) ∧ sizeOf a b = some z := by
  simp only [okL, Bool.and_eq_true, List.all_eq_true] at h
  rcases look_all a b l 0 h.1 with ⟨h1, h2⟩ | h1
  · refine .inl ⟨h1, ?_⟩
    have h3 : ∀ y ∈ sizesT, ¬ (a = y.1 ∧ b = y.2.1) := fun y hy hk => by
      have := h.2 y hy
      simp only [List.any_eq_true, Bool.and_eq_true, beq_iff_eq] at this
      obtain ⟨x, hx, h4, h5⟩ := this
      exact h2 x hx ⟨by rw [h4, hk.1], by rw [h5, hk.2]⟩
    unfold sizeOf
    rw [if_neg (h3 (3, 1, 32) (by simp [sizesT])), if_neg (h3 (4, 1, 32) (by simp [sizesT])), if_neg (h3 (4, 2, 64) (by simp [sizesT])), if_neg (h3 (4, 3, 32) (by simp [sizesT]))]
  · exact .inr h1

/-- A map of the sizes. -/
def Sizes (v : Value) (w : World) : Prop := ∃ bm l c, v = .map (some bm) ∧ w.heap[bm]? = some (.map (l.map en).toArray c) ∧ okL l = true
theorem Sizes.stays : MWord.Stays Sizes := fun v w w' h hb => by
  obtain ⟨bm, l, c, h1, h2, h3⟩ := h
  exact ⟨bm, l, c, h1, Vo.heap_below h2 hb, h3⟩

theorem run_sizes {v : Value} {w : World} (h : Sizes v w) (a b : Int) :
    (Instr.lookup 85 v (.agg #[.int .i64 a, .int .i64 b]) true).run Tryz.prog w = .ok (.tuple #[.int .i64 ((sizeOf a b).getD 0), .bool (sizeOf a b).isSome]) w := by
  obtain ⟨bm, l, c, rfl, h2, h3⟩ := h
  rw [run_lookupKind w bm l c a b h2]
  rcases look_ok a b l h3 with ⟨h4, h5⟩ | ⟨j, z, h4, h5⟩ <;> rw [h4, h5] <;> rfl

theorem fresh_nil (a b : Int) : fresh a b [] = true := Eq.trans (by rw [fresh]) (Eq.refl true)
theorem fresh_cons (a b : Int) (x : Ent) (t : List Ent) : fresh a b (x :: t) = (!(a == x.1 && b == x.2.1) && fresh a b t) := Eq.trans (by rw [fresh]) (Eq.refl _)
attribute [local go_sem] fresh_nil fresh_cons
set_option maxHeartbeats 8000000 in
theorem sizes_any (w : World) : Calls Tryz.prog 41 #[] w fun e w' => ∃ v, e = .returned v ∧ Below w.heap.size w w' ∧ Sizes v w' := by
  have hmm : (Instr.makeMap 85 none).run Tryz.prog w.drew = .ok (.map (some w.heap.size)) (mw w [] 0) := run_makeMap _ _
  have hins : ∀ (l : List Ent) (c : Nat) (a b z : Int), fresh a b l = true → (Instr.mapUpdate 85 (.map (some w.heap.size)) (.agg #[.int .i64 a, .int .i64 b]) (.int .i64 z)).run Tryz.prog (mw w l c) = .ok () (mw w ((a, b, z, c) :: l) (c + 1)) := fun l c a b z h => run_insert w l c a b z h
  go_enter Tryz.func41, Tryz.ntmps41
  go_wp2
  go_region
  all_goals
    go_wp2
    go_ret
    exact ⟨_, rfl, ((Below.refl _ _).alloc (Nat.le_refl _) _).drew, _, _, _, rfl, heap_alloc_new w _, by decide⟩

end Go.Proofs.YtlgghcffmnofdaaGreatDoor.Ke

/-
  key.New, as far as it looks at the version, the purpose and the length.
-/
namespace Go.Proofs.YtlgghcffmnofdaaGreatDoor.Ke
open Go Go.RowKit Go.Proofs.YtlgghcffmnofdaaGreatDoor.Cn
set_option linter.unusedSimpArgs false
set_option maxRecDepth 100000

abbrev key0 : Value := .agg #[.int .i64 0, .int .i64 0, .string ⟨#[]⟩]

/-- What New answers by version, purpose and length alone. -/
def newRes (v p : Int) (l : List UInt8) : Value := match sizeOf v p with
  | none => .tuple #[key0, .int .i64 7]
  | some z => if (l.length : Int) = z then .tuple #[keyV v p ⟨l.toArray⟩, .int .i64 0] else .tuple #[key0, .int .i64 3]

set_option maxHeartbeats 1600000 in
theorem new_early (v p : Int) (l : List UInt8) (bv : Value) (w : World) (hv : Bsl w bv l) (he : sizeOf v p = none ∨ ∃ z, sizeOf v p = some z ∧ ((l.length : Int) ≠ z ∨ p = 1)) :
    Calls Tryz.prog 17 #[.int .i64 v, .int .i64 p, bv] w fun e w' =>
      e = .returned (newRes v p l) ∧ Below w.heap.size w w' := by
  have hcv := fun w (h : Bsl w bv l) => conv_bsl h
  have HV := Lib.hid hv
  obtain ⟨a, cap, hbv, _, _⟩ := hv
  subst hbv
  have hc0 := conv_bsl (HV.out.below ((Below.refl w.heap.size w).alloc (Nat.le_refl _) (.cells #[.int .i64 0, .int .i64 0, .string ⟨#[]⟩] 28)))
  clear hcv
  have HE := Lib.hid he; clear he
  go_enter Tryz.func17, Tryz.ntmps17
  go_wp2
  (refine wp_region_mild 9 (by kernel_rfl) (by kernel_rfl) ?_; simp only [List.take_succ_cons, List.take_zero, List.drop_succ_cons, List.drop_zero])
  (apply wpMild_call; (focus (intro wm hm; have hrw := fun p h => Go.RowKit.Below.cell (p := p) hm h; go_simp; (exact sizes_any _))); (focus (first | exact Go.md_stays_eq _ | (intro v w w' h hb; first | exact Bsl.below h hb | exact Sizes.stays _ _ _ h hb | (obtain ⟨c, h1, h2, h3⟩ := h; exact ⟨c, h1, h2, Vo.heap_below h3 hb⟩) | fail))); simp only [List.cons_append, List.nil_append])
  (apply wpMild_const; (focus (intro wm hm; have hrw := fun p h => Go.RowKit.Below.cell (p := p) hm h; go_simp; exact rfl)); simp only [List.cons_append, List.nil_append])
  (apply wpMild_const; (focus (intro wm hm; have hrw := fun p h => Go.RowKit.Below.cell (p := p) hm h; go_simp; exact rfl)); simp only [List.cons_append, List.nil_append])
  (apply wpMild_const; (focus (intro wm hm; have hrw := fun p h => Go.RowKit.Below.cell (p := p) hm h; go_simp; (intro vm hvm; have hl := run_sizes hvm v p; go_simp; exact rfl))); simp only [List.cons_append, List.nil_append])
  repeat (apply wpMild_const; (focus (intro wm hm; have hrw := fun p h => Go.RowKit.Below.cell (p := p) hm h; go_simp; exact rfl)); simp only [List.cons_append, List.nil_append])
  (refine wpMild_nil ?_; intro wm hm; simp only [mildAll, forall_eq, forall_exists_index, and_imp, Act.put, List.setIfInBounds_toArray, List.set_cons_succ, List.set_cons_zero, forall_eq_apply_imp_iff])
  intro vm _
  have bel := ((((Below.refl w.heap.size w).alloc (Nat.le_refl _) (Obj.cells #[Value.int IntKind.i64 0, Value.int IntKind.i64 0, Value.string ⟨#[]⟩] 28)).alloc (by simp) (Obj.cells #[Value.int IntKind.i64 v, Value.int IntKind.i64 p, Value.string ⟨l.toArray⟩] 28)).trans (hm.mono (by simp; omega)))
  have k := fun p h => hm.cell (p := p) h
  have k2 := fun p h => hm.frozen (p := p) h
  clear hc0
  have c0 : wm.cell? ⟨w.heap.size, 0, none⟩ = some (.int .i64 0) := by rw [k _ (by simp <;> omega)]; simp
  have c1 : wm.cell? ⟨w.heap.size, 1, none⟩ = some (.int .i64 0) := by rw [k _ (by simp <;> omega)]; simp
  have c2 : wm.cell? ⟨w.heap.size, 2, none⟩ = some (.string ⟨#[]⟩) := by rw [k _ (by simp <;> omega)]; simp
  have d0 : wm.cell? ⟨w.heap.size + 1, 0, none⟩ = some (.int .i64 v) := by rw [k _ (by simp <;> omega)]; simp
  have d1 : wm.cell? ⟨w.heap.size + 1, 1, none⟩ = some (.int .i64 p) := by rw [k _ (by simp <;> omega)]; simp
  have d2 : wm.cell? ⟨w.heap.size + 1, 2, none⟩ = some (.string ⟨l.toArray⟩) := by rw [k _ (by simp <;> omega)]; simp
  have f0 : ∀ j, wm.frozen? ⟨w.heap.size, j, none⟩ = false := fun j => by rw [k2 _ (by simp <;> omega)]; simp
  clear k k2 hm
  have hr : newRes v p l = (match sizeOf v p with | none => .tuple #[key0, .int .i64 7] | some z => if (l.length : Int) = z then .tuple #[keyV v p ⟨l.toArray⟩, .int .i64 0] else .tuple #[key0, .int .i64 3]) := rfl
  rcases hs : sizeOf v p with _ | z
  · clear HE
    rw [hs] at hr
    have HR := Lib.hid hr; clear hr
    go_wp2
    refine bodyPost_ret (by simp [results, Tryz.results17, go_sem, c0, c1, c2]; try rfl) rfl ?_
    exact ⟨by rw [HR.out], by go_grown⟩
  · have hg : (some z).getD 0 = z := rfl
    rw [hs] at hr
    by_cases hl : (l.length : Int) = z
    · have hp : p = 1 := by
        obtain he := HE.out
        rw [hs] at he
        rcases he with he | ⟨z', he, h1 | h1⟩
        · cases he
        · exact absurd hl (by cases he; exact h1)
        · exact h1
      have hp3 : (p == 3) = false := by subst hp; rfl
      have hp2 : (p == 2) = false := by subst hp; rfl
      clear hp
      have hb1 : ((l.length : Int) != z) = false := by simp [hl]
      have HR := Lib.hid hr; clear hr
      clear HE
      go_wp2
      refine bodyPost_ret (by simp [results, Tryz.results17, go_sem, c0, c1, c2]; try rfl) rfl ?_
      exact ⟨by rw [HR.out]; simp only [if_pos hl], by go_grown⟩
    · have hb1 : ((l.length : Int) != z) = true := by simp [hl]
      have HR := Lib.hid hr; clear hr
      clear HE
      go_wp2
      refine bodyPost_ret (by simp [results, Tryz.results17, go_sem, c0, c1, c2]; try rfl) rfl ?_
      exact ⟨by rw [HR.out]; simp only [if_neg hl], by go_grown⟩
end Go.Proofs.YtlgghcffmnofdaaGreatDoor.Ke

/-
  The walk of key.Same.
-/
namespace Go.Proofs.YtlgghcffmnofdaaGreatDoor.Ke
open Go Go.RowKit Go.Proofs.YtlgghcffmnofdaaGreatDoor.Cn
set_option linter.unusedSimpArgs false
set_option maxRecDepth 100000

set_option maxHeartbeats 4000000 in
theorem keySame_any (v p v' p' : Int) (b b' : ByteArray) (w : World) (hl : b.size < 1000000000) :
    Calls Tryz.prog 18 #[keyV v p b, keyV v' p' b'] w fun e w' => e = .returned (.bool (decide (v = v' ∧ p = p' ∧ b.data.toList = b'.data.toList))) ∧ Below w.heap.size w w' := by
  have HL := Lib.hid hl
  clear hl
  obtain ⟨r, hr⟩ : ∃ r, r = decide (v = v' ∧ p = p' ∧ b.data.toList = b'.data.toList) := ⟨_, rfl⟩
  rw [← hr]
  have HR := Lib.hid hr
  clear hr
  have heq := fun w => run_equal_kind v p v' p' w
  by_cases hk : v = v' ∧ p = p'
  · obtain ⟨rfl, rfl⟩ := hk
    have h1 : (v == v) = true := by simp
    have h2 : (p == p) = true := by simp
    have HR2 : Hid (decide (b.data.toList = b'.data.toList) = r) := Lib.hid (by rw [HR.out]; simp)
    clear HR
    go_enter Tryz.func18, Tryz.ntmps18
    go_upto_region 1 with (fail)
    (refine wp_region_mild 12 (by kernel_rfl) (by kernel_rfl) ?_; simp only [List.take_succ_cons, List.take_zero, List.drop_succ_cons, List.drop_zero])
    (apply wpMild_const; (focus (intro wm hm; have hrw := fun p h => Go.RowKit.Below.cell (p := p) hm h; go_simp; exact rfl)); simp only [List.cons_append, List.nil_append])
    (apply wpMild_const; (focus (intro wm hm; have hrw := fun p h => Go.RowKit.Below.cell (p := p) hm h; go_simp; exact rfl)); simp only [List.cons_append, List.nil_append])
    (apply wpMild_const; (focus (intro wm hm; have hrw := fun p h => Go.RowKit.Below.cell (p := p) hm h; go_simp; exact rfl)); simp only [List.cons_append, List.nil_append])
    (apply wpMild_const; (focus (intro wm hm; have hrw := fun p h => Go.RowKit.Below.cell (p := p) hm h; go_simp; exact rfl)); simp only [List.cons_append, List.nil_append])
    (apply wpMild_const; (focus (intro wm hm; have hrw := fun p h => Go.RowKit.Below.cell (p := p) hm h; go_simp; exact rfl)); simp only [List.cons_append, List.nil_append])
    (apply wpMild_const; (focus (intro wm hm; have hrw := fun p h => Go.RowKit.Below.cell (p := p) hm h; go_simp; exact rfl)); simp only [List.cons_append, List.nil_append])
    (apply wpMild_const; (focus (intro wm hm; have hrw := fun p h => Go.RowKit.Below.cell (p := p) hm h; go_simp; exact rfl)); simp only [List.cons_append, List.nil_append])
    (apply wpMild_call; (focus (intro wm hm; have hrw := fun p h => Go.RowKit.Below.cell (p := p) hm h; go_simp; (exact keyBytes_any v p b _))); (focus (first | exact Go.md_stays_eq _ | (intro v w w' h hb; first | exact Bsl.below h hb | exact Sizes.stays _ _ _ h hb | (obtain ⟨c, h1, h2, h3⟩ := h; exact ⟨c, h1, h2, Vo.heap_below h3 hb⟩) | fail))); simp only [List.cons_append, List.nil_append])
    (apply wpMild_const; (focus (intro wm hm; have hrw := fun p h => Go.RowKit.Below.cell (p := p) hm h; go_simp; exact rfl)); simp only [List.cons_append, List.nil_append])
    (apply wpMild_call; (focus (intro wm hm; have hrw := fun p h => Go.RowKit.Below.cell (p := p) hm h; go_simp; (exact keyBytes_any v p b' _))); (focus (first | exact Go.md_stays_eq _ | (intro v w w' h hb; first | exact Bsl.below h hb | exact Sizes.stays _ _ _ h hb | (obtain ⟨c, h1, h2, h3⟩ := h; exact ⟨c, h1, h2, Vo.heap_below h3 hb⟩) | fail))); simp only [List.cons_append, List.nil_append])
    (apply wpMild_call; (focus (intro wm hm; have hrw := fun p h => Go.RowKit.Below.cell (p := p) hm h; go_simp; (intro v1 hv1 v2 hv2; have h := Calls.mild (same_any _ _ _ _ _ hv1 hv2 HL.out); rw [HR2.out] at h; exact h))); (focus (first | exact Go.md_stays_eq _ | (intro v w w' h hb; first | exact Bsl.below h hb | exact Sizes.stays _ _ _ h hb | (obtain ⟨c, h1, h2, h3⟩ := h; exact ⟨c, h1, h2, Vo.heap_below h3 hb⟩) | fail))); simp only [List.cons_append, List.nil_append])
    (apply wpMild_const; (focus (intro wm hm; have hrw := fun p h => Go.RowKit.Below.cell (p := p) hm h; go_simp; exact rfl)); simp only [List.cons_append, List.nil_append])
    (refine wpMild_nil ?_; intro wm hm; simp only [mildAll, forall_eq, forall_exists_index, and_imp, Act.put, List.setIfInBounds_toArray, List.set_cons_succ, List.set_cons_zero, forall_eq_apply_imp_iff])
    intro _ _ _ _
    have bel := (((Below.refl w.heap.size w).alloc (Nat.le_refl _) (Obj.cells #[Value.int IntKind.i64 v, Value.int IntKind.i64 p, Value.string b] 28)).alloc (by simp) (Obj.cells #[Value.int IntKind.i64 v, Value.int IntKind.i64 p, Value.string b'] 28)).trans (hm.mono (by simp; omega))
    clear hm
    have hzs := bel.size
    go_wp2
    refine bodyPost_ret (by simp [results, Tryz.results18, go_sem]; try rfl) rfl ?_
    exact ⟨rfl, bel⟩
  · have h1 : (v == v' && p == p') = false := by
      rw [Bool.eq_false_iff]
      intro h
      simp only [Bool.and_eq_true, beq_iff_eq] at h
      exact hk h
    have HR2 : Hid (false = r) := Lib.hid (by rw [HR.out]; symm; rw [decide_eq_false_iff_not]; rintro ⟨h2, h3, _⟩; exact hk ⟨h2, h3⟩)
    clear HR heq h1
    rw [not_and] at hk
    by_cases hv : v = v'
    · subst hv
      have hp := hk rfl
      clear hk
      go_enter Tryz.func18, Tryz.ntmps18
      go_upto_region 1 with (fail)
      (refine wp_region_mild 12 (by kernel_rfl) (by kernel_rfl) ?_; simp only [List.take_succ_cons, List.take_zero, List.drop_succ_cons, List.drop_zero])
      (apply wpMild_const; (focus (intro wm hm; have hrw := fun p h => Go.RowKit.Below.cell (p := p) hm h; go_simp; exact rfl)); simp only [List.cons_append, List.nil_append])
      (apply wpMild_const; (focus (intro wm hm; have hrw := fun p h => Go.RowKit.Below.cell (p := p) hm h; go_simp; exact rfl)); simp only [List.cons_append, List.nil_append])
      (apply wpMild_const; (focus (intro wm hm; have hrw := fun p h => Go.RowKit.Below.cell (p := p) hm h; go_simp; exact rfl)); simp only [List.cons_append, List.nil_append])
      (apply wpMild_const; (focus (intro wm hm; have hrw := fun p h => Go.RowKit.Below.cell (p := p) hm h; go_simp; exact rfl)); simp only [List.cons_append, List.nil_append])
      (apply wpMild_const; (focus (intro wm hm; have hrw := fun p h => Go.RowKit.Below.cell (p := p) hm h; go_simp; exact rfl)); simp only [List.cons_append, List.nil_append])
      (apply wpMild_const; (focus (intro wm hm; have hrw := fun p h => Go.RowKit.Below.cell (p := p) hm h; go_simp; exact rfl)); simp only [List.cons_append, List.nil_append])
      (apply wpMild_const; (focus (intro wm hm; have hrw := fun p h => Go.RowKit.Below.cell (p := p) hm h; go_simp; exact rfl)); simp only [List.cons_append, List.nil_append])
      (apply wpMild_const; (focus (intro wm hm; have hrw := fun p h => Go.RowKit.Below.cell (p := p) hm h; go_simp; exact rfl)); simp only [List.cons_append, List.nil_append])
      (apply wpMild_const; (focus (intro wm hm; have hrw := fun p h => Go.RowKit.Below.cell (p := p) hm h; go_simp; exact rfl)); simp only [List.cons_append, List.nil_append])
      (apply wpMild_const; (focus (intro wm hm; have hrw := fun p h => Go.RowKit.Below.cell (p := p) hm h; go_simp; exact rfl)); simp only [List.cons_append, List.nil_append])
      (apply wpMild_const; (focus (intro wm hm; have hrw := fun p h => Go.RowKit.Below.cell (p := p) hm h; go_simp; exact rfl)); simp only [List.cons_append, List.nil_append])
      (apply wpMild_const; (focus (intro wm hm; have hrw := fun p h => Go.RowKit.Below.cell (p := p) hm h; go_simp; exact rfl)); simp only [List.cons_append, List.nil_append])
      (refine wpMild_nil ?_; intro wm hm; simp only [mildAll, forall_eq, forall_exists_index, and_imp, Act.put, List.setIfInBounds_toArray, List.set_cons_succ, List.set_cons_zero, forall_eq_apply_imp_iff])
      have bel := (((Below.refl w.heap.size w).alloc (Nat.le_refl _) (Obj.cells #[Value.int IntKind.i64 v, Value.int IntKind.i64 p, Value.string b] 28)).alloc (by simp) (Obj.cells #[Value.int IntKind.i64 v, Value.int IntKind.i64 p', Value.string b'] 28)).trans (hm.mono (by simp; omega))
      clear hm
      have hzs := bel.size
      go_wp2
      refine bodyPost_ret (by simp [results, Tryz.results18, go_sem]; try rfl) rfl ?_
      exact ⟨by rw [← HR2.out], bel⟩
    · clear hk
      go_enter Tryz.func18, Tryz.ntmps18
      go_upto_region 1 with (fail)
      (refine wp_region_mild 12 (by kernel_rfl) (by kernel_rfl) ?_; simp only [List.take_succ_cons, List.take_zero, List.drop_succ_cons, List.drop_zero])
      (apply wpMild_const; (focus (intro wm hm; have hrw := fun p h => Go.RowKit.Below.cell (p := p) hm h; go_simp; exact rfl)); simp only [List.cons_append, List.nil_append])
      (apply wpMild_const; (focus (intro wm hm; have hrw := fun p h => Go.RowKit.Below.cell (p := p) hm h; go_simp; exact rfl)); simp only [List.cons_append, List.nil_append])
      (apply wpMild_const; (focus (intro wm hm; have hrw := fun p h => Go.RowKit.Below.cell (p := p) hm h; go_simp; exact rfl)); simp only [List.cons_append, List.nil_append])
      (apply wpMild_const; (focus (intro wm hm; have hrw := fun p h => Go.RowKit.Below.cell (p := p) hm h; go_simp; exact rfl)); simp only [List.cons_append, List.nil_append])
      (apply wpMild_const; (focus (intro wm hm; have hrw := fun p h => Go.RowKit.Below.cell (p := p) hm h; go_simp; exact rfl)); simp only [List.cons_append, List.nil_append])
      (apply wpMild_const; (focus (intro wm hm; have hrw := fun p h => Go.RowKit.Below.cell (p := p) hm h; go_simp; exact rfl)); simp only [List.cons_append, List.nil_append])
      (apply wpMild_const; (focus (intro wm hm; have hrw := fun p h => Go.RowKit.Below.cell (p := p) hm h; go_simp; exact rfl)); simp only [List.cons_append, List.nil_append])
      (apply wpMild_const; (focus (intro wm hm; have hrw := fun p h => Go.RowKit.Below.cell (p := p) hm h; go_simp; exact rfl)); simp only [List.cons_append, List.nil_append])
      (apply wpMild_const; (focus (intro wm hm; have hrw := fun p h => Go.RowKit.Below.cell (p := p) hm h; go_simp; exact rfl)); simp only [List.cons_append, List.nil_append])
      (apply wpMild_const; (focus (intro wm hm; have hrw := fun p h => Go.RowKit.Below.cell (p := p) hm h; go_simp; exact rfl)); simp only [List.cons_append, List.nil_append])
      (apply wpMild_const; (focus (intro wm hm; have hrw := fun p h => Go.RowKit.Below.cell (p := p) hm h; go_simp; exact rfl)); simp only [List.cons_append, List.nil_append])
      (apply wpMild_const; (focus (intro wm hm; have hrw := fun p h => Go.RowKit.Below.cell (p := p) hm h; go_simp; exact rfl)); simp only [List.cons_append, List.nil_append])
      (refine wpMild_nil ?_; intro wm hm; simp only [mildAll, forall_eq, forall_exists_index, and_imp, Act.put, List.setIfInBounds_toArray, List.set_cons_succ, List.set_cons_zero, forall_eq_apply_imp_iff])
      have bel := (((Below.refl w.heap.size w).alloc (Nat.le_refl _) (Obj.cells #[Value.int IntKind.i64 v, Value.int IntKind.i64 p, Value.string b] 28)).alloc (by simp) (Obj.cells #[Value.int IntKind.i64 v', Value.int IntKind.i64 p', Value.string b'] 28)).trans (hm.mono (by simp; omega))
      clear hm
      have hzs := bel.size
      go_wp2
      refine bodyPost_ret (by simp [results, Tryz.results18, go_sem]; try rfl) rfl ?_
      exact ⟨by rw [← HR2.out], bel⟩
end Go.Proofs.YtlgghcffmnofdaaGreatDoor.Ke
