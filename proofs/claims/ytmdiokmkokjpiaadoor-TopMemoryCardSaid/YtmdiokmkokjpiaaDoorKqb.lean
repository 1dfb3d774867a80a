/-
  code.kinds: the map that it makes, whatever the order in which it ranges over its own groups.
-/
import Derived.Test.YtmdiokmkokjpiaaDoorKqa
import Derived.Maps.StringElems
import Derived.WalkKit
import Derived.Maps.RangeWalk
import Derived.Maps.OwnOps
import Derived.Maps.Ext
set_option linter.all false
set_option linter.unusedVariables false
set_option linter.unusedSimpArgs false
set_option linter.unnecessarySimpa false
namespace Go.Proofs
open Go.RowKit Go.Maps Go.WideMaps
set_option maxRecDepth 100000

/-- 'm[k] = v' of a map's literal. -/
theorem wpList_insert_own {H : Type} {P : Program} (w : World) {ops : Array Oper} {rest : List Oper} {o : Oper} {a : Act} {Q : Exit → Act → World → Prop}
    (hg : o.guard = none) (m x v : Operand) (t : TypeId) (hop : o.op = Op.insert t m x v)
    (k e : TypeId) (K : Keyed P k) (ht : P.underlying t = some (.map k e)) (R : Value → Option (DataW H × List MemPlace)) (b n : Nat) (D : DataW H)
    (hm : a.eval m = .map (some b)) (hown : w.ownsMap P k R b n D) (hn : n < maxLen) (key val : Value) (kl : Lit) (hx : a.eval x = key) (hv : a.eval v = val) (hkey : keyOf P k key = some kl)
    (d : DataW H) (ps : List MemPlace) (hval : R val = some (d, ps))
    (hK : ∀ w', w'.ownsMap P k R b (n + 1) (D.put kl d) → w.grownBy w' (some b) → wpList P ops Q rest (a.put o.dst undef) w') :
    wpList P ops Q (o :: rest) a w := by
  refine wpList_plain hg fun K' hK' => ?_
  obtain ⟨w', hrun, r1, r2⟩ := hown.update K ht hn hkey hval
  unfold Oper.wp
  simp [execOp, hop, hm, hx, hv, hrun, Result.andThen]
  exact hK' _ _ (hK w' r1 r2)

theorem Tryd.law9 : Keyed Tryd.prog 9 := string_keyed Tryd.underlying9
theorem Tryd.law29 : Keyed Tryd.prog 29 := int_keyed Tryd.underlying29

abbrev OutM (w : World) (b n : Nat) (D : DataW Unit) : Prop := w.ownsMap Tryd.prog 9 (plainElem Tryd.prog 29) b n D
abbrev GrpM (w : World) (b n : Nat) (D : DataW Unit) : Prop := w.ownsMap Tryd.prog 29 (plainElem Tryd.prog 9) b n D
theorem out_put {w : World} {b n : Nat} {D : DataW Unit} (h : OutM w b n D) (hn : n < 100) (s : ByteArray) (c : Int) (hs : s.size ≤ 100) (hc : (Lit.int .u8 c).wf = true) :
    ∃ w', (Instr.mapUpdate 55 (.map (some b)) (.string s) (.int .u8 c)).run Tryd.prog w = .ok () w' ∧ OutM w' b (n + 1) (D.put (.string s.data.toList) (.lit (.int .u8 c))) ∧ w.grownBy w' (some b) :=
  World.ownsMap.update h Tryd.law9 Tryd.underlying55 (by unfold maxLen; omega) (keyOf_string_mk Tryd.underlying9 (by unfold maxLen; omega)) (plainElem_int Tryd.underlying29 hc)
theorem grp_put {w : World} {b n : Nat} {D : DataW Unit} (h : GrpM w b n D) (hn : n < 100) (c : Int) (s : ByteArray) (hs : s.size ≤ 100) (hc : (Lit.int .u8 c).wf = true) :
    ∃ w', (Instr.mapUpdate 83 (.map (some b)) (.int .u8 c) (.string s)).run Tryd.prog w = .ok () w' ∧ GrpM w' b (n + 1) (D.put (.int .u8 c) (.lit (.string s.data.toList))) ∧ w.grownBy w' (some b) :=
  World.ownsMap.update h Tryd.law29 Tryd.underlying83 (by unfold maxLen; omega) (keyOf_int_mk Tryd.underlying29 hc) (plainElem_string Tryd.underlying9 (by unfold maxLen; omega))
/-- The names of the groups. -/
def tTurn : ByteArray := ⟨#[65, 83, 76, 32, 76, 83, 82, 32, 82, 79, 76, 32, 82, 79, 82, 32, 73, 78, 67, 32, 68, 69, 67, 32, 83, 76, 79, 32, 82, 76, 65, 32, 83, 82, 69, 32, 82, 82, 65, 32, 68, 67, 80, 32, 73, 83, 67]⟩
def tStore : ByteArray := ⟨#[83, 84, 65, 32, 83, 84, 88, 32, 83, 84, 89, 32, 83, 65, 88, 32, 83, 72, 65, 32, 83, 72, 88, 32, 83, 72, 89, 32, 84, 65, 83]⟩
def tPush : ByteArray := ⟨#[80, 72, 65, 32, 80, 72, 80]⟩
def tPull : ByteArray := ⟨#[80, 76, 65, 32, 80, 76, 80]⟩
/-- The first six. -/
def six (D : DataW Unit) : DataW Unit :=
  (((((D.put (.string [74, 77, 80]) (.lit (.int .u8 7))).put (.string [74, 83, 82]) (.lit (.int .u8 8))).put (.string [82, 84, 83]) (.lit (.int .u8 9))).put (.string [82, 84, 73]) (.lit (.int .u8 10))).put (.string [66, 82, 75]) (.lit (.int .u8 11))).put (.string [74, 65, 77]) (.lit (.int .u8 12))
def grp (D : DataW Unit) : DataW Unit :=
  (((D.put (.int .u8 3) (.lit (.string tTurn.data.toList))).put (.int .u8 2) (.lit (.string tStore.data.toList))).put (.int .u8 5) (.lit (.string tPush.data.toList))).put (.int .u8 6) (.lit (.string tPull.data.toList))
/-- Which kind a name has that goes by its name. -/
def kTab : List (List UInt8 × Int) := [([74, 77, 80], 7), ([74, 83, 82], 8), ([82, 84, 83], 9), ([82, 84, 73], 10), ([66, 82, 75], 11), ([74, 65, 77], 12),
  ([65, 83, 76], 3), ([76, 83, 82], 3), ([82, 79, 76], 3), ([82, 79, 82], 3), ([73, 78, 67], 3), ([68, 69, 67], 3), ([83, 76, 79], 3), ([82, 76, 65], 3), ([83, 82, 69], 3), ([82, 82, 65], 3), ([68, 67, 80], 3), ([73, 83, 67], 3),
  ([83, 84, 65], 2), ([83, 84, 88], 2), ([83, 84, 89], 2), ([83, 65, 88], 2), ([83, 72, 65], 2), ([83, 72, 88], 2), ([83, 72, 89], 2), ([84, 65, 83], 2),
  ([80, 72, 65], 5), ([80, 72, 80], 5), ([80, 76, 65], 6), ([80, 76, 80], 6)]
def kindT (s : List UInt8) : Option Int := kTab.lookup s
/-- What is there has its kind. -/
def Sound (D : DataW Unit) : Prop := IsMap D ∧ ∀ s, Maps.has D (.string s) = true → ∃ k, kindT s = some k ∧ ∀ z, D.atKey (.string s) z = .lit (.int .u8 k)
theorem Sound.empty : Sound (.map []) := ⟨isMap_empty, fun s h => by simp [Maps.has] at h⟩
theorem Sound.put {D : DataW Unit} (h : Sound D) {s : List UInt8} {c : Int} (hk : kindT s = some c) : Sound (D.put (.string s) (.lit (.int .u8 c))) := by
  refine ⟨h.1.put _ _, fun t ht => ?_⟩
  by_cases e : t = s
  · subst e
    exact ⟨c, hk, fun z => atKey_put_same (k := .string _) h.1 trivial _ z⟩
  · have hne : (Lit.string t) ≠ .string s := fun e' => e (by injection e')
    rw [has_put_other hne] at ht
    obtain ⟨k, h1, h2⟩ := h.2 t ht
    exact ⟨k, h1, fun z => by rw [atKey_put_other hne]; exact h2 z⟩
theorem has_put_mono {D : DataW Unit} (h : Sound D) {s t : List UInt8} {d : DataW Unit} (ht : Maps.has D (.string t) = true ∨ t = s) : Maps.has (D.put (.string s) d) (.string t) = true := by
  by_cases e : t = s
  · subst e; exact has_put_same (k := .string _) h.1 trivial _
  · rw [has_put_other (fun e' => e (by injection e'))]
    exact ht.resolve_right e
/-- What the map holds, where these groups are still to come. -/
structure Inv (D : DataW Unit) (left : Lit → Bool) : Prop where
  so : Sound D
  all : ∀ s k, kindT s = some k → (7 ≤ k ∨ left (.int .u8 k) = false) → Maps.has D (.string s) = true
/-- What it holds in the end. -/
def KindD (D : DataW Unit) : Prop := ∀ s, Maps.has D (.string s) = (kindT s).isSome ∧ ∀ k, kindT s = some k → ∀ z, D.atKey (.string s) z = .lit (.int .u8 k)
theorem Inv.done {D : DataW Unit} {left : Lit → Bool} (h : Inv D left) (hl : ∀ z, left z = false) : KindD D := fun s => by
  refine ⟨?_, fun k hk z => ?_⟩
  · cases hk : kindT s with
    | none =>
      cases hh : Maps.has D (.string s) with
      | false => rfl
      | true => obtain ⟨k, h1, _⟩ := h.so.2 s hh; rw [hk] at h1; cases h1
    | some k => exact h.all s k hk (.inr (hl _))
  · obtain ⟨k', h1, h2⟩ := h.so.2 s (h.all s k hk (.inr (hl _)))
    rw [hk] at h1; cases h1
    exact h2 z
theorem kindT_mem {s : List UInt8} {k : Int} (h : kindT s = some k) : (s, k) ∈ kTab := by
  unfold kindT at h
  generalize kTab = l at h ⊢
  induction l with
  | nil => cases h
  | cons p l ih =>
    rw [List.lookup] at h
    split at h
    · rename_i e
      cases h
      have : s = p.1 := by simpa using e
      subst this; exact List.mem_cons_self ..
    · exact List.mem_cons_of_mem _ (ih h)
/-- What a group is. -/
structure Grp (x : Int) (L : List (List UInt8)) : Prop where
  len : L.length ≤ 12
  names : ∀ s ∈ L, kindT s = some x ∧ s.length ≤ 100
  all : ∀ s, kindT s = some x → s ∈ L
theorem grp_of {x : Int} {L : List (List UInt8)} (h1 : L.length ≤ 12) (h2 : L.all (fun s => kindT s == some x && decide (s.length ≤ 100)) = true) (h3 : kTab.all (fun p => p.2 != x || L.contains p.1) = true) : Grp x L :=
  ⟨h1, fun s hs => by have := List.all_eq_true.1 h2 s hs; simpa using this, fun s hs => by
    have := List.all_eq_true.1 h3 _ (kindT_mem hs)
    simpa using this⟩
theorem Inv.start : Inv (six (.map [])) (Maps.has (grp (.map []))) := by
  refine ⟨?_, ?_⟩
  · unfold six
    exact (((((Sound.empty.put rfl).put rfl).put rfl).put rfl).put rfl).put rfl
  · intro s k hk hor
    have hm := kindT_mem hk
    have key : kTab.all (fun p => Maps.has (six (.map [])) (.string p.1) || (decide (p.2 < 7) && Maps.has (grp (.map [])) (.int .u8 p.2))) = true := by decide +kernel
    have := List.all_eq_true.1 key _ hm
    simp only [Bool.or_eq_true, Bool.and_eq_true, decide_eq_true_eq] at this
    rcases this with h | ⟨h1, h2⟩
    · exact h
    · rcases hor with h | h
      · omega
      · rw [h2] at h; cases h
theorem grp_at {x : Int} {s : ByteArray} (h : ∀ z, (grp (.map [])).atKey (.int .u8 x) z = .lit (.string s.data.toList)) : Grp x (Lib.fields s.data.toList) ∧ s.size ≤ 100 ∧ ∀ (j : Nat) (b : UInt8), s.data.toList[j]? = some b → b.toNat < 128 := by
  have hc : x = 3 ∨ x = 2 ∨ x = 5 ∨ x = 6 := by
    refine Classical.byContradiction fun hn => ?_
    simp only [not_or] at hn
    have h0 := h .nil
    unfold grp at h0
    rw [atKey_put_other (by intro e; injection e; omega), atKey_put_other (by intro e; injection e; omega), atKey_put_other (by intro e; injection e; omega), atKey_put_other (by intro e; injection e; omega)] at h0
    cases h0
  have hz : s.size = s.data.toList.length := rfl
  have asc : ∀ l : List UInt8, l.all (fun b => decide (b.toNat < 128)) = true → ∀ (j : Nat) (b : UInt8), l[j]? = some b → b.toNat < 128 := fun l hl j b hb => by
    have := List.all_eq_true.1 hl b (List.mem_of_getElem? hb); simpa using this
  rcases hc with rfl | rfl | rfl | rfl
  · have h1 : s.data.toList = tTurn.data.toList := by have := h .nil; rw [show (grp (.map [])).atKey (.int .u8 3) .nil = .lit (.string tTurn.data.toList) from by kernel_rfl] at this; injection this with e; injection e with e; exact e.symm
    rw [hz, h1]; exact ⟨grp_of (by decide +kernel) (by decide +kernel) (by decide +kernel), by decide +kernel, asc _ (by decide +kernel)⟩
  · have h1 : s.data.toList = tStore.data.toList := by have := h .nil; rw [show (grp (.map [])).atKey (.int .u8 2) .nil = .lit (.string tStore.data.toList) from by kernel_rfl] at this; injection this with e; injection e with e; exact e.symm
    rw [hz, h1]; exact ⟨grp_of (by decide +kernel) (by decide +kernel) (by decide +kernel), by decide +kernel, asc _ (by decide +kernel)⟩
  · have h1 : s.data.toList = tPush.data.toList := by have := h .nil; rw [show (grp (.map [])).atKey (.int .u8 5) .nil = .lit (.string tPush.data.toList) from by kernel_rfl] at this; injection this with e; injection e with e; exact e.symm
    rw [hz, h1]; exact ⟨grp_of (by decide +kernel) (by decide +kernel) (by decide +kernel), by decide +kernel, asc _ (by decide +kernel)⟩
  · have h1 : s.data.toList = tPull.data.toList := by have := h .nil; rw [show (grp (.map [])).atKey (.int .u8 6) .nil = .lit (.string tPull.data.toList) from by kernel_rfl] at this; injection this with e; injection e with e; exact e.symm
    rw [hz, h1]; exact ⟨grp_of (by decide +kernel) (by decide +kernel) (by decide +kernel), by decide +kernel, asc _ (by decide +kernel)⟩
theorem fields_cell (w : World) (L : List (List UInt8)) (i : Nat) {x : List UInt8} (h : L[i]? = some x) : (w.alloc (.cells (L.map fun l => Value.string ⟨l.toArray⟩).toArray 9)).cell? ⟨w.heap.size, i, none⟩ = some (.string ⟨x.toArray⟩) := by
  rw [World.cell?_alloc_at _ _ _ _ rfl, List.getElem?_toArray, List.getElem?_map, h]
  rfl
theorem wf_kind {s : List UInt8} {k : Int} (h : kindT s = some k) : (Lit.int .u8 k).wf = true := by
  have hh : kTab.all (fun p => (Lit.int .u8 p.2).wf) = true := by decide +kernel
  exact List.all_eq_true.1 hh _ (kindT_mem h)
theorem lit_data (x : List UInt8) : (⟨x.toArray⟩ : ByteArray).data.toList = x := by simp
theorem lit_size (x : List UInt8) : (⟨x.toArray⟩ : ByteArray).size = x.length := by simp [ByteArray.size]
theorem tab_heap {w w' : World} {zs : List Int} (h : Lib.TabIs Tryd.prog w "strings.asciiSpace" .u8 zs) (he : 0 < w.heap.size → w'.heap[0]? = w.heap[0]?) : Lib.TabIs Tryd.prog w' "strings.asciiSpace" .u8 zs := by
  have hgn : Tryd.prog.globalNamed "strings.asciiSpace" = some 0 := by kernel_rfl
  unfold Lib.TabIs World.var? at h ⊢
  rw [hgn] at h ⊢
  simp only [Option.bind_some] at h ⊢
  have hlt : 0 < w.heap.size := by
    rcases Nat.lt_or_ge 0 w.heap.size with h' | h'
    · exact h'
    · rw [Array.getElem?_eq_none h'] at h; cases h
  rw [he hlt]; exact h
theorem tab_below {w w' : World} {zs : List Int} (h : Lib.TabIs Tryd.prog w "strings.asciiSpace" .u8 zs) (hb : Below w.heap.size w w') : Lib.TabIs Tryd.prog w' "strings.asciiSpace" .u8 zs :=
  tab_heap h fun h0 => hb.block 0 h0
theorem next_is {P : Program} (w : World) {ops : Array Oper} {rest : List Oper} {o : Oper} {a : Act} {Q : Exit → Act → World → Prop} (hg : o.guard = none) (it : Operand) (hop : o.op = Op.next it false) (k e : TypeId) (K : Keyed P k) (hk : P.underlying k = some (.int .u8)) (he : P.underlying e = some .string)
    (b r n : Nat) (D : DataW Unit) (left : Lit → Bool) (cnt : Nat) (hit : a.eval it = .pointer (some ⟨r, 0, none⟩)) (h : w.ranges P k (plainElem P e) b r n D left cnt)
    (hDone : cnt = 0 → (∀ kl, left kl = false) → wpList P ops Q rest (a.put o.dst (.tuple #[.bool false])) w)
    (hMore : ∀ (x : Int) (c : ByteArray) (w' : World) (cnt' : Nat), left (.int .u8 x) = true → (∀ zd, D.atKey (.int .u8 x) zd = .lit (.string c.data.toList)) → w'.ranges P k (plainElem P e) b r n D (fun z => left z && !z.sameKey (.int .u8 x)) cnt' → cnt' < cnt →
      w.grownBy w' (some r) → w'.heap.size = w.heap.size → (Instr.entry (.pointer (some ⟨r, 0, none⟩))).run P w' = .ok (.tuple #[.int .u8 x, .string c]) w' → wpList P ops Q rest (a.put o.dst (.tuple #[.bool true, .int .u8 x, .string c])) w') :
    wpList P ops Q (o :: rest) a w :=
  wpList_next_ranges w hg it hop k K (plainElem P e) (Value.int .u8) Value.string (fun key kl hkey => by obtain ⟨x, rfl, _⟩ := Maps.keyOf_int_inv hk hkey; exact ⟨x, rfl⟩) (fun v y hv => by obtain ⟨c, rfl, _⟩ := plainElem_string_inv he hv; exact ⟨c, rfl⟩)
    b r n D left cnt hit h hDone (fun x c kl y w' cnt' hkey hlk hv hat hrg hlt hgr hsz hen => by
      obtain ⟨x', ex, rfl, hwx⟩ := Maps.keyOf_int_inv hk hkey
      cases ex
      obtain ⟨c', ec, hy, _⟩ := plainElem_string_inv he hv
      cases ec
      rw [hy] at hat
      exact hMore x c w' cnt' hlk hat hrg hlt hgr hsz hen)
theorem fields_c (c : ByteArray) (w : World) (L : List (List UInt8)) (hL : Lib.fields c.data.toList = L) (hs : c.size ≤ 100) (hascii : ∀ (j : Nat) (b : UInt8), c.data.toList[j]? = some b → b.toNat < 128) (htab : Lib.TabIs Tryd.prog w "strings.asciiSpace" .u8 Lib.asciiSpaceTab) :
    Calls Tryd.prog 50 #[.string c] w fun e w' => e = .returned (.slice (some ⟨w.heap.size, 0, none⟩) L.length L.length) ∧ w.grownBy w' none ∧ ∀ (i : Nat) (x : List UInt8), L[i]? = some x → w'.cell? ⟨w.heap.size, i, none⟩ = some (.string ⟨x.toArray⟩) :=
  (sp_fields c w (by omega) hascii htab).mono fun e w' ⟨h1, h2⟩ => by
    subst h2; rw [hL] at h1 ⊢
    exact ⟨h1, World.grownBy_alloc _ _ _, fun i x hx => fields_cell w L i hx⟩
set_option maxHeartbeats 4000000 in
theorem kinds_any (w : World) (htab : Lib.TabIs Tryd.prog w "strings.asciiSpace" .u8 Lib.asciiSpaceTab) : Calls Tryd.prog 21 #[] w fun e w' => ∃ b n D, e = .returned (.map (some b)) ∧ OutM w' b n D ∧ KindD D ∧ Below w.heap.size w w' := by
  have hmm := @run_makeMap Tryd.prog
  obtain ⟨w1, r1, o1, g1⟩ := out_put (World.ownsMap_made w _ _ _) (by decide) ⟨#[74, 77, 80]⟩ 7 (by decide) (by decide)
  obtain ⟨w2, r2, o2, g2⟩ := out_put o1 (by decide) ⟨#[74, 83, 82]⟩ 8 (by decide) (by decide)
  obtain ⟨w3, r3, o3, g3⟩ := out_put o2 (by decide) ⟨#[82, 84, 83]⟩ 9 (by decide) (by decide)
  obtain ⟨w4, r4, o4, g4⟩ := out_put o3 (by decide) ⟨#[82, 84, 73]⟩ 10 (by decide) (by decide)
  obtain ⟨w5, r5, o5, g5⟩ := out_put o4 (by decide) ⟨#[66, 82, 75]⟩ 11 (by decide) (by decide)
  obtain ⟨w6, r6, o6, g6⟩ := out_put o5 (by decide) ⟨#[74, 65, 77]⟩ 12 (by decide) (by decide)
  have b6 : Below w.heap.size w w6 := by
    refine Below.grown (row := some w.heap.size) ?_ g6 ?_ (by simp)
    refine Below.grown (row := some w.heap.size) ?_ g5 ?_ (by simp)
    refine Below.grown (row := some w.heap.size) ?_ g4 ?_ (by simp)
    refine Below.grown (row := some w.heap.size) ?_ g3 ?_ (by simp)
    refine Below.grown (row := some w.heap.size) ?_ g2 ?_ (by simp)
    refine Below.grown (row := some w.heap.size) ((Below.refl _ _).alloc (Nat.le_refl _) _) g1 (by simp) (by simp)
    all_goals have := g1.size; have := g2.size; have := g3.size; have := g4.size; have := g5.size; have := g6.size; simp at *; omega
  have O6 : OutM w6 w.heap.size 6 (six (.map [])) := o6
  clear o1 o2 o3 o4 o5 o6
  have hbig : w.heap.size < w6.heap.size := O6.lt
  obtain ⟨v1, q1, p1, h1⟩ := grp_put (World.ownsMap_made w6 _ _ _) (by decide) 3 tTurn (by decide) (by decide)
  obtain ⟨v2, q2, p2, h2⟩ := grp_put p1 (by decide) 2 tStore (by decide) (by decide)
  obtain ⟨v3, q3, p3, h3⟩ := grp_put p2 (by decide) 5 tPush (by decide) (by decide)
  obtain ⟨v4, q4, p4, h4⟩ := grp_put p3 (by decide) 6 tPull (by decide) (by decide)
  obtain ⟨u, q5, p5, h5, h6⟩ := World.ownsMap.range p4 Tryd.law29 Tryd.underlying83
  have hs1 := h1.size
  have hs2 := h2.size
  have hs3 := h3.size
  have hs4 := h4.size
  have hs5 := h5.size
  simp at hs1
  have bu : Below w.heap.size w u := by
    refine Below.grown (row := none) ?_ h5 (by omega) (by simp)
    refine Below.grown (row := some w6.heap.size) ?_ h4 (by omega) (by simp; omega)
    refine Below.grown (row := some w6.heap.size) ?_ h3 (by omega) (by simp; omega)
    refine Below.grown (row := some w6.heap.size) ?_ h2 (by omega) (by simp; omega)
    exact Below.grown (row := some w6.heap.size) (b6.alloc (by omega) _) h1 (by simp; omega) (by simp; omega)
  have ne6 : some w.heap.size ≠ some w6.heap.size := by simp; omega
  have Ou : OutM u w.heap.size 6 (six (.map [])) := ((((World.ownsMap.kept (O6.alloc _) h1 ne6).kept h2 ne6).kept h3 ne6).kept h4 ne6).kept h5 (by simp)
  have P5 : u.ranges Tryd.prog 29 (plainElem Tryd.prog 9) w6.heap.size v4.heap.size 4 (grp (.map [])) (Maps.has (grp (.map []))) 4 := p5
  clear p1 p2 p3 p4 p5 O6
  have hv4 : w6.heap.size < v4.heap.size := by omega
  generalize hM : w6.heap.size = M at *
  generalize hN : v4.heap.size = N at *
  unfold tTurn at q1
  unfold tStore at q2
  unfold tPush at q3
  unfold tPull at q4
  go_enter Tryd.func21, Tryd.ntmps21
  go_wp2_with (fail)
  clear r1 r2 r3 r4 r5 r6 q1 q2 q3 q4 q5 g1 g2 g3 g4 g5 g6 h1 h2 h3 h4 h5 hmm
  go_loopw [3] (fun _ wr => ∃ (left : Lit → Bool) (cnt n : Nat) (D : DataW Unit), wr.ranges Tryd.prog 29 (plainElem Tryd.prog 9) M N 4 (grp (.map [])) left cnt ∧ n + 12 * cnt ≤ 54 ∧ OutM wr w.heap.size n D ∧ Inv D left ∧ Below w.heap.size w wr)
    (fun _ wr => wr.rangeLeft M N)
  case atStart => exact ⟨_, _, _, _, P5, by omega, Ou, Inv.start, bu⟩
  case round =>
    obtain ⟨left, cnt, n, D, hrg, hn, hout, hI, hbx⟩ := hrel
    go_wp2_with (first
      | (at_next; refine next_is _ rfl _ rfl 29 9 Tryd.law29 Tryd.underlying29 Tryd.underlying9 M N 4 _ _ _ rfl hrg ?_ ?_)
      | go_in)
    · intro hc0 hl0
      go_wp2_with (fail)
      go_ret
      exact ⟨w.heap.size, n, D, rfl, hout, hI.done hl0, hbx⟩
    · intro x c w1 cnt1 hlx hat hrg1 hlt hg1 hs1 hen
      obtain ⟨hG, hcs, hca⟩ := grp_at hat
      obtain ⟨L, hL⟩ : ∃ L, Lib.fields c.data.toList = L := ⟨_, rfl⟩
      rw [hL] at hG
      have hout1 : OutM w1 w.heap.size n D := World.ownsMap.kept hout hg1 (by simp; omega)
      have hb1 : Below w.heap.size w w1 := hbx.grown hg1 hbx.size (by simp; omega)
      have cF := fields_c c w1 L hL hcs hca (tab_below htab hb1)
      clear hcs hca hat hs1
      generalize hNF : w1.heap.size = NF at cF
      have hNB : w.heap.size < NF := by have := hb1.size; have := hout1.lt; omega
      go_wp2_with (first
        | (go_at_call 50; refine cF.mono ?_; rintro e w2 ⟨rfl, hg2, hc2⟩))
      have hout2 : OutM w2 w.heap.size n D := World.ownsMap.kept hout1 hg2 (by simp)
      have hb2 : Below w.heap.size w w2 := hb1.grown hg2 hb1.size (by simp)
      have hrg2 := hrg1.kept hg2 (by simp) (by simp)
      have hrgL := hrg.left_eq
      clear cF hen hrg hout hbx hrg1 hg1 hout1 hb1
      go_loopw [19] (fun i wr2 => ∃ (k : Nat) (E : DataW Unit), k ≤ L.length ∧ i = .int .i64 k ∧ OutM wr2 w.heap.size (n + k) E ∧ Sound E ∧ (∀ s, Maps.has D (.string s) = true → Maps.has E (.string s) = true) ∧ (∀ (j : Nat) s, j < k → L[j]? = some s → Maps.has E (.string s) = true) ∧ w2.grownBy wr2 (some w.heap.size))
        (fun i _ => L.length - (intOf i).toNat)
      case atStart => exact ⟨0, D, Nat.zero_le _, rfl, hout2, hI.so, fun _ h => h, fun j s h _ => by omega, World.grownBy.refl _ _⟩
      case round =>
        obtain ⟨k, E, hk, rfl, ho, hS, hD, hj, hgr⟩ := hrel
        by_cases hlk : k < L.length
        · have hz : (k : Int) < (L.length : Int) := by omega
          have hk1 : k + 1 ≤ L.length := hlk
          have hL12 := hG.len
          obtain ⟨X, hX⟩ : ∃ X, L[k]? = some X := ⟨_, List.getElem?_eq_getElem hlk⟩
          obtain ⟨hkX, hXl⟩ := hG.names X (List.mem_of_getElem? hX)
          obtain ⟨B, hBd⟩ : ∃ B : ByteArray, (⟨X.toArray⟩ : ByteArray) = B := ⟨_, rfl⟩
          have hBl : B.data.toList = X := by rw [← hBd, lit_data]
          have hcx : wr.cell? ⟨NF, k, none⟩ = some (.string B) := by rw [← hBd]; exact hgr.cell (hc2 k X hX) (by simp; omega)
          obtain ⟨w3', hr3, ho3, hg3⟩ := out_put ho (by have := hG.len; omega) B x (by rw [show B.size = X.length by rw [← hBd, lit_size]]; exact hXl) (wf_kind hkX)
          rw [hBl] at ho3
          clear hBd hc2
          go_wp2_with (fail)
          go_roundw
          case rel => exact ⟨k + 1, _, hk1, by go_num, ho3, hS.put hkX, fun s h => has_put_mono hS (.inl (hD s h)), fun j s hlt' hjs => by
              by_cases e : j = k
              · subst e; rw [hX] at hjs; cases hjs; exact has_put_mono hS (.inr rfl)
              · exact has_put_mono hS (.inl (hj j s (by omega) hjs)), hgr.andThen hg3 (fun j hj => .inr hj)⟩
          case measure => simp [intOf]; omega
        · have hz : ¬ ((k : Int) < (L.length : Int)) := by omega
          have hkL : k = L.length := by omega
          go_wp2_with (fail)
          constructor
          · refine ⟨_, cnt1, _, E, hrg2.kept hgr (by simp; omega) (by simp; omega), ?_, ho, ⟨hS, fun s kk hkk hor => ?_⟩, hb2.grown hgr hb2.size (by simp)⟩
            · have := hG.len; omega
            · by_cases e : kk = x
              · subst e
                obtain ⟨j, hjl⟩ := List.getElem?_of_mem (hG.all s hkk)
                exact hj j s (by have := (List.getElem?_eq_some_iff.1 hjl).1; omega) hjl
              · refine hD s (hI.all s kk hkk (hor.imp id fun h => ?_))
                have : (Lit.int .u8 kk).sameKey (.int .u8 x) = false := Maps.sameKey_ne (by intro h'; injection h' with h1 h2; exact e h2)
                simpa [this] using h
          · rw [(hrg2.kept hgr (by simp; omega) (by simp; omega)).left_eq, hrgL]; exact hlt
end Go.Proofs
