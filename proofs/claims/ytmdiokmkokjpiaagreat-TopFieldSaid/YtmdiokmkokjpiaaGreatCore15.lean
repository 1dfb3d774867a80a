/-
  How a contract is begun; how a table of types is proved.
-/
import Derived.Test.YtmdiokmkokjpiaaGreatCore14b
set_option linter.all false
set_option linter.unusedVariables false
set_option linter.unusedSimpArgs false
set_option linter.unnecessarySimpa false
namespace Go.Aw
section
variable {P : Program} {T : Tab}

def undefF : Nat → (List Value → Prop) → Prop
  | 0, k => k []
  | n + 1, k => undefF n fun l => k (undef :: l)
def startF : List Value → Nat → (List Value → Prop) → Prop
  | [], n, k => undefF n k
  | v :: l, n + 1, k => startF l n fun l' => k (v :: l')
  | v :: l, 0, k => startF l 0 fun l' => k (v :: l')

theorem undef_iff {n : Nat} {k : List Value → Prop} (h : undefF n k) : k (List.replicate n undef) := by
  induction n generalizing k with
  | zero => exact h
  | succ n ih => exact ih (k := fun l => k (undef :: l)) h
theorem start_iff : ∀ {l : List Value} {n : Nat} {k : List Value → Prop}, startF l n k → k (l ++ List.replicate (n - l.length) undef)
  | [], n, k, h => by simpa using undef_iff h
  | v :: l, n + 1, k, h => by
    have := start_iff (l := l) (n := n) (k := fun l' => k (v :: l')) h
    simpa [Nat.add_sub_add_right] using this
  | v :: l, 0, k, h => by
    have := start_iff (l := l) (n := 0) (k := fun l' => k (v :: l')) h
    simpa using this

/-- **A contract of a function, by its code.** -/
theorem ACalls.code (hT : TabOk P T) (hs : Hints) {f : FuncId} {fn : Func} {args : List Value} {H : List Blk} {R : Value → List Blk → Prop} (hf : P.funcs[f]? = some fn) (hcall : ∀ (args : Array Value) (w : World), (callFunc f args).run P w = .ok (.enter f args) w)
    (hok : codeOk T hs (bodyOf fn) = true) (h : startF args fn.ntmps fun ts => AWpR P T hs (bodyOf fn) (postF T fn.results.toList (Tidy H R)) ts H) : ACalls P f args H R := by
  rw [AWpR_eq] at h
  cases hb : fn.body with
  | none => rw [bodyOf, hb] at hok; simp [codeOk] at hok
  | some c =>
    have hc : bodyOf fn = c := by rw [bodyOf, hb]
    rw [hc] at hok h
    exact ACalls.make hT hs hf hb hcall hok (start_iff h)

def AllT (p : Nat → TInf → Prop) : Nat → Tab → Prop
  | _, [] => True
  | n, o :: T => (match o with | some i => p n i | none => True) ∧ AllT p (n + 1) T

theorem allT_get {p : Nat → TInf → Prop} : ∀ {n : Nat} {T : Tab}, AllT p n T → ∀ {t : Nat} {i : TInf}, T[t]? = some (some i) → p (n + t) i
  | n, [], _, t, i, h => by simp at h
  | n, o :: T, h, t, i, ht => by
    cases t with
    | zero => simp at ht; subst ht; exact h.1
    | succ t =>
      have := allT_get h.2 (t := t) (i := i) (by simpa using ht)
      rw [show n + (t + 1) = n + 1 + t by omega]; exact this

structure TFact (P : Program) (t : Nat) (i : TInf) : Prop where
  und : P.underlying t = some i.desc
  info : ∃ (f : TypeInfo) (z : Value), P.info? t = some f ∧ f.size = i.size ∧ f.bytes = i.bytes ∧ f.zero = some z ∧ z.cells.toList = i.zero
  zero : i.zero.all (okv 6) = true
  eq : i.eqok = true → P.eqGuardType P.depth t = false ∧ P.stoodInHeld t = false
  flds : ∀ fs : Array Field, i.desc = .struct fs → ∀ f ∈ fs, (P.info? f.type).isSome = true

theorem TabOk.of (hm : P.follows .mixedOrders = true) (h : AllT (TFact P) 0 T) : TabOk P T := by
  have g : ∀ {t : Nat} {i : TInf}, T[t]? = some (some i) → TFact P t i := fun {t i} ht => by simpa using allT_get h ht
  exact ⟨fun t i ht => (g ht).und, fun t i ht => (g ht).info, fun t i ht μ => okvs_sound (g ht).zero μ, fun t i ht => (g ht).eq, fun t i fs ht => (g ht).flds fs, hm⟩

theorem flds_of {fs : Array Field} (h : fs.all (fun f => (P.info? f.type).isSome) = true) : ∀ f ∈ fs, (P.info? f.type).isSome = true := Array.all_eq_true_iff_forall_mem.1 h

end
end Go.Aw
