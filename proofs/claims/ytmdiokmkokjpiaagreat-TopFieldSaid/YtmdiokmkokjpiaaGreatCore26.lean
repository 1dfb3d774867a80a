/-
  Functions with a range, in the form that is computed.
-/
import Derived.Test.YtmdiokmkokjpiaaGreatCore25
set_option linter.all false
set_option linter.unusedVariables false
set_option linter.unusedSimpArgs false
set_option linter.unnecessarySimpa false
namespace Go.Aw
section
variable {P : Program} {T : Tab}

noncomputable def AWpOR (P : Program) (T : Tab) (hs : Hints) (c : Code) : AK → List Value → List Blk → Prop :=
  Code.rec (motive := fun _ => AK → List Value → List Blk → Prop)
    (fun _ _ _ => False)
    (fun _ _ _ _ _ _ => False)
    (fun x y iha ihb K ts H => match oneR x with
      | true => iha (fun e ts H => match e with | .normal => AWpR P T hs y K ts H | e => K e ts H) ts H
      | false => AWpR P T hs x (fun e ts H => match e with | .normal => ihb K ts H | e => K e ts H) ts H)
    (fun _ _ _ _ _ _ _ _ => False)
    (fun id _ ih K ts H => ih (fun e ts H => match e with | .exit j => (match Nat.beq j id with | true => K .normal ts H | false => K (.exit j) ts H) | e => K e ts H) ts H)
    (fun _ _ _ _ _ => False)
    (fun g ps x y _ _ K ts H => ARange P T hs (.rangeFunc g ps x y) K ts H)
    (fun _ _ _ _ => False)
    (fun _ _ _ _ _ => False)
    (fun _ _ _ _ => False)
    (fun _ _ _ _ => False)
    (fun _ _ _ => False)
    (fun _ _ _ _ => False) c

theorem AWpOR_eq (hs : Hints) : ∀ c : Code, AWpOR P T hs c = AWpO P T hs c
  | .seq a b => by
    funext K ts H; unfold AWpO; rw [← AWpOR_eq hs a, ← AWpOR_eq hs b, ← AWpR_eq P T hs a, ← AWpR_eq P T hs b]
    show (match oneR a with | true => _ | false => _) = _
    cases oneR a <;> rfl
  | .block id c => by funext K ts H; unfold AWpO; rw [← AWpOR_eq hs c]; rfl
  | .rangeFunc .. => by funext K ts H; rfl
  | .skip => by funext K ts H; rfl
  | .region .. => by funext K ts H; rfl
  | .cond .. => by funext K ts H; rfl
  | .loop .. => by funext K ts H; rfl
  | .exit id => by funext K ts H; rfl
  | .scope _ => by funext K ts H; rfl
  | .label _ => by funext K ts H; rfl
  | .goto _ => by funext K ts H; rfl
  | .ret => by funext K ts H; rfl
  | .refuse _ => by funext K ts H; rfl

theorem ACalls.codeR (hT : TabOk P T) (hs : Hints) {f : FuncId} {fn : Func} {args : List Value} {H : List Blk} {R : Value → List Blk → Prop} (hf : P.funcs[f]? = some fn) (hcall : ∀ (args : Array Value) (w : World), (callFunc f args).run P w = .ok (.enter f args) w)
    (hb : fn.body = some (bodyOf fn)) (hok : okO T hs (bodyOf fn) = true) (h : startF args fn.ntmps fun ts => AWpOR P T hs (bodyOf fn) (postF T fn.results.toList (Tidy H R)) ts H) : ACalls P f args H R := by
  rw [AWpOR_eq] at h
  exact (ACalls.introO hT hs hf hb hcall hok (start_iff h)).tidy
end
end Go.Aw
