/-
  A function with one range, that hands back something told by a weakening.
-/
import Derived.Test.YtmdiokmkokjpiaaGreatCore27
set_option linter.all false
set_option linter.unusedVariables false
set_option linter.unusedSimpArgs false
set_option linter.unnecessarySimpa false
namespace Go.Aw
section
variable {P : Program} {T : Tab}
theorem ACalls.codeRW (hT : TabOk P T) (hs : Hints) {f : FuncId} {fn : Func} {args : List Value} {H : List Blk} {R : Value → List Blk → Prop} (hf : P.funcs[f]? = some fn) (hcall : ∀ (args : Array Value) (w : World), (callFunc f args).run P w = .ok (.enter f args) w)
    (hb : fn.body = some (bodyOf fn)) (hok : okO T hs (bodyOf fn) = true) (h : startF args fn.ntmps fun ts => AWpOR P T hs (bodyOf fn) (postF T fn.results.toList (Wk H R)) ts H) : ACalls P f args H R := by
  rw [AWpOR_eq] at h
  exact (ACalls.introO hT hs hf hb hcall hok (start_iff h)).weak
end
end Go.Aw
