/-
  Walks through the functions of the program, by contract.
-/
import Derived.Test.YthppckoomdhmfaaMasksF
set_option linter.all false
set_option linter.unusedVariables false
set_option linter.unusedSimpArgs false
set_option linter.unnecessarySimpa false
namespace Go.Proofs
open Go.Aw
set_option maxRecDepth 100000
set_option maxHeartbeats 2000000

theorem walk_PortSeldom (a b : Bool) (c : Int) (wc : (Lit.int .u8 c).wf = true) : 
   ACalls Try.prog 4 [.bool a, .bool b, .int .u8 c] [] fun v _ => v = .bool true := by
  have hc := wf_u8 wc
  clear wc
  refine ACalls.code tabOk h4 Try.func4 Try.call4 ok4 ?_
  conv => whnf
  refine ACalls.codeN tabOk h20 Try.func20 Try.call20 ok20 [0] ?_
  conv => whnf
  refine ACalls.code tabOk h21 Try.func21 Try.call21 ok21 ?_
  conv => whnf
  refine ALoop.go (fun i : Nat => [some (.bool a), some (.bool b), some (.int .u8 c), none, none, none, some (.bool false), some (.pointer (some ⟨0, 0, none⟩)), some (.int .i64 i), none, none, none, none, none, none, none, none, none, none, none, none, none, none, none, none, none, none, none, none, none, none, none, none, none, none, none, none, none, none, none, none, none, none, none, none, none, none, none, none, none, none, none, none]) (fun i => [.cells [.bool a, .bool b, .bool false] 99]) (fun i => (i : Int) ≤ c) (fun i => 300 - i) 0 rfl rfl (by omega) (fun _ => rfl) ?_
  intro i hi x R hR
  have e1 : IntKind.i64.wrap c = c := wrap64 (by omega) (by omega)
  have e2 : IntKind.i64.wrap ((i : Int) + 1) = ((i + 1 : Nat) : Int) := by rw [wrap64 (by omega) (by omega)]; rfl
  conv => whnf
  refine Bif.of (fun h0 => ?_) fun h0 => ?_
  · rw [h0]
    conv => whnf
    refine ACalls.code tabOk h22 Try.func22 Try.call22 ok22 ?_
    conv => whnf
    refine Bif.knF ?_ fun h1 => ?_
    · (simp_all; done)
    rw [h1]
    conv => whnf
    refine ACalls.code tabOk h23 Try.func23 Try.call23 ok23 ?_
    conv => whnf
    (rw [e2]; exact hR (i + 1) _ _ rfl rfl (by rw [e1] at h0; simp at h0; omega) (by simp [e1] at h0; omega))
  · rw [h0]
    conv => whnf
    refine ACalls.code tabOk h22 Try.func22 Try.call22 ok22 ?_
    conv => whnf
    refine Bif.knT ?_ fun h2 => ?_
    · (simp_all; done)
    rw [h2]
    conv => whnf
    refine Bif.of (fun h3 => ?_) fun h3 => ?_
    · rw [h3]
      conv => whnf
      refine ACalls.code tabOk h24 Try.func24 Try.call24 ok24 ?_
      conv => whnf
      refine ACalls.code tabOk h23 Try.func23 Try.call23 ok23 ?_
      conv => whnf
      refine ACalls.code tabOk h22 Try.func22 Try.call22 ok22 ?_
      conv => whnf
      refine Bif.knT ?_ fun h4 => ?_
      · (simp_all; done)
      rw [h4]
      conv => whnf
      refine Bif.knF ?_ fun h5 => ?_
      · (simp_all; done)
      rw [h5]
      conv => whnf
      refine ACalls.code tabOk h24 Try.func24 Try.call24 ok24 ?_
      conv => whnf
      refine ACalls.code tabOk h23 Try.func23 Try.call23 ok23 ?_
      conv => whnf
      refine Bif.knT ?_ fun h6 => ?_
      · (simp_all; done)
      rw [h6]
      conv => whnf
      refine Bif.knT ?_ fun h7 => ?_
      · (simp_all; done)
      rw [h7]
      conv => whnf
      refine ACalls.useE (awake07) [] rfl (by (conv => whnf); try rfl) (by (conv => whnf); try rfl) ?_
      conv => whnf
    · rw [h3]
      conv => whnf
      refine ACalls.code tabOk h24 Try.func24 Try.call24 ok24 ?_
      conv => whnf
      refine ACalls.code tabOk h23 Try.func23 Try.call23 ok23 ?_
      conv => whnf
      refine ACalls.code tabOk h22 Try.func22 Try.call22 ok22 ?_
      conv => whnf
      refine Bif.knT ?_ fun h8 => ?_
      · (simp_all; done)
      rw [h8]
      conv => whnf
      refine Bif.knT ?_ fun h9 => ?_
      · (simp_all; done)
      rw [h9]
      conv => whnf
      refine ACalls.code tabOk h24 Try.func24 Try.call24 ok24 ?_
      conv => whnf
      refine ACalls.code tabOk h23 Try.func23 Try.call23 ok23 ?_
      conv => whnf
      refine Bif.knT ?_ fun h10 => ?_
      · (simp_all; done)
      rw [h10]
      conv => whnf
      refine Bif.knT ?_ fun h11 => ?_
      · (simp_all; done)
      rw [h11]
      conv => whnf
      refine ACalls.useE (awake07) [] rfl (by (conv => whnf); try rfl) (by (conv => whnf); try rfl) ?_
      conv => whnf

end Go.Proofs
