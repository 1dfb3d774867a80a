/-
  The first look: does the processor run at all?
-/
import Derived.Test.YtmdiokmkokjpiaaDoorQhF
set_option linter.all false
set_option linter.unusedVariables false
set_option linter.unusedSimpArgs false
set_option linter.unnecessarySimpa false
set_option linter.unusedSectionVars false
namespace Go.Proofs
open Go.Aw
variable [Base]
set_option maxRecDepth 100000
set_option maxHeartbeats 8000000
theorem runs_v {c0 c1 c2 c3 c4 c5 : List Value} {s0 s1 s2 s3 s4 : Int} (p0 : CpOk c0 s0) (p1 : CpOk c1 s1) (p2 : CpOk c2 s2) (p3 : CpOk c3 s3) (p4 : CpOk c4 s4) (p5 : CpOk c5 0)
    (kA : ACalls Tryd.prog 7 [rgV 0 0 0 0 0 4096, .bool false] [] fun r H => r = .pointer (some ⟨0, 0, none⟩) ∧ H = [.cells c0 60]) (k0 : CkOk 230 c0 c1) (k1 : CkOk 16 c1 c2) (k2 : CkOk 7 c2 c3) (l3 : PiOk c3 16 true 7) (k3 : CkOk 0 c3 c4) (l4 : PiOk c4 16 true 8) (k4 : CkOk 0 c4 c5) :
    ACalls Tryd.prog 5 [] [] fun r H => r = .bool true ∧ H = [] := by
  have q0 := p0.fl
  have q1 := p1.fl
  have q2 := p2.fl
  have q3 := p3.fl
  have q4 := p4.fl
  have q5 := p5.fl
  have t5 := p5.at'
  refine ACalls.code tabOk h5 Tryd.func5 Tryd.call5 ok5 ?_
  conv => whnf
  refine ACalls.useE (kA) [] rfl (by (conv => whnf); (first | done | rfl | ((first | refine renL_flat q0 ?_ | refine renL_flat q1 ?_ | refine renL_flat q2 ?_ | refine renL_flat q3 ?_ | refine renL_flat q4 ?_ | refine renL_flat q5 ?_); (conv => whnf); try rfl))) (by (conv => whnf); try rfl) ?_
  conv => whnf
  refine renL_flat q0 ?_
  conv => whnf
  refine ACalls.useE (k0) [0] rfl (by (conv => whnf); (first | done | rfl | ((first | refine renL_flat q0 ?_ | refine renL_flat q1 ?_ | refine renL_flat q2 ?_ | refine renL_flat q3 ?_ | refine renL_flat q4 ?_ | refine renL_flat q5 ?_); (conv => whnf); try rfl))) (by (conv => whnf); try rfl) ?_
  conv => whnf
  refine renL_flat q1 ?_
  conv => whnf
  refine ACalls.useE (k1) [0] rfl (by (conv => whnf); (first | done | rfl | ((first | refine renL_flat q0 ?_ | refine renL_flat q1 ?_ | refine renL_flat q2 ?_ | refine renL_flat q3 ?_ | refine renL_flat q4 ?_ | refine renL_flat q5 ?_); (conv => whnf); try rfl))) (by (conv => whnf); try rfl) ?_
  conv => whnf
  refine renL_flat q2 ?_
  conv => whnf
  refine ACalls.useE (k2) [0] rfl (by (conv => whnf); (first | done | rfl | ((first | refine renL_flat q0 ?_ | refine renL_flat q1 ?_ | refine renL_flat q2 ?_ | refine renL_flat q3 ?_ | refine renL_flat q4 ?_ | refine renL_flat q5 ?_); (conv => whnf); try rfl))) (by (conv => whnf); try rfl) ?_
  conv => whnf
  refine renL_flat q3 ?_
  conv => whnf
  refine ACalls.useE (l3) [0] rfl (by (conv => whnf); (first | done | rfl | ((first | refine renL_flat q0 ?_ | refine renL_flat q1 ?_ | refine renL_flat q2 ?_ | refine renL_flat q3 ?_ | refine renL_flat q4 ?_ | refine renL_flat q5 ?_); (conv => whnf); try rfl))) (by (conv => whnf); try rfl) ?_
  conv => whnf
  refine renL_flat q3 ?_
  conv => whnf
  refine ACalls.useE (k3) [0] rfl (by (conv => whnf); (first | done | rfl | ((first | refine renL_flat q0 ?_ | refine renL_flat q1 ?_ | refine renL_flat q2 ?_ | refine renL_flat q3 ?_ | refine renL_flat q4 ?_ | refine renL_flat q5 ?_); (conv => whnf); try rfl))) (by (conv => whnf); try rfl) ?_
  conv => whnf
  refine renL_flat q4 ?_
  conv => whnf
  refine ACalls.useE (l4) [0] rfl (by (conv => whnf); (first | done | rfl | ((first | refine renL_flat q0 ?_ | refine renL_flat q1 ?_ | refine renL_flat q2 ?_ | refine renL_flat q3 ?_ | refine renL_flat q4 ?_ | refine renL_flat q5 ?_); (conv => whnf); try rfl))) (by (conv => whnf); try rfl) ?_
  conv => whnf
  refine renL_flat q4 ?_
  conv => whnf
  refine ACalls.useE (k4) [0] rfl (by (conv => whnf); (first | done | rfl | ((first | refine renL_flat q0 ?_ | refine renL_flat q1 ?_ | refine renL_flat q2 ?_ | refine renL_flat q3 ?_ | refine renL_flat q4 ?_ | refine renL_flat q5 ?_); (conv => whnf); try rfl))) (by (conv => whnf); try rfl) ?_
  conv => whnf
  refine renL_flat q5 ?_
  conv => whnf
  refine ACalls.code tabOk h8 Tryd.func8 Tryd.call8 ok8 ?_
  conv => whnf
  refine getF_of t5 ?_
  conv => whnf
  refine Req.of ?_ ?_
  · exact flat_bdv q5 _ _
  conv => whnf
  exact ⟨rfl, rfl⟩
theorem n230 : nameO 230 = ⟨#[73, 78, 67]⟩ := by decide +kernel
theorem m230 : modeO 230 = 3 := by decide +kernel
theorem k230 : kindO 230 = 3 := by decide +kernel
theorem runs_ok [Door] : ACalls Tryd.prog 5 [] [] fun r H => r = .bool true ∧ H = [] := by
  have l3 : PiOk (cpu 0 0 0 0 (clnF 0) (IntKind.u16.wrap (IntKind.u16.wrap (4096 + 1) + 1)) 22 230 ⟨#[73, 78, 67]⟩ 3 3 (knownB 230 ⟨#[73, 78, 67]⟩) (IntKind.u16.wrap 16) (IntKind.u16.wrap 16) 7) (adrF (IntKind.u16.wrap 16)) true 7 := pi_again
  have l4 : PiOk (cpu 0 0 0 0 (clnF 0) (IntKind.u16.wrap (IntKind.u16.wrap (4096 + 1) + 1)) 23 230 ⟨#[73, 78, 67]⟩ 3 3 (knownB 230 ⟨#[73, 78, 67]⟩) (IntKind.u16.wrap 16) (IntKind.u16.wrap 16) 7) (adrF (IntKind.u16.wrap 16)) true (IntKind.u8.wrap (7 + 1)) := pi_put tn_INC
  rw [show adrF (IntKind.u16.wrap 16) = 16 from by decide] at l3 l4
  rw [show IntKind.u8.wrap (7 + 1) = 8 from by decide] at l4
  exact runs_v (cp_ok _ _ _ _ _ _ _ _ _ _ _ _ _ _ _) (cp_ok _ _ _ _ _ _ _ _ _ _ _ _ _ _ _) (cp_ok _ _ _ _ _ _ _ _ _ _ _ _ _ _ _) (cp_ok _ _ _ _ _ _ _ _ _ _ _ _ _ _ _) (cp_ok _ _ _ _ _ _ _ _ _ _ _ _ _ _ _) (cp_ok _ _ _ _ _ _ _ _ _ _ _ _ _ _ _) (m_at 0 0 0 0 0 4096) (ck_fetch3x3 230 (cd_of 230 (by decide) n230 m230 k230)) (ck_near 16) (ck_load3 7) l3 (ck_again 0) l4 (ck_put 0 tn_INC)
end Go.Proofs
