/-
  A processor on a memory: till it fetches.
-/
import Derived.Test.YtmdiokmkokjpiaaDoorQfF
set_option linter.all false
set_option linter.unusedVariables false
set_option linter.unusedSimpArgs false
set_option linter.unnecessarySimpa false
set_option linter.unusedSectionVars false
namespace Go.Proofs
open Go.Aw
variable [Base]
set_option maxRecDepth 100000
set_option maxHeartbeats 8000000
/-- Cycles till it fetches. -/
def DnOk (c : List Value) (m : Nat → Int) (n : Int) (c2 : List Value) (m2 : Nat → Int) : Prop :=
  ACalls Tryd.prog 14 [.pointer (some ⟨0, 0, none⟩), .slice (some ⟨1, 0, none⟩) 8192 8192] [.cells c 60, memB m] fun r H => r = .int .i64 n ∧ H = [.cells c2 60, memB m2]
/-- A processor's cells, as far as one looks at them. -/
structure CpOk (c : List Value) (s : Int) : Prop where
  fl : ∀ v ∈ c, flatV v = true
  at' : c[6]? = some (.int .u8 s)
theorem dn3 {c0 c1 c2 c3 : List Value} {m0 m1 m2 m3 : Nat → Int} {s1 s2 : Int} {a0 d0 a1 d1 a2 d2 : Int} {w0 w1 w2 : Bool} {s0 : Int} (p0 : CpOk c0 s0) (p1 : CpOk c1 s1) (e1 : (s1 == 0) = false) (j1 : (s1 == 1) = false) (p2 : CpOk c2 s2) (e2 : (s2 == 0) = false) (j2 : (s2 == 1) = false) (p3 : CpOk c3 0) (k0 : FlOk c0 m0 a0 w0 d0 c1 m1) (k1 : FlOk c1 m1 a1 w1 d1 c2 m2) (k2 : FlOk c2 m2 a2 w2 d2 c3 m3) : DnOk c0 m0 3 c3 m3 := by
  have q0 := p0.fl
  have t0 := p0.at'
  have q1 := p1.fl
  have t1 := p1.at'
  have q2 := p2.fl
  have t2 := p2.at'
  have q3 := p3.fl
  have t3 := p3.at'
  have n1 : (!(s1 == 0)) = true := by rw [e1]; rfl
  have o1 : (!(s1 == 1)) = true := by rw [j1]; rfl
  have n2 : (!(s2 == 0)) = true := by rw [e2]; rfl
  have o2 : (!(s2 == 1)) = true := by rw [j2]; rfl
  refine ACalls.code tabOk h14 Tryd.func14 Tryd.call14 ok14 ?_
  conv => whnf
  refine ALoop.run 4 ?_
  conv => whnf
  refine ACalls.useE (k0) [0, 1] rfl (by (conv => whnf); (first | refine renL_flat q0 ?_ | refine renL_flat q1 ?_ | refine renL_flat q2 ?_ | refine renL_flat q3 ?_); (conv => whnf); refine renL_mem ?_; (conv => whnf); try rfl) (by (conv => whnf); try rfl) ?_
  conv => whnf
  refine renL_flat q1 ?_
  conv => whnf
  refine renL_mem ?_
  conv => whnf
  refine ACalls.code tabOk h8 Tryd.func8 Tryd.call8 ok8 ?_
  conv => whnf
  refine getF_of t1 ?_
  conv => whnf
  refine Req.of ?_ ?_
  · exact flat_bdv q1 _ _
  conv => whnf
  refine Req.of ?_ ?_
  · exact flat_bdv (memM_flat _) _ _
  conv => whnf
  refine Bif.knT ?_ fun h900 => ?_
  · with_reducible assumption
  conv => whnf
  refine Bif.knT ?_ fun h901 => ?_
  · with_reducible assumption
  conv => whnf
  refine ACalls.code tabOk h33 Tryd.func33 Tryd.call33 ok33 ?_
  conv => whnf
  refine getF_of t1 ?_
  conv => whnf
  refine Req.of ?_ ?_
  · exact flat_bdv q1 _ _
  conv => whnf
  refine Req.of ?_ ?_
  · exact flat_bdv (memM_flat _) _ _
  conv => whnf
  refine Bif.knT ?_ fun h902 => ?_
  · with_reducible assumption
  conv => whnf
  refine Bif.knT ?_ fun h903 => ?_
  · with_reducible assumption
  conv => whnf
  refine Bif.knT ?_ fun h904 => ?_
  · with_reducible assumption
  conv => whnf
  refine Bif.knT ?_ fun h905 => ?_
  · with_reducible assumption
  conv => whnf
  refine Bif.knT ?_ fun h906 => ?_
  · with_reducible assumption
  conv => whnf
  refine ACalls.useE (k1) [0, 1] rfl (by (conv => whnf); (first | refine renL_flat q0 ?_ | refine renL_flat q1 ?_ | refine renL_flat q2 ?_ | refine renL_flat q3 ?_); (conv => whnf); refine renL_mem ?_; (conv => whnf); try rfl) (by (conv => whnf); try rfl) ?_
  conv => whnf
  refine renL_flat q2 ?_
  conv => whnf
  refine renL_mem ?_
  conv => whnf
  refine ACalls.code tabOk h8 Tryd.func8 Tryd.call8 ok8 ?_
  conv => whnf
  refine getF_of t2 ?_
  conv => whnf
  refine Req.of ?_ ?_
  · exact flat_bdv q2 _ _
  conv => whnf
  refine Req.of ?_ ?_
  · exact flat_bdv (memM_flat _) _ _
  conv => whnf
  refine Bif.knT ?_ fun h907 => ?_
  · with_reducible assumption
  conv => whnf
  refine Bif.knT ?_ fun h908 => ?_
  · with_reducible assumption
  conv => whnf
  refine ACalls.code tabOk h33 Tryd.func33 Tryd.call33 ok33 ?_
  conv => whnf
  refine getF_of t2 ?_
  conv => whnf
  refine Req.of ?_ ?_
  · exact flat_bdv q2 _ _
  conv => whnf
  refine Req.of ?_ ?_
  · exact flat_bdv (memM_flat _) _ _
  conv => whnf
  refine Bif.knT ?_ fun h909 => ?_
  · with_reducible assumption
  conv => whnf
  refine Bif.knT ?_ fun h910 => ?_
  · with_reducible assumption
  conv => whnf
  refine Bif.knT ?_ fun h911 => ?_
  · with_reducible assumption
  conv => whnf
  refine Bif.knT ?_ fun h912 => ?_
  · with_reducible assumption
  conv => whnf
  refine Bif.knT ?_ fun h913 => ?_
  · with_reducible assumption
  conv => whnf
  refine ACalls.useE (k2) [0, 1] rfl (by (conv => whnf); (first | refine renL_flat q0 ?_ | refine renL_flat q1 ?_ | refine renL_flat q2 ?_ | refine renL_flat q3 ?_); (conv => whnf); refine renL_mem ?_; (conv => whnf); try rfl) (by (conv => whnf); try rfl) ?_
  conv => whnf
  refine renL_flat q3 ?_
  conv => whnf
  refine renL_mem ?_
  conv => whnf
  refine ACalls.code tabOk h8 Tryd.func8 Tryd.call8 ok8 ?_
  conv => whnf
  refine getF_of t3 ?_
  conv => whnf
  refine Req.of ?_ ?_
  · exact flat_bdv q3 _ _
  conv => whnf
  refine Req.of ?_ ?_
  · exact flat_bdv (memM_flat _) _ _
  conv => whnf
  refine Req.of ?_ ?_
  · exact flat_bdv q3 _ _
  conv => whnf
  refine Req.of ?_ ?_
  · exact flat_bdv (memM_flat _) _ _
  conv => whnf
  exact ⟨rfl, rfl⟩
theorem dn4 {c0 c1 c2 c3 c4 : List Value} {m0 m1 m2 m3 m4 : Nat → Int} {s1 s2 s3 : Int} {a0 d0 a1 d1 a2 d2 a3 d3 : Int} {w0 w1 w2 w3 : Bool} {s0 : Int} (p0 : CpOk c0 s0) (p1 : CpOk c1 s1) (e1 : (s1 == 0) = false) (j1 : (s1 == 1) = false) (p2 : CpOk c2 s2) (e2 : (s2 == 0) = false) (j2 : (s2 == 1) = false) (p3 : CpOk c3 s3) (e3 : (s3 == 0) = false) (j3 : (s3 == 1) = false) (p4 : CpOk c4 0) (k0 : FlOk c0 m0 a0 w0 d0 c1 m1) (k1 : FlOk c1 m1 a1 w1 d1 c2 m2) (k2 : FlOk c2 m2 a2 w2 d2 c3 m3) (k3 : FlOk c3 m3 a3 w3 d3 c4 m4) : DnOk c0 m0 4 c4 m4 := by
  have q0 := p0.fl
  have t0 := p0.at'
  have q1 := p1.fl
  have t1 := p1.at'
  have q2 := p2.fl
  have t2 := p2.at'
  have q3 := p3.fl
  have t3 := p3.at'
  have q4 := p4.fl
  have t4 := p4.at'
  have n1 : (!(s1 == 0)) = true := by rw [e1]; rfl
  have o1 : (!(s1 == 1)) = true := by rw [j1]; rfl
  have n2 : (!(s2 == 0)) = true := by rw [e2]; rfl
  have o2 : (!(s2 == 1)) = true := by rw [j2]; rfl
  have n3 : (!(s3 == 0)) = true := by rw [e3]; rfl
  have o3 : (!(s3 == 1)) = true := by rw [j3]; rfl
  refine ACalls.code tabOk h14 Tryd.func14 Tryd.call14 ok14 ?_
  conv => whnf
  refine ALoop.run 5 ?_
  conv => whnf
  refine ACalls.useE (k0) [0, 1] rfl (by (conv => whnf); (first | refine renL_flat q0 ?_ | refine renL_flat q1 ?_ | refine renL_flat q2 ?_ | refine renL_flat q3 ?_ | refine renL_flat q4 ?_); (conv => whnf); refine renL_mem ?_; (conv => whnf); try rfl) (by (conv => whnf); try rfl) ?_
  conv => whnf
  refine renL_flat q1 ?_
  conv => whnf
  refine renL_mem ?_
  conv => whnf
  refine ACalls.code tabOk h8 Tryd.func8 Tryd.call8 ok8 ?_
  conv => whnf
  refine getF_of t1 ?_
  conv => whnf
  refine Req.of ?_ ?_
  · exact flat_bdv q1 _ _
  conv => whnf
  refine Req.of ?_ ?_
  · exact flat_bdv (memM_flat _) _ _
  conv => whnf
  refine Bif.knT ?_ fun h900 => ?_
  · with_reducible assumption
  conv => whnf
  refine Bif.knT ?_ fun h901 => ?_
  · with_reducible assumption
  conv => whnf
  refine ACalls.code tabOk h33 Tryd.func33 Tryd.call33 ok33 ?_
  conv => whnf
  refine getF_of t1 ?_
  conv => whnf
  refine Req.of ?_ ?_
  · exact flat_bdv q1 _ _
  conv => whnf
  refine Req.of ?_ ?_
  · exact flat_bdv (memM_flat _) _ _
  conv => whnf
  refine Bif.knT ?_ fun h902 => ?_
  · with_reducible assumption
  conv => whnf
  refine Bif.knT ?_ fun h903 => ?_
  · with_reducible assumption
  conv => whnf
  refine Bif.knT ?_ fun h904 => ?_
  · with_reducible assumption
  conv => whnf
  refine Bif.knT ?_ fun h905 => ?_
  · with_reducible assumption
  conv => whnf
  refine Bif.knT ?_ fun h906 => ?_
  · with_reducible assumption
  conv => whnf
  refine ACalls.useE (k1) [0, 1] rfl (by (conv => whnf); (first | refine renL_flat q0 ?_ | refine renL_flat q1 ?_ | refine renL_flat q2 ?_ | refine renL_flat q3 ?_ | refine renL_flat q4 ?_); (conv => whnf); refine renL_mem ?_; (conv => whnf); try rfl) (by (conv => whnf); try rfl) ?_
  conv => whnf
  refine renL_flat q2 ?_
  conv => whnf
  refine renL_mem ?_
  conv => whnf
  refine ACalls.code tabOk h8 Tryd.func8 Tryd.call8 ok8 ?_
  conv => whnf
  refine getF_of t2 ?_
  conv => whnf
  refine Req.of ?_ ?_
  · exact flat_bdv q2 _ _
  conv => whnf
  refine Req.of ?_ ?_
  · exact flat_bdv (memM_flat _) _ _
  conv => whnf
  refine Bif.knT ?_ fun h907 => ?_
  · with_reducible assumption
  conv => whnf
  refine Bif.knT ?_ fun h908 => ?_
  · with_reducible assumption
  conv => whnf
  refine ACalls.code tabOk h33 Tryd.func33 Tryd.call33 ok33 ?_
  conv => whnf
  refine getF_of t2 ?_
  conv => whnf
  refine Req.of ?_ ?_
  · exact flat_bdv q2 _ _
  conv => whnf
  refine Req.of ?_ ?_
  · exact flat_bdv (memM_flat _) _ _
  conv => whnf
  refine Bif.knT ?_ fun h909 => ?_
  · with_reducible assumption
  conv => whnf
  refine Bif.knT ?_ fun h910 => ?_
  · with_reducible assumption
  conv => whnf
  refine Bif.knT ?_ fun h911 => ?_
  · with_reducible assumption
  conv => whnf
  refine Bif.knT ?_ fun h912 => ?_
  · with_reducible assumption
  conv => whnf
  refine Bif.knT ?_ fun h913 => ?_
  · with_reducible assumption
  conv => whnf
  refine ACalls.useE (k2) [0, 1] rfl (by (conv => whnf); (first | refine renL_flat q0 ?_ | refine renL_flat q1 ?_ | refine renL_flat q2 ?_ | refine renL_flat q3 ?_ | refine renL_flat q4 ?_); (conv => whnf); refine renL_mem ?_; (conv => whnf); try rfl) (by (conv => whnf); try rfl) ?_
  conv => whnf
  refine renL_flat q3 ?_
  conv => whnf
  refine renL_mem ?_
  conv => whnf
  refine ACalls.code tabOk h8 Tryd.func8 Tryd.call8 ok8 ?_
  conv => whnf
  refine getF_of t3 ?_
  conv => whnf
  refine Req.of ?_ ?_
  · exact flat_bdv q3 _ _
  conv => whnf
  refine Req.of ?_ ?_
  · exact flat_bdv (memM_flat _) _ _
  conv => whnf
  refine Bif.knT ?_ fun h914 => ?_
  · with_reducible assumption
  conv => whnf
  refine Bif.knT ?_ fun h915 => ?_
  · with_reducible assumption
  conv => whnf
  refine ACalls.code tabOk h33 Tryd.func33 Tryd.call33 ok33 ?_
  conv => whnf
  refine getF_of t3 ?_
  conv => whnf
  refine Req.of ?_ ?_
  · exact flat_bdv q3 _ _
  conv => whnf
  refine Req.of ?_ ?_
  · exact flat_bdv (memM_flat _) _ _
  conv => whnf
  refine Bif.knT ?_ fun h916 => ?_
  · with_reducible assumption
  conv => whnf
  refine Bif.knT ?_ fun h917 => ?_
  · with_reducible assumption
  conv => whnf
  refine Bif.knT ?_ fun h918 => ?_
  · with_reducible assumption
  conv => whnf
  refine Bif.knT ?_ fun h919 => ?_
  · with_reducible assumption
  conv => whnf
  refine Bif.knT ?_ fun h920 => ?_
  · with_reducible assumption
  conv => whnf
  refine ACalls.useE (k3) [0, 1] rfl (by (conv => whnf); (first | refine renL_flat q0 ?_ | refine renL_flat q1 ?_ | refine renL_flat q2 ?_ | refine renL_flat q3 ?_ | refine renL_flat q4 ?_); (conv => whnf); refine renL_mem ?_; (conv => whnf); try rfl) (by (conv => whnf); try rfl) ?_
  conv => whnf
  refine renL_flat q4 ?_
  conv => whnf
  refine renL_mem ?_
  conv => whnf
  refine ACalls.code tabOk h8 Tryd.func8 Tryd.call8 ok8 ?_
  conv => whnf
  refine getF_of t4 ?_
  conv => whnf
  refine Req.of ?_ ?_
  · exact flat_bdv q4 _ _
  conv => whnf
  refine Req.of ?_ ?_
  · exact flat_bdv (memM_flat _) _ _
  conv => whnf
  refine Req.of ?_ ?_
  · exact flat_bdv q4 _ _
  conv => whnf
  refine Req.of ?_ ?_
  · exact flat_bdv (memM_flat _) _ _
  conv => whnf
  exact ⟨rfl, rfl⟩
theorem dn6 {c0 c1 c2 c3 c4 c5 c6 : List Value} {m0 m1 m2 m3 m4 m5 m6 : Nat → Int} {s1 s2 s3 s4 s5 : Int} {a0 d0 a1 d1 a2 d2 a3 d3 a4 d4 a5 d5 : Int} {w0 w1 w2 w3 w4 w5 : Bool} {s0 : Int} (p0 : CpOk c0 s0) (p1 : CpOk c1 s1) (e1 : (s1 == 0) = false) (j1 : (s1 == 1) = false) (p2 : CpOk c2 s2) (e2 : (s2 == 0) = false) (j2 : (s2 == 1) = false) (p3 : CpOk c3 s3) (e3 : (s3 == 0) = false) (j3 : (s3 == 1) = false) (p4 : CpOk c4 s4) (e4 : (s4 == 0) = false) (j4 : (s4 == 1) = false) (p5 : CpOk c5 s5) (e5 : (s5 == 0) = false) (j5 : (s5 == 1) = false) (p6 : CpOk c6 0) (k0 : FlOk c0 m0 a0 w0 d0 c1 m1) (k1 : FlOk c1 m1 a1 w1 d1 c2 m2) (k2 : FlOk c2 m2 a2 w2 d2 c3 m3) (k3 : FlOk c3 m3 a3 w3 d3 c4 m4) (k4 : FlOk c4 m4 a4 w4 d4 c5 m5) (k5 : FlOk c5 m5 a5 w5 d5 c6 m6) : DnOk c0 m0 6 c6 m6 := by
  have q0 := p0.fl
  have t0 := p0.at'
  have q1 := p1.fl
  have t1 := p1.at'
  have q2 := p2.fl
  have t2 := p2.at'
  have q3 := p3.fl
  have t3 := p3.at'
  have q4 := p4.fl
  have t4 := p4.at'
  have q5 := p5.fl
  have t5 := p5.at'
  have q6 := p6.fl
  have t6 := p6.at'
  have n1 : (!(s1 == 0)) = true := by rw [e1]; rfl
  have o1 : (!(s1 == 1)) = true := by rw [j1]; rfl
  have n2 : (!(s2 == 0)) = true := by rw [e2]; rfl
  have o2 : (!(s2 == 1)) = true := by rw [j2]; rfl
  have n3 : (!(s3 == 0)) = true := by rw [e3]; rfl
  have o3 : (!(s3 == 1)) = true := by rw [j3]; rfl
  have n4 : (!(s4 == 0)) = true := by rw [e4]; rfl
  have o4 : (!(s4 == 1)) = true := by rw [j4]; rfl
  have n5 : (!(s5 == 0)) = true := by rw [e5]; rfl
  have o5 : (!(s5 == 1)) = true := by rw [j5]; rfl
  refine ACalls.code tabOk h14 Tryd.func14 Tryd.call14 ok14 ?_
  conv => whnf
  refine ALoop.run 7 ?_
  conv => whnf
  refine ACalls.useE (k0) [0, 1] rfl (by (conv => whnf); (first | refine renL_flat q0 ?_ | refine renL_flat q1 ?_ | refine renL_flat q2 ?_ | refine renL_flat q3 ?_ | refine renL_flat q4 ?_ | refine renL_flat q5 ?_ | refine renL_flat q6 ?_); (conv => whnf); refine renL_mem ?_; (conv => whnf); try rfl) (by (conv => whnf); try rfl) ?_
  conv => whnf
  refine renL_flat q1 ?_
  conv => whnf
  refine renL_mem ?_
  conv => whnf
  refine ACalls.code tabOk h8 Tryd.func8 Tryd.call8 ok8 ?_
  conv => whnf
  refine getF_of t1 ?_
  conv => whnf
  refine Req.of ?_ ?_
  · exact flat_bdv q1 _ _
  conv => whnf
  refine Req.of ?_ ?_
  · exact flat_bdv (memM_flat _) _ _
  conv => whnf
  refine Bif.knT ?_ fun h900 => ?_
  · with_reducible assumption
  conv => whnf
  refine Bif.knT ?_ fun h901 => ?_
  · with_reducible assumption
  conv => whnf
  refine ACalls.code tabOk h33 Tryd.func33 Tryd.call33 ok33 ?_
  conv => whnf
  refine getF_of t1 ?_
  conv => whnf
  refine Req.of ?_ ?_
  · exact flat_bdv q1 _ _
  conv => whnf
  refine Req.of ?_ ?_
  · exact flat_bdv (memM_flat _) _ _
  conv => whnf
  refine Bif.knT ?_ fun h902 => ?_
  · with_reducible assumption
  conv => whnf
  refine Bif.knT ?_ fun h903 => ?_
  · with_reducible assumption
  conv => whnf
  refine Bif.knT ?_ fun h904 => ?_
  · with_reducible assumption
  conv => whnf
  refine Bif.knT ?_ fun h905 => ?_
  · with_reducible assumption
  conv => whnf
  refine Bif.knT ?_ fun h906 => ?_
  · with_reducible assumption
  conv => whnf
  refine ACalls.useE (k1) [0, 1] rfl (by (conv => whnf); (first | refine renL_flat q0 ?_ | refine renL_flat q1 ?_ | refine renL_flat q2 ?_ | refine renL_flat q3 ?_ | refine renL_flat q4 ?_ | refine renL_flat q5 ?_ | refine renL_flat q6 ?_); (conv => whnf); refine renL_mem ?_; (conv => whnf); try rfl) (by (conv => whnf); try rfl) ?_
  conv => whnf
  refine renL_flat q2 ?_
  conv => whnf
  refine renL_mem ?_
  conv => whnf
  refine ACalls.code tabOk h8 Tryd.func8 Tryd.call8 ok8 ?_
  conv => whnf
  refine getF_of t2 ?_
  conv => whnf
  refine Req.of ?_ ?_
  · exact flat_bdv q2 _ _
  conv => whnf
  refine Req.of ?_ ?_
  · exact flat_bdv (memM_flat _) _ _
  conv => whnf
  refine Bif.knT ?_ fun h907 => ?_
  · with_reducible assumption
  conv => whnf
  refine Bif.knT ?_ fun h908 => ?_
  · with_reducible assumption
  conv => whnf
  refine ACalls.code tabOk h33 Tryd.func33 Tryd.call33 ok33 ?_
  conv => whnf
  refine getF_of t2 ?_
  conv => whnf
  refine Req.of ?_ ?_
  · exact flat_bdv q2 _ _
  conv => whnf
  refine Req.of ?_ ?_
  · exact flat_bdv (memM_flat _) _ _
  conv => whnf
  refine Bif.knT ?_ fun h909 => ?_
  · with_reducible assumption
  conv => whnf
  refine Bif.knT ?_ fun h910 => ?_
  · with_reducible assumption
  conv => whnf
  refine Bif.knT ?_ fun h911 => ?_
  · with_reducible assumption
  conv => whnf
  refine Bif.knT ?_ fun h912 => ?_
  · with_reducible assumption
  conv => whnf
  refine Bif.knT ?_ fun h913 => ?_
  · with_reducible assumption
  conv => whnf
  refine ACalls.useE (k2) [0, 1] rfl (by (conv => whnf); (first | refine renL_flat q0 ?_ | refine renL_flat q1 ?_ | refine renL_flat q2 ?_ | refine renL_flat q3 ?_ | refine renL_flat q4 ?_ | refine renL_flat q5 ?_ | refine renL_flat q6 ?_); (conv => whnf); refine renL_mem ?_; (conv => whnf); try rfl) (by (conv => whnf); try rfl) ?_
  conv => whnf
  refine renL_flat q3 ?_
  conv => whnf
  refine renL_mem ?_
  conv => whnf
  refine ACalls.code tabOk h8 Tryd.func8 Tryd.call8 ok8 ?_
  conv => whnf
  refine getF_of t3 ?_
  conv => whnf
  refine Req.of ?_ ?_
  · exact flat_bdv q3 _ _
  conv => whnf
  refine Req.of ?_ ?_
  · exact flat_bdv (memM_flat _) _ _
  conv => whnf
  refine Bif.knT ?_ fun h914 => ?_
  · with_reducible assumption
  conv => whnf
  refine Bif.knT ?_ fun h915 => ?_
  · with_reducible assumption
  conv => whnf
  refine ACalls.code tabOk h33 Tryd.func33 Tryd.call33 ok33 ?_
  conv => whnf
  refine getF_of t3 ?_
  conv => whnf
  refine Req.of ?_ ?_
  · exact flat_bdv q3 _ _
  conv => whnf
  refine Req.of ?_ ?_
  · exact flat_bdv (memM_flat _) _ _
  conv => whnf
  refine Bif.knT ?_ fun h916 => ?_
  · with_reducible assumption
  conv => whnf
  refine Bif.knT ?_ fun h917 => ?_
  · with_reducible assumption
  conv => whnf
  refine Bif.knT ?_ fun h918 => ?_
  · with_reducible assumption
  conv => whnf
  refine Bif.knT ?_ fun h919 => ?_
  · with_reducible assumption
  conv => whnf
  refine Bif.knT ?_ fun h920 => ?_
  · with_reducible assumption
  conv => whnf
  refine ACalls.useE (k3) [0, 1] rfl (by (conv => whnf); (first | refine renL_flat q0 ?_ | refine renL_flat q1 ?_ | refine renL_flat q2 ?_ | refine renL_flat q3 ?_ | refine renL_flat q4 ?_ | refine renL_flat q5 ?_ | refine renL_flat q6 ?_); (conv => whnf); refine renL_mem ?_; (conv => whnf); try rfl) (by (conv => whnf); try rfl) ?_
  conv => whnf
  refine renL_flat q4 ?_
  conv => whnf
  refine renL_mem ?_
  conv => whnf
  refine ACalls.code tabOk h8 Tryd.func8 Tryd.call8 ok8 ?_
  conv => whnf
  refine getF_of t4 ?_
  conv => whnf
  refine Req.of ?_ ?_
  · exact flat_bdv q4 _ _
  conv => whnf
  refine Req.of ?_ ?_
  · exact flat_bdv (memM_flat _) _ _
  conv => whnf
  refine Bif.knT ?_ fun h921 => ?_
  · with_reducible assumption
  conv => whnf
  refine Bif.knT ?_ fun h922 => ?_
  · with_reducible assumption
  conv => whnf
  refine ACalls.code tabOk h33 Tryd.func33 Tryd.call33 ok33 ?_
  conv => whnf
  refine getF_of t4 ?_
  conv => whnf
  refine Req.of ?_ ?_
  · exact flat_bdv q4 _ _
  conv => whnf
  refine Req.of ?_ ?_
  · exact flat_bdv (memM_flat _) _ _
  conv => whnf
  refine Bif.knT ?_ fun h923 => ?_
  · with_reducible assumption
  conv => whnf
  refine Bif.knT ?_ fun h924 => ?_
  · with_reducible assumption
  conv => whnf
  refine Bif.knT ?_ fun h925 => ?_
  · with_reducible assumption
  conv => whnf
  refine Bif.knT ?_ fun h926 => ?_
  · with_reducible assumption
  conv => whnf
  refine Bif.knT ?_ fun h927 => ?_
  · with_reducible assumption
  conv => whnf
  refine ACalls.useE (k4) [0, 1] rfl (by (conv => whnf); (first | refine renL_flat q0 ?_ | refine renL_flat q1 ?_ | refine renL_flat q2 ?_ | refine renL_flat q3 ?_ | refine renL_flat q4 ?_ | refine renL_flat q5 ?_ | refine renL_flat q6 ?_); (conv => whnf); refine renL_mem ?_; (conv => whnf); try rfl) (by (conv => whnf); try rfl) ?_
  conv => whnf
  refine renL_flat q5 ?_
  conv => whnf
  refine renL_mem ?_
  conv => whnf
  refine ACalls.code tabOk h8 Tryd.func8 Tryd.call8 ok8 ?_
  conv => whnf
  refine getF_of t5 ?_
  conv => whnf
  refine Req.of ?_ ?_
  · exact flat_bdv q5 _ _
  conv => whnf
  refine Req.of ?_ ?_
  · exact flat_bdv (memM_flat _) _ _
  conv => whnf
  refine Bif.knT ?_ fun h928 => ?_
  · with_reducible assumption
  conv => whnf
  refine Bif.knT ?_ fun h929 => ?_
  · with_reducible assumption
  conv => whnf
  refine ACalls.code tabOk h33 Tryd.func33 Tryd.call33 ok33 ?_
  conv => whnf
  refine getF_of t5 ?_
  conv => whnf
  refine Req.of ?_ ?_
  · exact flat_bdv q5 _ _
  conv => whnf
  refine Req.of ?_ ?_
  · exact flat_bdv (memM_flat _) _ _
  conv => whnf
  refine Bif.knT ?_ fun h930 => ?_
  · with_reducible assumption
  conv => whnf
  refine Bif.knT ?_ fun h931 => ?_
  · with_reducible assumption
  conv => whnf
  refine Bif.knT ?_ fun h932 => ?_
  · with_reducible assumption
  conv => whnf
  refine Bif.knT ?_ fun h933 => ?_
  · with_reducible assumption
  conv => whnf
  refine Bif.knT ?_ fun h934 => ?_
  · with_reducible assumption
  conv => whnf
  refine ACalls.useE (k5) [0, 1] rfl (by (conv => whnf); (first | refine renL_flat q0 ?_ | refine renL_flat q1 ?_ | refine renL_flat q2 ?_ | refine renL_flat q3 ?_ | refine renL_flat q4 ?_ | refine renL_flat q5 ?_ | refine renL_flat q6 ?_); (conv => whnf); refine renL_mem ?_; (conv => whnf); try rfl) (by (conv => whnf); try rfl) ?_
  conv => whnf
  refine renL_flat q6 ?_
  conv => whnf
  refine renL_mem ?_
  conv => whnf
  refine ACalls.code tabOk h8 Tryd.func8 Tryd.call8 ok8 ?_
  conv => whnf
  refine getF_of t6 ?_
  conv => whnf
  refine Req.of ?_ ?_
  · exact flat_bdv q6 _ _
  conv => whnf
  refine Req.of ?_ ?_
  · exact flat_bdv (memM_flat _) _ _
  conv => whnf
  refine Req.of ?_ ?_
  · exact flat_bdv q6 _ _
  conv => whnf
  refine Req.of ?_ ?_
  · exact flat_bdv (memM_flat _) _ _
  conv => whnf
  exact ⟨rfl, rfl⟩
end Go.Proofs
