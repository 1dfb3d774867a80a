/-
  A code that turns a byte writes it twice, one that stores once, one that reads never: the law's own walk.
-/
import Derived.Test.YtmdiokmkokjpiaaDoorQkF
set_option linter.all false
set_option linter.unusedVariables false
set_option linter.unusedSimpArgs false
set_option linter.unnecessarySimpa false
set_option linter.unusedSectionVars false
namespace Go.Aw
variable [Base]
theorem putF_replZ3 {n : Nat} {a b c x y w : Value} {k : List Value → Prop} (hn : 1 ≤ n) (hk : k (x :: y :: w :: replZ (n - 1) [a, b, c])) : putF (replZ n [a, b, c]) 0 [x, y, w] k := by
  obtain ⟨m, rfl⟩ : ∃ m, n = m + 1 := ⟨n - 1, by omega⟩
  have e : replZ (m + 1) [a, b, c] = a :: b :: c :: replZ m [a, b, c] := by unfold replZ; rw [List.replicate_succ, List.flatten_cons]; rfl
  rw [e]
  refine putF_of (by simp) ?_
  have e2 : lay (a :: b :: c :: replZ m [a, b, c]) 0 [x, y, w] = x :: y :: w :: replZ m [a, b, c] := by unfold lay; simp
  rw [e2]; exact hk
theorem all_replZ {f : Value → Bool} {n : Nat} {z : List Value} (h : z.all f = true) : (replZ n z).all f = true := by
  unfold replZ
  refine List.all_eq_true.2 fun v hv => ?_
  obtain ⟨l, hl, hv⟩ := List.mem_flatten.1 hv
  rw [(List.mem_replicate.1 hl).2] at hv
  exact List.all_eq_true.1 h v hv
theorem all_cons {f : Value → Bool} {a : Value} {l : List Value} (h : f a = true) (hl : l.all f = true) : (a :: l).all f = true := by rw [List.all_cons, h, hl]; rfl
theorem takeF_zero {l : List Value} {k : List Value → Prop} (h : k []) : takeF l 0 k := takeF_of (Nat.zero_le _) (by simpa using h)
end Go.Aw
namespace Go.Proofs
open Go.Aw
variable [Base]
set_option maxRecDepth 100000
set_option maxHeartbeats 8000000
/-- One cycle of a memory by its cells. -/
def FcOk (c L : List Value) (a : Int) (w : Bool) (d : Int) (c2 L2 : List Value) : Prop :=
  ACalls Tryd.prog 9 [.pointer (some ⟨0, 0, none⟩), .slice (some ⟨1, 0, none⟩) 8192 8192] [.cells c 60, .cells L 5] fun r H => r = .agg #[.int .u16 a, .bool w, .int .u8 d] ∧ H = [.cells c2 60, .cells L2 5]
theorem fc_of {c c2 L L2 : List Value} {m m2 : Nat → Int} {a d : Int} {w : Bool} (h : FlOk c m a w d c2 m2) (hL : L = memM m) (hL2 : L2 = memM m2) : FcOk c L a w d c2 L2 := by subst hL; subst hL2; exact h
abbrev inV (o B a A X Y S P PC : Int) : Value := .agg #[.int .u8 o, .int .u8 B, .int .u16 a, .int .u8 A, .int .u8 X, .int .u8 Y, .int .u8 S, .int .u8 P, .int .u16 PC]
section
variable {o B a A X Y S P PC : Int} {nm : ByteArray} {kn : Bool}
theorem mem_other1 {md kd : Int} (kR : ACalls Tryd.prog 5 [] [] fun r H => r = .bool true ∧ H = []) (kO : CdOk o nm md kd kn) (h1 : (md != 6) = true) : ACalls Tryd.prog 3 [inV o B a A X Y S P PC] [] fun r _ => r = .bool true := by
  refine ACalls.code tabOk h3 Tryd.func3 Tryd.call3 ok3 ?_
  conv => whnf
  refine ACalls.useE (kR) [] rfl (by (conv => whnf); try rfl) (by (conv => whnf); try rfl) ?_
  conv => whnf
  refine ACalls.useE (kO) [] rfl (by (conv => whnf); try rfl) (by (conv => whnf); try rfl) ?_
  conv => whnf
  refine Bif.knT ?_ fun h900 => ?_
  · with_reducible assumption
  conv => whnf
  refine Bif.knT ?_ fun h901 => ?_
  · with_reducible assumption
  conv => whnf
  refine Bif.knT ?_ fun h902 => ?_
  · with_reducible assumption
  conv => whnf
  refine Bif.knT ?_ fun h903 => ?_
  · with_reducible assumption
  conv => whnf
  refine Bif.knT ?_ fun h904 => ?_
  · with_reducible assumption
  conv => whnf
  refine Bif.knT ?_ fun h905 => ?_
  · with_reducible assumption
  conv => whnf
  refine Bif.knT ?_ fun h906 => ?_
  · with_reducible assumption
  conv => whnf
  refine Bif.knT ?_ fun h907 => ?_
  · with_reducible assumption
  conv => whnf
theorem mem_other2 {md kd : Int} (kR : ACalls Tryd.prog 5 [] [] fun r H => r = .bool true ∧ H = []) (kO : CdOk o nm md kd kn) (h1 : (md != 6) = false) (g1 : (kd != 1) = true) (g2 : (kd != 2) = true) (g3 : (kd != 3) = true) : ACalls Tryd.prog 3 [inV o B a A X Y S P PC] [] fun r _ => r = .bool true := by
  refine ACalls.code tabOk h3 Tryd.func3 Tryd.call3 ok3 ?_
  conv => whnf
  refine ACalls.useE (kR) [] rfl (by (conv => whnf); try rfl) (by (conv => whnf); try rfl) ?_
  conv => whnf
  refine ACalls.useE (kO) [] rfl (by (conv => whnf); try rfl) (by (conv => whnf); try rfl) ?_
  conv => whnf
  refine Bif.knF ?_ fun h900 => ?_
  · with_reducible assumption
  conv => whnf
  refine Bif.knF ?_ fun h901 => ?_
  · with_reducible assumption
  conv => whnf
  refine Bif.knF ?_ fun h902 => ?_
  · with_reducible assumption
  conv => whnf
  refine Bif.knF ?_ fun h903 => ?_
  · with_reducible assumption
  conv => whnf
  refine Bif.knT ?_ fun h904 => ?_
  · with_reducible assumption
  conv => whnf
  refine Bif.knT ?_ fun h905 => ?_
  · with_reducible assumption
  conv => whnf
  refine Bif.knT ?_ fun h906 => ?_
  · with_reducible assumption
  conv => whnf
  refine Bif.knF ?_ fun h907 => ?_
  · with_reducible assumption
  conv => whnf
  refine Bif.knT ?_ fun h908 => ?_
  · with_reducible assumption
  conv => whnf
  refine Bif.knF ?_ fun h909 => ?_
  · with_reducible assumption
  conv => whnf
  refine Bif.knT ?_ fun h910 => ?_
  · with_reducible assumption
  conv => whnf
  refine Bif.knT ?_ fun h911 => ?_
  · with_reducible assumption
  conv => whnf
  refine Bif.knT ?_ fun h912 => ?_
  · with_reducible assumption
  conv => whnf
  refine Bif.knF ?_ fun h913 => ?_
  · with_reducible assumption
  conv => whnf
  refine Bif.knT ?_ fun h914 => ?_
  · with_reducible assumption
  conv => whnf
  refine Bif.knF ?_ fun h915 => ?_
  · with_reducible assumption
  conv => whnf
  refine Bif.knT ?_ fun h916 => ?_
  · with_reducible assumption
  conv => whnf
theorem mem_read {c0 c1 c2 c3 c4 Z LC L : List Value} {mC mL : Nat → Int} {a0 d0 a1 d1 a2 d2 a3 d3 s1 s2 s3 p pl lo hi v a' x' y' s' p' : Int}
    (kR : ACalls Tryd.prog 5 [] [] fun r H => r = .bool true ∧ H = []) (kO : CdOk o nm 6 1 kn)
    (hP : bits .or .u8 (bits .andNot .u8 P 16) 32 = p) (hpl : IntKind.u16.wrap (4352 + a.tmod 3584) = pl) (l0 : 0 ≤ pl) (l1 : pl < 8192) (hlo : IntKind.u8.wrap pl = lo) (hhi : IntKind.u8.wrap (pl.fdiv (2 ^ min (8 : Int).toNat IntKind.u16.bits)) = hi)
    (hZ : Z = memM fun _ => 0) (hC : LC = memM (updL (fun _ => 0) 4096 [o, lo, hi])) (MC : LC = memM mC) (hL : L = memM (upd mC pl.toNat B)) (ML : L = memM mL)
    (kA : ACalls Tryd.prog 7 [rgV A X Y S p 4096, .bool false] [] fun r H => r = .pointer (some ⟨0, 0, none⟩) ∧ H = [.cells c0 60])
    (p0 : CpOk c0 0) (p1 : CpOk c1 s1) (e1 : (s1 == 0) = false) (p2 : CpOk c2 s2) (e2 : (s2 == 0) = false) (p3 : CpOk c3 s3) (e3 : (s3 == 0) = false) (p4 : CpOk c4 0) (k0 : FcOk c0 L a0 false d0 c1 L) (k1 : FcOk c1 L a1 false d1 c2 L) (k2 : FcOk c2 L a2 false d2 c3 L) (k3 : FcOk c3 L a3 false d3 c4 L) (kX : ACalls Tryd.prog 10 [.string nm, rgV A X Y S p 4096, .int .u8 B] [] fun r H => r = rgV a' x' y' s' p' 4096 ∧ H = []) (g : RgOk c4 a' x' y' s' p' 4099) :
    ACalls Tryd.prog 3 [inV o B a A X Y S P PC] [] fun r _ => r = .bool true := by
  have q0 := p0.fl
  have t0 := p0.at'
  have q1 := p1.fl
  have t1 := p1.at'
  have q2 := p2.fl
  have t2 := p2.at'
  have q3 := p3.fl
  have t3 := p3.at'
  have q4 := p4.fl
  have t4 := p4.at'
  have n1 : (!(s1 == 0)) = true := by rw [e1]; rfl
  have n2 : (!(s2 == 0)) = true := by rw [e2]; rfl
  have n3 : (!(s3 == 0)) = true := by rw [e3]; rfl
  have zZ := mem_flat hZ
  have zC := mem_flat MC
  have zL := mem_flat ML
  have l2 : pl.toNat < 8192 := by omega
  have b1 : (decide (0 ≤ pl) && decide (pl < (8192 : Nat))) = true := by simp; omega
  have o2 : ∀ z : Int, (z == z) = true := fun z => by simp
  have hZ0 : repl (Int.toNat 8192) (.int .u8 0) = Z := (repl_mem rfl).trans hZ.symm
  refine ACalls.code tabOk h3 Tryd.func3 Tryd.call3 ok3 ?_
  conv => whnf
  refine ACalls.useE (kR) [] rfl (by (conv => whnf); (first | done | rfl | ((first | refine renL_flat q0 ?_ | refine renL_flat q1 ?_ | refine renL_flat q2 ?_ | refine renL_flat q3 ?_ | refine renL_flat q4 ?_); (conv => whnf); (first | done | rfl | ((first | refine renL_flat zL ?_); (conv => whnf); try rfl))))) (by (conv => whnf); try rfl) ?_
  conv => whnf
  refine ACalls.useE (kO) [] rfl (by (conv => whnf); (first | done | rfl | ((first | refine renL_flat q0 ?_ | refine renL_flat q1 ?_ | refine renL_flat q2 ?_ | refine renL_flat q3 ?_ | refine renL_flat q4 ?_); (conv => whnf); (first | done | rfl | ((first | refine renL_flat zL ?_); (conv => whnf); try rfl))))) (by (conv => whnf); try rfl) ?_
  conv => whnf
  (intro L' hL'; obtain rfl : L' = Z := hL'.trans hZ0)
  conv => whnf
  rw [hP]
  conv => whnf
  rw [hpl]
  conv => whnf
  rw [hlo]
  conv => whnf
  rw [hhi]
  conv => whnf
  refine putF_memV [o, lo, hi] (o := 4096) hZ hC rfl (Nat.le_of_ble_eq_true rfl) ?_
  conv => whnf
  refine Req.of ?_ ?_
  · assumption
  conv => whnf
  refine putF_memV1 (o := pl.toNat) MC hL (by show 0 + pl.toNat * 1 = _; omega) l2 ?_
  conv => whnf
  refine ACalls.useE (kA) [] rfl (by (conv => whnf); (first | done | rfl | ((first | refine renL_flat q0 ?_ | refine renL_flat q1 ?_ | refine renL_flat q2 ?_ | refine renL_flat q3 ?_ | refine renL_flat q4 ?_); (conv => whnf); (first | done | rfl | ((first | refine renL_flat zL ?_); (conv => whnf); try rfl))))) (by (conv => whnf); try rfl) ?_
  conv => whnf
  refine renL_flat q0 ?_
  conv => whnf
  refine ALoop.run 5 ?_
  conv => whnf
  refine ACalls.useE (k0) [5, 3] rfl (by (conv => whnf); (first | done | rfl | ((first | refine renL_flat q0 ?_ | refine renL_flat q1 ?_ | refine renL_flat q2 ?_ | refine renL_flat q3 ?_ | refine renL_flat q4 ?_); (conv => whnf); (first | done | rfl | ((first | refine renL_flat zL ?_); (conv => whnf); try rfl))))) (by (conv => whnf); try rfl) ?_
  conv => whnf
  refine renL_flat q1 ?_
  conv => whnf
  refine renL_flat zL ?_
  conv => whnf
  refine ACalls.code tabOk h8 Tryd.func8 Tryd.call8 ok8 ?_
  conv => whnf
  refine getF_of t1 ?_
  conv => whnf
  refine Req.of ?_ ?_
  · exact flat_bdv zL _ _
  conv => whnf
  refine Req.of ?_ ?_
  · exact flat_bdv q1 _ _
  conv => whnf
  refine Bif.knT ?_ fun h900 => ?_
  · with_reducible assumption
  conv => whnf
  refine Bif.knT ?_ fun h901 => ?_
  · with_reducible assumption
  conv => whnf
  refine Bif.knT ?_ fun h902 => ?_
  · with_reducible assumption
  conv => whnf
  refine ACalls.useE (k1) [5, 3] rfl (by (conv => whnf); (first | done | rfl | ((first | refine renL_flat q0 ?_ | refine renL_flat q1 ?_ | refine renL_flat q2 ?_ | refine renL_flat q3 ?_ | refine renL_flat q4 ?_); (conv => whnf); (first | done | rfl | ((first | refine renL_flat zL ?_); (conv => whnf); try rfl))))) (by (conv => whnf); try rfl) ?_
  conv => whnf
  refine renL_flat q2 ?_
  conv => whnf
  refine renL_flat zL ?_
  conv => whnf
  refine ACalls.code tabOk h8 Tryd.func8 Tryd.call8 ok8 ?_
  conv => whnf
  refine getF_of t2 ?_
  conv => whnf
  refine Req.of ?_ ?_
  · exact flat_bdv zL _ _
  conv => whnf
  refine Req.of ?_ ?_
  · exact flat_bdv q2 _ _
  conv => whnf
  refine Bif.knT ?_ fun h903 => ?_
  · with_reducible assumption
  conv => whnf
  refine Bif.knT ?_ fun h904 => ?_
  · with_reducible assumption
  conv => whnf
  refine Bif.knT ?_ fun h905 => ?_
  · with_reducible assumption
  conv => whnf
  refine ACalls.useE (k2) [5, 3] rfl (by (conv => whnf); (first | done | rfl | ((first | refine renL_flat q0 ?_ | refine renL_flat q1 ?_ | refine renL_flat q2 ?_ | refine renL_flat q3 ?_ | refine renL_flat q4 ?_); (conv => whnf); (first | done | rfl | ((first | refine renL_flat zL ?_); (conv => whnf); try rfl))))) (by (conv => whnf); try rfl) ?_
  conv => whnf
  refine renL_flat q3 ?_
  conv => whnf
  refine renL_flat zL ?_
  conv => whnf
  refine ACalls.code tabOk h8 Tryd.func8 Tryd.call8 ok8 ?_
  conv => whnf
  refine getF_of t3 ?_
  conv => whnf
  refine Req.of ?_ ?_
  · exact flat_bdv zL _ _
  conv => whnf
  refine Req.of ?_ ?_
  · exact flat_bdv q3 _ _
  conv => whnf
  refine Bif.knT ?_ fun h906 => ?_
  · with_reducible assumption
  conv => whnf
  refine Bif.knT ?_ fun h907 => ?_
  · with_reducible assumption
  conv => whnf
  refine Bif.knT ?_ fun h908 => ?_
  · with_reducible assumption
  conv => whnf
  refine ACalls.useE (k3) [5, 3] rfl (by (conv => whnf); (first | done | rfl | ((first | refine renL_flat q0 ?_ | refine renL_flat q1 ?_ | refine renL_flat q2 ?_ | refine renL_flat q3 ?_ | refine renL_flat q4 ?_); (conv => whnf); (first | done | rfl | ((first | refine renL_flat zL ?_); (conv => whnf); try rfl))))) (by (conv => whnf); try rfl) ?_
  conv => whnf
  refine renL_flat q4 ?_
  conv => whnf
  refine renL_flat zL ?_
  conv => whnf
  refine ACalls.code tabOk h8 Tryd.func8 Tryd.call8 ok8 ?_
  conv => whnf
  refine getF_of t4 ?_
  conv => whnf
  refine Req.of ?_ ?_
  · exact flat_bdv zL _ _
  conv => whnf
  refine Req.of ?_ ?_
  · exact flat_bdv q4 _ _
  conv => whnf
  refine ACalls.useE (kX) [] rfl (by (conv => whnf); (first | done | rfl | ((first | refine renL_flat q0 ?_ | refine renL_flat q1 ?_ | refine renL_flat q2 ?_ | refine renL_flat q3 ?_ | refine renL_flat q4 ?_); (conv => whnf); (first | done | rfl | ((first | refine renL_flat zL ?_); (conv => whnf); try rfl))))) (by (conv => whnf); try rfl) ?_
  conv => whnf
  refine ACalls.useE (g) [5] rfl (by (conv => whnf); (first | done | rfl | ((first | refine renL_flat q0 ?_ | refine renL_flat q1 ?_ | refine renL_flat q2 ?_ | refine renL_flat q3 ?_ | refine renL_flat q4 ?_); (conv => whnf); (first | done | rfl | ((first | refine renL_flat zL ?_); (conv => whnf); try rfl))))) (by (conv => whnf); try rfl) ?_
  conv => whnf
  refine renL_flat q4 ?_
  conv => whnf
  refine ⟨rfl, ?_⟩
  conv => whnf
  (simp only [o2, Bool.and_self, Bool.true_and]; rfl)
theorem mem_store {c0 c1 c2 c3 c4 Z LC L L4 : List Value} {mC mL mL4 : Nat → Int} {a0 d0 a1 d1 a2 d2 s1 s2 s3 p pl lo hi v a' x' y' s' p' : Int}
    (kR : ACalls Tryd.prog 5 [] [] fun r H => r = .bool true ∧ H = []) (kO : CdOk o nm 6 2 kn)
    (hP : bits .or .u8 (bits .andNot .u8 P 16) 32 = p) (hpl : IntKind.u16.wrap (4352 + a.tmod 3584) = pl) (l0 : 0 ≤ pl) (l1 : pl < 8192) (hlo : IntKind.u8.wrap pl = lo) (hhi : IntKind.u8.wrap (pl.fdiv (2 ^ min (8 : Int).toNat IntKind.u16.bits)) = hi)
    (hZ : Z = memM fun _ => 0) (hC : LC = memM (updL (fun _ => 0) 4096 [o, lo, hi])) (MC : LC = memM mC) (hL : L = memM (upd mC pl.toNat B)) (ML : L = memM mL) (ML4 : L4 = memM mL4)
    (kA : ACalls Tryd.prog 7 [rgV A X Y S p 4096, .bool false] [] fun r H => r = .pointer (some ⟨0, 0, none⟩) ∧ H = [.cells c0 60])
    (p0 : CpOk c0 0) (p1 : CpOk c1 s1) (e1 : (s1 == 0) = false) (p2 : CpOk c2 s2) (e2 : (s2 == 0) = false) (p3 : CpOk c3 s3) (e3 : (s3 == 0) = false) (p4 : CpOk c4 0) (k0 : FcOk c0 L a0 false d0 c1 L) (k1 : FcOk c1 L a1 false d1 c2 L) (k2 : FcOk c2 L a2 false d2 c3 L) (k3 : FcOk c3 L pl true v c4 L4) (kX : ACalls Tryd.prog 12 [.string nm, rgV A X Y S p 4096, .int .u8 (IntKind.u8.wrap (pl.fdiv (2 ^ min (8 : Int).toNat IntKind.u16.bits)))] [] fun r H => r = .tuple #[.int .u8 v, rgV A X Y S p 4096] ∧ H = []) :
    ACalls Tryd.prog 3 [inV o B a A X Y S P PC] [] fun r _ => r = .bool true := by
  have q0 := p0.fl
  have t0 := p0.at'
  have q1 := p1.fl
  have t1 := p1.at'
  have q2 := p2.fl
  have t2 := p2.at'
  have q3 := p3.fl
  have t3 := p3.at'
  have q4 := p4.fl
  have t4 := p4.at'
  have n1 : (!(s1 == 0)) = true := by rw [e1]; rfl
  have n2 : (!(s2 == 0)) = true := by rw [e2]; rfl
  have n3 : (!(s3 == 0)) = true := by rw [e3]; rfl
  have zZ := mem_flat hZ
  have zC := mem_flat MC
  have zL := mem_flat ML
  have zL4 := mem_flat ML4
  have l2 : pl.toNat < 8192 := by omega
  have b1 : (decide (0 ≤ pl) && decide (pl < (8192 : Nat))) = true := by simp; omega
  have o2 : ∀ z : Int, (z == z) = true := fun z => by simp
  have hZ0 : repl (Int.toNat 8192) (.int .u8 0) = Z := (repl_mem rfl).trans hZ.symm
  refine ACalls.code tabOk h3 Tryd.func3 Tryd.call3 ok3 ?_
  conv => whnf
  refine ACalls.useE (kR) [] rfl (by (conv => whnf); (first | done | rfl | ((first | refine renL_flat q0 ?_ | refine renL_flat q1 ?_ | refine renL_flat q2 ?_ | refine renL_flat q3 ?_ | refine renL_flat q4 ?_); (conv => whnf); (first | done | rfl | ((first | refine renL_flat zL ?_ | refine renL_flat zL4 ?_); (conv => whnf); try rfl))))) (by (conv => whnf); try rfl) ?_
  conv => whnf
  refine ACalls.useE (kO) [] rfl (by (conv => whnf); (first | done | rfl | ((first | refine renL_flat q0 ?_ | refine renL_flat q1 ?_ | refine renL_flat q2 ?_ | refine renL_flat q3 ?_ | refine renL_flat q4 ?_); (conv => whnf); (first | done | rfl | ((first | refine renL_flat zL ?_ | refine renL_flat zL4 ?_); (conv => whnf); try rfl))))) (by (conv => whnf); try rfl) ?_
  conv => whnf
  (intro L' hL'; obtain rfl : L' = Z := hL'.trans hZ0)
  conv => whnf
  rw [hP]
  conv => whnf
  rw [hpl]
  conv => whnf
  rw [hlo]
  conv => whnf
  rw [hhi]
  conv => whnf
  refine putF_memV [o, lo, hi] (o := 4096) hZ hC rfl (Nat.le_of_ble_eq_true rfl) ?_
  conv => whnf
  refine Req.of ?_ ?_
  · assumption
  conv => whnf
  refine putF_memV1 (o := pl.toNat) MC hL (by show 0 + pl.toNat * 1 = _; omega) l2 ?_
  conv => whnf
  refine ACalls.useE (kA) [] rfl (by (conv => whnf); (first | done | rfl | ((first | refine renL_flat q0 ?_ | refine renL_flat q1 ?_ | refine renL_flat q2 ?_ | refine renL_flat q3 ?_ | refine renL_flat q4 ?_); (conv => whnf); (first | done | rfl | ((first | refine renL_flat zL ?_ | refine renL_flat zL4 ?_); (conv => whnf); try rfl))))) (by (conv => whnf); try rfl) ?_
  conv => whnf
  refine renL_flat q0 ?_
  conv => whnf
  refine ALoop.run 5 ?_
  conv => whnf
  refine ACalls.useE (k0) [5, 3] rfl (by (conv => whnf); (first | done | rfl | ((first | refine renL_flat q0 ?_ | refine renL_flat q1 ?_ | refine renL_flat q2 ?_ | refine renL_flat q3 ?_ | refine renL_flat q4 ?_); (conv => whnf); (first | done | rfl | ((first | refine renL_flat zL ?_ | refine renL_flat zL4 ?_); (conv => whnf); try rfl))))) (by (conv => whnf); try rfl) ?_
  conv => whnf
  refine renL_flat q1 ?_
  conv => whnf
  refine renL_flat zL ?_
  conv => whnf
  refine ACalls.code tabOk h8 Tryd.func8 Tryd.call8 ok8 ?_
  conv => whnf
  refine getF_of t1 ?_
  conv => whnf
  refine Req.of ?_ ?_
  · exact flat_bdv zL _ _
  conv => whnf
  refine Req.of ?_ ?_
  · exact flat_bdv q1 _ _
  conv => whnf
  refine Bif.knT ?_ fun h900 => ?_
  · with_reducible assumption
  conv => whnf
  refine Bif.knT ?_ fun h901 => ?_
  · with_reducible assumption
  conv => whnf
  refine Bif.knT ?_ fun h902 => ?_
  · with_reducible assumption
  conv => whnf
  refine ACalls.useE (k1) [5, 3] rfl (by (conv => whnf); (first | done | rfl | ((first | refine renL_flat q0 ?_ | refine renL_flat q1 ?_ | refine renL_flat q2 ?_ | refine renL_flat q3 ?_ | refine renL_flat q4 ?_); (conv => whnf); (first | done | rfl | ((first | refine renL_flat zL ?_ | refine renL_flat zL4 ?_); (conv => whnf); try rfl))))) (by (conv => whnf); try rfl) ?_
  conv => whnf
  refine renL_flat q2 ?_
  conv => whnf
  refine renL_flat zL ?_
  conv => whnf
  refine ACalls.code tabOk h8 Tryd.func8 Tryd.call8 ok8 ?_
  conv => whnf
  refine getF_of t2 ?_
  conv => whnf
  refine Req.of ?_ ?_
  · exact flat_bdv zL _ _
  conv => whnf
  refine Req.of ?_ ?_
  · exact flat_bdv q2 _ _
  conv => whnf
  refine Bif.knT ?_ fun h903 => ?_
  · with_reducible assumption
  conv => whnf
  refine Bif.knT ?_ fun h904 => ?_
  · with_reducible assumption
  conv => whnf
  refine Bif.knT ?_ fun h905 => ?_
  · with_reducible assumption
  conv => whnf
  refine ACalls.useE (k2) [5, 3] rfl (by (conv => whnf); (first | done | rfl | ((first | refine renL_flat q0 ?_ | refine renL_flat q1 ?_ | refine renL_flat q2 ?_ | refine renL_flat q3 ?_ | refine renL_flat q4 ?_); (conv => whnf); (first | done | rfl | ((first | refine renL_flat zL ?_ | refine renL_flat zL4 ?_); (conv => whnf); try rfl))))) (by (conv => whnf); try rfl) ?_
  conv => whnf
  refine renL_flat q3 ?_
  conv => whnf
  refine renL_flat zL ?_
  conv => whnf
  refine ACalls.code tabOk h8 Tryd.func8 Tryd.call8 ok8 ?_
  conv => whnf
  refine getF_of t3 ?_
  conv => whnf
  refine Req.of ?_ ?_
  · exact flat_bdv zL _ _
  conv => whnf
  refine Req.of ?_ ?_
  · exact flat_bdv q3 _ _
  conv => whnf
  refine Bif.knT ?_ fun h906 => ?_
  · with_reducible assumption
  conv => whnf
  refine Bif.knT ?_ fun h907 => ?_
  · with_reducible assumption
  conv => whnf
  refine Bif.knT ?_ fun h908 => ?_
  · with_reducible assumption
  conv => whnf
  refine ACalls.useE (k3) [5, 3] rfl (by (conv => whnf); (first | done | rfl | ((first | refine renL_flat q0 ?_ | refine renL_flat q1 ?_ | refine renL_flat q2 ?_ | refine renL_flat q3 ?_ | refine renL_flat q4 ?_); (conv => whnf); (first | done | rfl | ((first | refine renL_flat zL ?_ | refine renL_flat zL4 ?_); (conv => whnf); try rfl))))) (by (conv => whnf); try rfl) ?_
  conv => whnf
  refine renL_flat q4 ?_
  conv => whnf
  refine renL_flat zL4 ?_
  conv => whnf
  intro nc hn1 hn2
  conv => whnf
  refine ACalls.code tabOk h8 Tryd.func8 Tryd.call8 ok8 ?_
  conv => whnf
  refine getF_of t4 ?_
  conv => whnf
  refine Req.of ?_ ?_
  · exact flat_bdv zL4 _ _
  conv => whnf
  refine Req.of ?_ ?_
  · exact flat_bdv q4 _ _
  conv => whnf
  refine Req.of ?_ ?_
  · exact all_cons rfl (all_cons rfl (all_cons rfl (all_replZ rfl)))
  conv => whnf
  refine ACalls.useE (kX) [] rfl (by (conv => whnf); (first | done | rfl | ((first | refine renL_flat q0 ?_ | refine renL_flat q1 ?_ | refine renL_flat q2 ?_ | refine renL_flat q3 ?_ | refine renL_flat q4 ?_); (conv => whnf); (first | done | rfl | ((first | refine renL_flat zL ?_ | refine renL_flat zL4 ?_); (conv => whnf); try rfl))))) (by (conv => whnf); try rfl) ?_
  conv => whnf
  rw [hhi]
  conv => whnf
  refine takeF_zero ?_
  conv => whnf
  (simp only [o2, Bool.and_self, Bool.true_and]; rfl)
theorem mem_turn {c0 c1 c2 c3 c4 c5 c6 Z LC L L5 L6 : List Value} {mC mL mL5 mL6 : Nat → Int} {a0 d0 a1 d1 a2 d2 a3 d3 s1 s2 s3 s4 s5 p pl lo hi v a' x' y' s' p' : Int}
    (kR : ACalls Tryd.prog 5 [] [] fun r H => r = .bool true ∧ H = []) (kO : CdOk o nm 6 3 kn)
    (hP : bits .or .u8 (bits .andNot .u8 P 16) 32 = p) (hpl : IntKind.u16.wrap (4352 + a.tmod 3584) = pl) (l0 : 0 ≤ pl) (l1 : pl < 8192) (hlo : IntKind.u8.wrap pl = lo) (hhi : IntKind.u8.wrap (pl.fdiv (2 ^ min (8 : Int).toNat IntKind.u16.bits)) = hi)
    (hZ : Z = memM fun _ => 0) (hC : LC = memM (updL (fun _ => 0) 4096 [o, lo, hi])) (MC : LC = memM mC) (hL : L = memM (upd mC pl.toNat B)) (ML : L = memM mL) (ML5 : L5 = memM mL5) (ML6 : L6 = memM mL6)
    (kA : ACalls Tryd.prog 7 [rgV A X Y S p 4096, .bool false] [] fun r H => r = .pointer (some ⟨0, 0, none⟩) ∧ H = [.cells c0 60])
    (p0 : CpOk c0 0) (p1 : CpOk c1 s1) (e1 : (s1 == 0) = false) (p2 : CpOk c2 s2) (e2 : (s2 == 0) = false) (p3 : CpOk c3 s3) (e3 : (s3 == 0) = false) (p4 : CpOk c4 s4) (e4 : (s4 == 0) = false) (p5 : CpOk c5 s5) (e5 : (s5 == 0) = false) (p6 : CpOk c6 0) (k0 : FcOk c0 L a0 false d0 c1 L) (k1 : FcOk c1 L a1 false d1 c2 L) (k2 : FcOk c2 L a2 false d2 c3 L) (k3 : FcOk c3 L a3 false d3 c4 L) (k4 : FcOk c4 L pl true B c5 L5) (k5 : FcOk c5 L5 pl true v c6 L6) (kX : ACalls Tryd.prog 13 [.string nm, rgV A X Y S p 4096, .int .u8 B] [] fun r H => r = .tuple #[.int .u8 v, rgV a' x' y' s' p' 4096] ∧ H = []) (g : RgOk c6 a' x' y' s' p' 4099) :
    ACalls Tryd.prog 3 [inV o B a A X Y S P PC] [] fun r _ => r = .bool true := by
  have q0 := p0.fl
  have t0 := p0.at'
  have q1 := p1.fl
  have t1 := p1.at'
  have q2 := p2.fl
  have t2 := p2.at'
  have q3 := p3.fl
  have t3 := p3.at'
  have q4 := p4.fl
  have t4 := p4.at'
  have q5 := p5.fl
  have t5 := p5.at'
  have q6 := p6.fl
  have t6 := p6.at'
  have n1 : (!(s1 == 0)) = true := by rw [e1]; rfl
  have n2 : (!(s2 == 0)) = true := by rw [e2]; rfl
  have n3 : (!(s3 == 0)) = true := by rw [e3]; rfl
  have n4 : (!(s4 == 0)) = true := by rw [e4]; rfl
  have n5 : (!(s5 == 0)) = true := by rw [e5]; rfl
  have zZ := mem_flat hZ
  have zC := mem_flat MC
  have zL := mem_flat ML
  have zL5 := mem_flat ML5
  have zL6 := mem_flat ML6
  have l2 : pl.toNat < 8192 := by omega
  have b1 : (decide (0 ≤ pl) && decide (pl < (8192 : Nat))) = true := by simp; omega
  have o2 : ∀ z : Int, (z == z) = true := fun z => by simp
  have hZ0 : repl (Int.toNat 8192) (.int .u8 0) = Z := (repl_mem rfl).trans hZ.symm
  refine ACalls.code tabOk h3 Tryd.func3 Tryd.call3 ok3 ?_
  conv => whnf
  refine ACalls.useE (kR) [] rfl (by (conv => whnf); (first | done | rfl | ((first | refine renL_flat q0 ?_ | refine renL_flat q1 ?_ | refine renL_flat q2 ?_ | refine renL_flat q3 ?_ | refine renL_flat q4 ?_ | refine renL_flat q5 ?_ | refine renL_flat q6 ?_); (conv => whnf); (first | done | rfl | ((first | refine renL_flat zL ?_ | refine renL_flat zL5 ?_ | refine renL_flat zL6 ?_); (conv => whnf); try rfl))))) (by (conv => whnf); try rfl) ?_
  conv => whnf
  refine ACalls.useE (kO) [] rfl (by (conv => whnf); (first | done | rfl | ((first | refine renL_flat q0 ?_ | refine renL_flat q1 ?_ | refine renL_flat q2 ?_ | refine renL_flat q3 ?_ | refine renL_flat q4 ?_ | refine renL_flat q5 ?_ | refine renL_flat q6 ?_); (conv => whnf); (first | done | rfl | ((first | refine renL_flat zL ?_ | refine renL_flat zL5 ?_ | refine renL_flat zL6 ?_); (conv => whnf); try rfl))))) (by (conv => whnf); try rfl) ?_
  conv => whnf
  (intro L' hL'; obtain rfl : L' = Z := hL'.trans hZ0)
  conv => whnf
  rw [hP]
  conv => whnf
  rw [hpl]
  conv => whnf
  rw [hlo]
  conv => whnf
  rw [hhi]
  conv => whnf
  refine putF_memV [o, lo, hi] (o := 4096) hZ hC rfl (Nat.le_of_ble_eq_true rfl) ?_
  conv => whnf
  refine Req.of ?_ ?_
  · assumption
  conv => whnf
  refine putF_memV1 (o := pl.toNat) MC hL (by show 0 + pl.toNat * 1 = _; omega) l2 ?_
  conv => whnf
  refine ACalls.useE (kA) [] rfl (by (conv => whnf); (first | done | rfl | ((first | refine renL_flat q0 ?_ | refine renL_flat q1 ?_ | refine renL_flat q2 ?_ | refine renL_flat q3 ?_ | refine renL_flat q4 ?_ | refine renL_flat q5 ?_ | refine renL_flat q6 ?_); (conv => whnf); (first | done | rfl | ((first | refine renL_flat zL ?_ | refine renL_flat zL5 ?_ | refine renL_flat zL6 ?_); (conv => whnf); try rfl))))) (by (conv => whnf); try rfl) ?_
  conv => whnf
  refine renL_flat q0 ?_
  conv => whnf
  refine ALoop.run 7 ?_
  conv => whnf
  refine ACalls.useE (k0) [5, 3] rfl (by (conv => whnf); (first | done | rfl | ((first | refine renL_flat q0 ?_ | refine renL_flat q1 ?_ | refine renL_flat q2 ?_ | refine renL_flat q3 ?_ | refine renL_flat q4 ?_ | refine renL_flat q5 ?_ | refine renL_flat q6 ?_); (conv => whnf); (first | done | rfl | ((first | refine renL_flat zL ?_ | refine renL_flat zL5 ?_ | refine renL_flat zL6 ?_); (conv => whnf); try rfl))))) (by (conv => whnf); try rfl) ?_
  conv => whnf
  refine renL_flat q1 ?_
  conv => whnf
  refine renL_flat zL ?_
  conv => whnf
  refine ACalls.code tabOk h8 Tryd.func8 Tryd.call8 ok8 ?_
  conv => whnf
  refine getF_of t1 ?_
  conv => whnf
  refine Req.of ?_ ?_
  · exact flat_bdv zL _ _
  conv => whnf
  refine Req.of ?_ ?_
  · exact flat_bdv q1 _ _
  conv => whnf
  refine Bif.knT ?_ fun h900 => ?_
  · with_reducible assumption
  conv => whnf
  refine Bif.knT ?_ fun h901 => ?_
  · with_reducible assumption
  conv => whnf
  refine Bif.knT ?_ fun h902 => ?_
  · with_reducible assumption
  conv => whnf
  refine ACalls.useE (k1) [5, 3] rfl (by (conv => whnf); (first | done | rfl | ((first | refine renL_flat q0 ?_ | refine renL_flat q1 ?_ | refine renL_flat q2 ?_ | refine renL_flat q3 ?_ | refine renL_flat q4 ?_ | refine renL_flat q5 ?_ | refine renL_flat q6 ?_); (conv => whnf); (first | done | rfl | ((first | refine renL_flat zL ?_ | refine renL_flat zL5 ?_ | refine renL_flat zL6 ?_); (conv => whnf); try rfl))))) (by (conv => whnf); try rfl) ?_
  conv => whnf
  refine renL_flat q2 ?_
  conv => whnf
  refine renL_flat zL ?_
  conv => whnf
  refine ACalls.code tabOk h8 Tryd.func8 Tryd.call8 ok8 ?_
  conv => whnf
  refine getF_of t2 ?_
  conv => whnf
  refine Req.of ?_ ?_
  · exact flat_bdv zL _ _
  conv => whnf
  refine Req.of ?_ ?_
  · exact flat_bdv q2 _ _
  conv => whnf
  refine Bif.knT ?_ fun h903 => ?_
  · with_reducible assumption
  conv => whnf
  refine Bif.knT ?_ fun h904 => ?_
  · with_reducible assumption
  conv => whnf
  refine Bif.knT ?_ fun h905 => ?_
  · with_reducible assumption
  conv => whnf
  refine ACalls.useE (k2) [5, 3] rfl (by (conv => whnf); (first | done | rfl | ((first | refine renL_flat q0 ?_ | refine renL_flat q1 ?_ | refine renL_flat q2 ?_ | refine renL_flat q3 ?_ | refine renL_flat q4 ?_ | refine renL_flat q5 ?_ | refine renL_flat q6 ?_); (conv => whnf); (first | done | rfl | ((first | refine renL_flat zL ?_ | refine renL_flat zL5 ?_ | refine renL_flat zL6 ?_); (conv => whnf); try rfl))))) (by (conv => whnf); try rfl) ?_
  conv => whnf
  refine renL_flat q3 ?_
  conv => whnf
  refine renL_flat zL ?_
  conv => whnf
  refine ACalls.code tabOk h8 Tryd.func8 Tryd.call8 ok8 ?_
  conv => whnf
  refine getF_of t3 ?_
  conv => whnf
  refine Req.of ?_ ?_
  · exact flat_bdv zL _ _
  conv => whnf
  refine Req.of ?_ ?_
  · exact flat_bdv q3 _ _
  conv => whnf
  refine Bif.knT ?_ fun h906 => ?_
  · with_reducible assumption
  conv => whnf
  refine Bif.knT ?_ fun h907 => ?_
  · with_reducible assumption
  conv => whnf
  refine Bif.knT ?_ fun h908 => ?_
  · with_reducible assumption
  conv => whnf
  refine ACalls.useE (k3) [5, 3] rfl (by (conv => whnf); (first | done | rfl | ((first | refine renL_flat q0 ?_ | refine renL_flat q1 ?_ | refine renL_flat q2 ?_ | refine renL_flat q3 ?_ | refine renL_flat q4 ?_ | refine renL_flat q5 ?_ | refine renL_flat q6 ?_); (conv => whnf); (first | done | rfl | ((first | refine renL_flat zL ?_ | refine renL_flat zL5 ?_ | refine renL_flat zL6 ?_); (conv => whnf); try rfl))))) (by (conv => whnf); try rfl) ?_
  conv => whnf
  refine renL_flat q4 ?_
  conv => whnf
  refine renL_flat zL ?_
  conv => whnf
  refine ACalls.code tabOk h8 Tryd.func8 Tryd.call8 ok8 ?_
  conv => whnf
  refine getF_of t4 ?_
  conv => whnf
  refine Req.of ?_ ?_
  · exact flat_bdv zL _ _
  conv => whnf
  refine Req.of ?_ ?_
  · exact flat_bdv q4 _ _
  conv => whnf
  refine Bif.knT ?_ fun h909 => ?_
  · with_reducible assumption
  conv => whnf
  refine Bif.knT ?_ fun h910 => ?_
  · with_reducible assumption
  conv => whnf
  refine Bif.knT ?_ fun h911 => ?_
  · with_reducible assumption
  conv => whnf
  refine ACalls.useE (k4) [5, 3] rfl (by (conv => whnf); (first | done | rfl | ((first | refine renL_flat q0 ?_ | refine renL_flat q1 ?_ | refine renL_flat q2 ?_ | refine renL_flat q3 ?_ | refine renL_flat q4 ?_ | refine renL_flat q5 ?_ | refine renL_flat q6 ?_); (conv => whnf); (first | done | rfl | ((first | refine renL_flat zL ?_ | refine renL_flat zL5 ?_ | refine renL_flat zL6 ?_); (conv => whnf); try rfl))))) (by (conv => whnf); try rfl) ?_
  conv => whnf
  refine renL_flat q5 ?_
  conv => whnf
  refine renL_flat zL5 ?_
  conv => whnf
  intro nc hn1 hn2
  conv => whnf
  refine ACalls.code tabOk h8 Tryd.func8 Tryd.call8 ok8 ?_
  conv => whnf
  refine getF_of t5 ?_
  conv => whnf
  refine Req.of ?_ ?_
  · exact flat_bdv zL5 _ _
  conv => whnf
  refine Req.of ?_ ?_
  · exact flat_bdv q5 _ _
  conv => whnf
  refine Req.of ?_ ?_
  · exact all_cons rfl (all_cons rfl (all_cons rfl (all_replZ rfl)))
  conv => whnf
  refine Bif.knT ?_ fun h912 => ?_
  · with_reducible assumption
  conv => whnf
  refine Bif.knT ?_ fun h913 => ?_
  · with_reducible assumption
  conv => whnf
  refine Bif.knT ?_ fun h914 => ?_
  · with_reducible assumption
  conv => whnf
  refine ACalls.useE (k5) [5, 3] rfl (by (conv => whnf); (first | done | rfl | ((first | refine renL_flat q0 ?_ | refine renL_flat q1 ?_ | refine renL_flat q2 ?_ | refine renL_flat q3 ?_ | refine renL_flat q4 ?_ | refine renL_flat q5 ?_ | refine renL_flat q6 ?_); (conv => whnf); (first | done | rfl | ((first | refine renL_flat zL ?_ | refine renL_flat zL5 ?_ | refine renL_flat zL6 ?_); (conv => whnf); try rfl))))) (by (conv => whnf); try rfl) ?_
  conv => whnf
  refine renL_flat q6 ?_
  conv => whnf
  refine renL_flat zL6 ?_
  conv => whnf
  refine Bif.of (fun h915 => ?_) fun h915 => ?_
  · conv => whnf
    refine putF_replZ3 (by (have := of_decide_eq_true h915); omega) ?_
    conv => whnf
    refine ACalls.code tabOk h8 Tryd.func8 Tryd.call8 ok8 ?_
    conv => whnf
    refine getF_of t6 ?_
    conv => whnf
    refine Req.of ?_ ?_
    · exact flat_bdv zL6 _ _
    conv => whnf
    refine Req.of ?_ ?_
    · exact flat_bdv q6 _ _
    conv => whnf
    refine Req.of ?_ ?_
    · exact all_cons rfl (all_cons rfl (all_cons rfl (all_replZ rfl)))
    conv => whnf
    refine ACalls.useE (kX) [] rfl (by (conv => whnf); (first | done | rfl | ((first | refine renL_flat q0 ?_ | refine renL_flat q1 ?_ | refine renL_flat q2 ?_ | refine renL_flat q3 ?_ | refine renL_flat q4 ?_ | refine renL_flat q5 ?_ | refine renL_flat q6 ?_); (conv => whnf); (first | done | rfl | ((first | refine renL_flat zL ?_ | refine renL_flat zL5 ?_ | refine renL_flat zL6 ?_); (conv => whnf); try rfl))))) (by (conv => whnf); try rfl) ?_
    conv => whnf
    refine Bif.knT ?_ fun h916 => ?_
    · (simp only [o2, Bool.and_self, Bool.true_and]; rfl)
    conv => whnf
    refine Bif.knT ?_ fun h917 => ?_
    · with_reducible assumption
    conv => whnf
    refine Bif.knT ?_ fun h918 => ?_
    · with_reducible assumption
    conv => whnf
    refine takeF_zero ?_
    conv => whnf
    refine Bif.knT ?_ fun h919 => ?_
    · with_reducible assumption
    conv => whnf
    refine Bif.knT ?_ fun h920 => ?_
    · with_reducible assumption
    conv => whnf
    refine Bif.knT ?_ fun h921 => ?_
    · with_reducible assumption
    conv => whnf
    refine Bif.knT ?_ fun h922 => ?_
    · with_reducible assumption
    conv => whnf
    refine Bif.knT ?_ fun h923 => ?_
    · with_reducible assumption
    conv => whnf
    refine Bif.knT ?_ fun h924 => ?_
    · (simp only [o2, Bool.and_self, Bool.true_and]; rfl)
    conv => whnf
    refine Bif.knT ?_ fun h925 => ?_
    · with_reducible assumption
    conv => whnf
    refine Bif.knT ?_ fun h926 => ?_
    · with_reducible assumption
    conv => whnf
    refine ACalls.useE (g) [5] rfl (by (conv => whnf); (first | done | rfl | ((first | refine renL_flat q0 ?_ | refine renL_flat q1 ?_ | refine renL_flat q2 ?_ | refine renL_flat q3 ?_ | refine renL_flat q4 ?_ | refine renL_flat q5 ?_ | refine renL_flat q6 ?_); (conv => whnf); (first | done | rfl | ((first | refine renL_flat zL ?_ | refine renL_flat zL5 ?_ | refine renL_flat zL6 ?_); (conv => whnf); try rfl))))) (by (conv => whnf); try rfl) ?_
    conv => whnf
    refine renL_flat q6 ?_
    conv => whnf
    refine ⟨rfl, ?_⟩
    conv => whnf
    refine takeF_zero ?_
    conv => whnf
    refine ⟨rfl, ?_⟩
    conv => whnf
    refine ⟨rfl, ?_⟩
    conv => whnf
    refine Bif.knT ?_ fun h927 => ?_
    · with_reducible assumption
    conv => whnf
    refine Bif.knT ?_ fun h928 => ?_
    · with_reducible assumption
    conv => whnf
    (simp only [o2, Bool.and_self, Bool.true_and]; rfl)
  · conv => whnf
    refine Req.of ?_ ?_
    · (have hq := of_decide_eq_false h915; have ee : nc = 1 := (by omega); subst ee; decide +kernel)
    conv => whnf
    refine takeF_zero ?_
    conv => whnf
    intro nc hn1 hn2
    conv => whnf
    refine ACalls.code tabOk h8 Tryd.func8 Tryd.call8 ok8 ?_
    conv => whnf
    refine getF_of t6 ?_
    conv => whnf
    refine Req.of ?_ ?_
    · exact flat_bdv zL6 _ _
    conv => whnf
    refine Req.of ?_ ?_
    · exact flat_bdv q6 _ _
    conv => whnf
    refine Req.of ?_ ?_
    · exact all_cons rfl (all_cons rfl (all_cons rfl (all_replZ rfl)))
    conv => whnf
    refine Req.of ?_ ?_
    · exact all_cons rfl (all_cons rfl (all_cons rfl (all_replZ rfl)))
    conv => whnf
    refine ACalls.useE (kX) [] rfl (by (conv => whnf); (first | done | rfl | ((first | refine renL_flat q0 ?_ | refine renL_flat q1 ?_ | refine renL_flat q2 ?_ | refine renL_flat q3 ?_ | refine renL_flat q4 ?_ | refine renL_flat q5 ?_ | refine renL_flat q6 ?_); (conv => whnf); (first | done | rfl | ((first | refine renL_flat zL ?_ | refine renL_flat zL5 ?_ | refine renL_flat zL6 ?_); (conv => whnf); try rfl))))) (by (conv => whnf); try rfl) ?_
    conv => whnf
    refine Bif.knT ?_ fun h929 => ?_
    · (simp only [o2, Bool.and_self, Bool.true_and]; rfl)
    conv => whnf
    refine Bif.knT ?_ fun h930 => ?_
    · with_reducible assumption
    conv => whnf
    refine Bif.knT ?_ fun h931 => ?_
    · with_reducible assumption
    conv => whnf
    refine takeF_zero ?_
    conv => whnf
    refine Bif.knT ?_ fun h932 => ?_
    · with_reducible assumption
    conv => whnf
    refine Bif.knT ?_ fun h933 => ?_
    · with_reducible assumption
    conv => whnf
    refine Bif.knT ?_ fun h934 => ?_
    · with_reducible assumption
    conv => whnf
    refine Bif.knT ?_ fun h935 => ?_
    · with_reducible assumption
    conv => whnf
    refine Bif.knT ?_ fun h936 => ?_
    · with_reducible assumption
    conv => whnf
    refine Bif.knT ?_ fun h937 => ?_
    · (simp only [o2, Bool.and_self, Bool.true_and]; rfl)
    conv => whnf
    refine Bif.knT ?_ fun h938 => ?_
    · with_reducible assumption
    conv => whnf
    refine Bif.knT ?_ fun h939 => ?_
    · with_reducible assumption
    conv => whnf
    refine ACalls.useE (g) [5] rfl (by (conv => whnf); (first | done | rfl | ((first | refine renL_flat q0 ?_ | refine renL_flat q1 ?_ | refine renL_flat q2 ?_ | refine renL_flat q3 ?_ | refine renL_flat q4 ?_ | refine renL_flat q5 ?_ | refine renL_flat q6 ?_); (conv => whnf); (first | done | rfl | ((first | refine renL_flat zL ?_ | refine renL_flat zL5 ?_ | refine renL_flat zL6 ?_); (conv => whnf); try rfl))))) (by (conv => whnf); try rfl) ?_
    conv => whnf
    refine renL_flat q6 ?_
    conv => whnf
    refine ⟨rfl, ?_⟩
    conv => whnf
    refine takeF_zero ?_
    conv => whnf
    refine ⟨rfl, ?_⟩
    conv => whnf
    refine ⟨rfl, ?_⟩
    conv => whnf
    refine Bif.knT ?_ fun h940 => ?_
    · with_reducible assumption
    conv => whnf
    refine Bif.knT ?_ fun h941 => ?_
    · with_reducible assumption
    conv => whnf
    (simp only [o2, Bool.and_self, Bool.true_and]; rfl)
end
end Go.Proofs
