/-
  What is pushed is pulled; what is called comes back: the law's own walk.
-/
import Derived.Test.YtmdiokmkokjpiaaDoorQiF
set_option linter.all false
set_option linter.unusedVariables false
set_option linter.unusedSimpArgs false
set_option linter.unnecessarySimpa false
set_option linter.unusedSectionVars false
namespace Go.Proofs
open Go.Aw
variable [Base]
set_option maxRecDepth 100000
set_option maxHeartbeats 8000000
theorem mem_flat {L : List Value} {m : Nat → Int} (h : L = memM m) : ∀ v ∈ L, flatV v = true := by subst h; exact memM_flat m
theorem getF_memV {L : List Value} {m : Nat → Int} {n o : Nat} {k : Value → Prop} (hL : L = memM m) (hn : n = o) (ho : o < 8192) (hk : k (.int .u8 (m o))) : getF L n k := by subst hL; exact getF_mem hn ho hk
theorem putF_memV {L L' : List Value} {m : Nat → Int} {n o : Nat} (l : List Int) {k : List Value → Prop} (hL : L = memM m) (hL' : L' = memM (updL m o l)) (hn : n = o) (ho : o + l.length ≤ 8192) (hk : k L') : putF L n (l.map (Value.int .u8)) k := by
  subst hL; subst hL'; exact putF_memL l hn ho hk
theorem putF_memV1 {L L' : List Value} {m : Nat → Int} {n o : Nat} {v : Int} {k : List Value → Prop} (hL : L = memM m) (hL' : L' = memM (upd m o v)) (hn : n = o) (ho : o < 8192) (hk : k L') : putF L n [.int .u8 v] k := by
  subst hL; subst hL'; exact putF_mem hn ho hk
/-- Its registers are these. -/
def RgOk (c : List Value) (A X Y S P PC : Int) : Prop := ACalls Tryd.prog 11 [.pointer (some ⟨0, 0, none⟩)] [.cells c 60] fun r H => r = rgV A X Y S P PC ∧ H = [.cells c 60]
theorem rg_ok (A X Y S P PC s op : Int) (nm : ByteArray) (md kd : Int) (kn : Bool) (pl wr b : Int) : RgOk (cpu A X Y S P PC s op nm md kd kn pl wr b) A X Y S P PC := by
  refine ACalls.code tabOk h11 Tryd.func11 Tryd.call11 ok11 ?_
  conv => whnf
  exact ⟨rfl, rfl⟩
/-- The same of a memory by its cells. -/
def DlOk (c L : List Value) (n : Int) (c2 L2 : List Value) : Prop :=
  ACalls Tryd.prog 14 [.pointer (some ⟨0, 0, none⟩), .slice (some ⟨1, 0, none⟩) 8192 8192] [.cells c 60, .cells L 5] fun r H => r = .int .i64 n ∧ H = [.cells c2 60, .cells L2 5]
theorem dl_of {c c2 L L2 : List Value} {m m2 : Nat → Int} {n : Int} (h : DnOk c m n c2 m2) (hL : L = memM m) (hL2 : L2 = memM m2) : DlOk c L n c2 L2 := by subst hL; subst hL2; exact h
theorem stack_v {c0 c1 c2 c3 c4 c5 c6 Z L0 L1 L2 L3 L4 L5 L6 L7 L8 : List Value} {m0 m1 m2 m3 m4 m5 m6 m7 m8 : Nat → Int} {A X Y S P PC p p4 : Int} (hS : 0 ≤ S ∧ S ≤ 255) (p0 : CpOk c0 0) (p1 : CpOk c1 0) (p2 : CpOk c2 0) (p3 : CpOk c3 0) (p4' : CpOk c4 0) (p5 : CpOk c5 0) (p6 : CpOk c6 0)
    (hZ : Z = memM fun _ => 0) (M0 : L0 = memM m0) (M1 : L1 = memM m1) (M2 : L2 = memM m2) (M3 : L3 = memM m3) (M4 : L4 = memM m4) (M5 : L5 = memM m5) (M6 : L6 = memM m6) (M7 : L7 = memM m7) (M8 : L8 = memM m8)
    (kR : ACalls Tryd.prog 5 [] [] fun r H => r = .bool true ∧ H = [])
    (kA : ACalls Tryd.prog 7 [rgV A X Y S P 4096, .bool false] [] fun r H => r = .pointer (some ⟨0, 0, none⟩) ∧ H = [.cells c0 60])
    (g0 : RgOk c0 A X Y S p 4096) (g4 : RgOk c4 A X Y S p4 4100) (g6 : RgOk c6 A X Y S p 4099)
    (hm0 : L0 = memM (updL (fun _ => 0) 4096 [72, 8, 40, 104])) (k1 : DlOk c0 L0 3 c1 L1) (k2 : DlOk c1 L1 3 c2 L2) (k3 : DlOk c2 L2 4 c3 L3) (k4 : DlOk c3 L3 4 c4 L4)
    (hm5 : L5 = memM (updL m4 4096 [32, 0, 24])) (hm6 : L6 = memM (upd m5 6144 96)) (k5 : DlOk c0 L6 6 c5 L7) (k6 : DlOk c5 L7 6 c6 L8)
    (e1 : m2 (256 + S).toNat = A) (e2 : m2 (256 + IntKind.u8.wrap (S - 1)).toNat = bits .or .u8 p 16) (e3 : (bits .andNot .u8 (bits .xor .u8 p4 p) 130 != 0) = false) :
    ACalls Tryd.prog 4 [rgV A X Y S P PC] [] fun r _ => r = .bool true := by
  have q0 := p0.fl
  have q1 := p1.fl
  have q2 := p2.fl
  have q3 := p3.fl
  have q4 := p4'.fl
  have q5 := p5.fl
  have q6 := p6.fl
  have z0 := mem_flat M0
  have z1 := mem_flat M1
  have z2 := mem_flat M2
  have z3 := mem_flat M3
  have z4 := mem_flat M4
  have z5 := mem_flat M5
  have z6 := mem_flat M6
  have z7 := mem_flat M7
  have z8 := mem_flat M8
  have zz := mem_flat hZ
  obtain ⟨T, hT⟩ : ∃ T, IntKind.u8.wrap (S - 1) = T := ⟨_, rfl⟩
  have hT2 : 0 ≤ T ∧ T ≤ 255 := by
    obtain ⟨k, rfl⟩ := fin_of hS.1 hS.2
    have h : ∀ k : Fin 256, 0 ≤ IntKind.u8.wrap ((k.val : Int) - 1) ∧ IntKind.u8.wrap ((k.val : Int) - 1) ≤ 255 := by decide +kernel
    rw [← hT]; exact h k
  rw [hT] at e2
  have w1 : IntKind.i64.wrap (256 + IntKind.i64.wrap S) = 256 + S := by rw [wrap64 (n := S) (by omega) (by omega), wrap64 (by omega) (by omega)]
  have w2 : IntKind.i64.wrap (256 + IntKind.i64.wrap T) = 256 + T := by rw [wrap64 (n := T) (by omega) (by omega), wrap64 (by omega) (by omega)]
  have b1 : (decide (0 ≤ 256 + S) && decide (256 + S < (8192 : Nat))) = true := by simp; omega
  have b2 : (decide (0 ≤ 256 + T) && decide (256 + T < (8192 : Nat))) = true := by simp; omega
  have l1 : (256 + S).toNat < 8192 := by omega
  have l2 : (256 + T).toNat < 8192 := by omega
  have o1 : ∀ z : Int, (z != z) = false := fun z => by simp
  have o2 : ∀ z : Int, (z == z) = true := fun z => by simp
  have hZ0 : repl (Int.toNat 8192) (.int .u8 0) = Z := (repl_mem rfl).trans hZ.symm
  refine ACalls.code tabOk h4 Tryd.func4 Tryd.call4 ok4 ?_
  conv => whnf
  refine ACalls.useE (kR) [] rfl (by (conv => whnf); (first | done | rfl | ((first | refine renL_flat q0 ?_ | refine renL_flat q1 ?_ | refine renL_flat q2 ?_ | refine renL_flat q3 ?_ | refine renL_flat q4 ?_ | refine renL_flat q5 ?_ | refine renL_flat q6 ?_); (conv => whnf); (first | done | rfl | ((first | refine renL_flat z0 ?_ | refine renL_flat z1 ?_ | refine renL_flat z2 ?_ | refine renL_flat z3 ?_ | refine renL_flat z4 ?_ | refine renL_flat z5 ?_ | refine renL_flat z6 ?_ | refine renL_flat z7 ?_ | refine renL_flat z8 ?_); (conv => whnf); try rfl))))) (by (conv => whnf); try rfl) ?_
  conv => whnf
  (intro L hL; obtain rfl : L = Z := hL.trans hZ0)
  conv => whnf
  refine putF_memV [72, 8, 40, 104] (o := 4096) hZ hm0 rfl (by decide) ?_
  conv => whnf
  refine ACalls.useE (kA) [] rfl (by (conv => whnf); (first | done | rfl | ((first | refine renL_flat q0 ?_ | refine renL_flat q1 ?_ | refine renL_flat q2 ?_ | refine renL_flat q3 ?_ | refine renL_flat q4 ?_ | refine renL_flat q5 ?_ | refine renL_flat q6 ?_); (conv => whnf); (first | done | rfl | ((first | refine renL_flat z0 ?_ | refine renL_flat z1 ?_ | refine renL_flat z2 ?_ | refine renL_flat z3 ?_ | refine renL_flat z4 ?_ | refine renL_flat z5 ?_ | refine renL_flat z6 ?_ | refine renL_flat z7 ?_ | refine renL_flat z8 ?_); (conv => whnf); try rfl))))) (by (conv => whnf); try rfl) ?_
  conv => whnf
  refine renL_flat q0 ?_
  conv => whnf
  refine ACalls.useE (g0) [3] rfl (by (conv => whnf); (first | done | rfl | ((first | refine renL_flat q0 ?_ | refine renL_flat q1 ?_ | refine renL_flat q2 ?_ | refine renL_flat q3 ?_ | refine renL_flat q4 ?_ | refine renL_flat q5 ?_ | refine renL_flat q6 ?_); (conv => whnf); (first | done | rfl | ((first | refine renL_flat z0 ?_ | refine renL_flat z1 ?_ | refine renL_flat z2 ?_ | refine renL_flat z3 ?_ | refine renL_flat z4 ?_ | refine renL_flat z5 ?_ | refine renL_flat z6 ?_ | refine renL_flat z7 ?_ | refine renL_flat z8 ?_); (conv => whnf); try rfl))))) (by (conv => whnf); try rfl) ?_
  conv => whnf
  refine renL_flat q0 ?_
  conv => whnf
  refine ACalls.useE (k1) [3, 1] rfl (by (conv => whnf); (first | done | rfl | ((first | refine renL_flat q0 ?_ | refine renL_flat q1 ?_ | refine renL_flat q2 ?_ | refine renL_flat q3 ?_ | refine renL_flat q4 ?_ | refine renL_flat q5 ?_ | refine renL_flat q6 ?_); (conv => whnf); (first | done | rfl | ((first | refine renL_flat z0 ?_ | refine renL_flat z1 ?_ | refine renL_flat z2 ?_ | refine renL_flat z3 ?_ | refine renL_flat z4 ?_ | refine renL_flat z5 ?_ | refine renL_flat z6 ?_ | refine renL_flat z7 ?_ | refine renL_flat z8 ?_); (conv => whnf); try rfl))))) (by (conv => whnf); try rfl) ?_
  conv => whnf
  refine renL_flat q1 ?_
  conv => whnf
  refine renL_flat z1 ?_
  conv => whnf
  refine ACalls.useE (k2) [3, 1] rfl (by (conv => whnf); (first | done | rfl | ((first | refine renL_flat q0 ?_ | refine renL_flat q1 ?_ | refine renL_flat q2 ?_ | refine renL_flat q3 ?_ | refine renL_flat q4 ?_ | refine renL_flat q5 ?_ | refine renL_flat q6 ?_); (conv => whnf); (first | done | rfl | ((first | refine renL_flat z0 ?_ | refine renL_flat z1 ?_ | refine renL_flat z2 ?_ | refine renL_flat z3 ?_ | refine renL_flat z4 ?_ | refine renL_flat z5 ?_ | refine renL_flat z6 ?_ | refine renL_flat z7 ?_ | refine renL_flat z8 ?_); (conv => whnf); try rfl))))) (by (conv => whnf); try rfl) ?_
  conv => whnf
  refine renL_flat q2 ?_
  conv => whnf
  refine renL_flat z2 ?_
  conv => whnf
  rw [w1]
  conv => whnf
  refine Req.of ?_ ?_
  · assumption
  conv => whnf
  refine getF_memV (o := (256 + S).toNat) M2 (by show 0 + (256 + S).toNat * 1 = _; omega) l1 ?_
  conv => whnf
  rw [e1]
  conv => whnf
  refine Bif.knF ?_ fun h900 => ?_
  · exact o1 _
  conv => whnf
  refine Bif.knF ?_ fun h901 => ?_
  · with_reducible assumption
  conv => whnf
  refine Bif.knF ?_ fun h902 => ?_
  · with_reducible assumption
  conv => whnf
  refine Bif.knF ?_ fun h903 => ?_
  · with_reducible assumption
  conv => whnf
  rw [hT]
  conv => whnf
  refine Bif.knF ?_ fun h904 => ?_
  · with_reducible assumption
  conv => whnf
  refine Bif.knF ?_ fun h905 => ?_
  · with_reducible assumption
  conv => whnf
  rw [w2]
  conv => whnf
  refine Bif.knF ?_ fun h906 => ?_
  · with_reducible assumption
  conv => whnf
  refine Req.of ?_ ?_
  · assumption
  conv => whnf
  refine Bif.knF ?_ fun h907 => ?_
  · with_reducible assumption
  conv => whnf
  refine getF_memV (o := (256 + T).toNat) M2 (by show 0 + (256 + T).toNat * 1 = _; omega) l2 ?_
  conv => whnf
  rw [e2]
  conv => whnf
  refine Bif.knF ?_ fun h908 => ?_
  · with_reducible assumption
  conv => whnf
  refine Bif.knF ?_ fun h909 => ?_
  · with_reducible assumption
  conv => whnf
  refine Bif.knF ?_ fun h910 => ?_
  · with_reducible assumption
  conv => whnf
  refine Bif.knF ?_ fun h911 => ?_
  · with_reducible assumption
  conv => whnf
  refine Bif.knF ?_ fun h912 => ?_
  · exact o1 _
  conv => whnf
  refine ACalls.useE (k3) [3, 1] rfl (by (conv => whnf); (first | done | rfl | ((first | refine renL_flat q0 ?_ | refine renL_flat q1 ?_ | refine renL_flat q2 ?_ | refine renL_flat q3 ?_ | refine renL_flat q4 ?_ | refine renL_flat q5 ?_ | refine renL_flat q6 ?_); (conv => whnf); (first | done | rfl | ((first | refine renL_flat z0 ?_ | refine renL_flat z1 ?_ | refine renL_flat z2 ?_ | refine renL_flat z3 ?_ | refine renL_flat z4 ?_ | refine renL_flat z5 ?_ | refine renL_flat z6 ?_ | refine renL_flat z7 ?_ | refine renL_flat z8 ?_); (conv => whnf); try rfl))))) (by (conv => whnf); try rfl) ?_
  conv => whnf
  refine renL_flat q3 ?_
  conv => whnf
  refine renL_flat z3 ?_
  conv => whnf
  refine ACalls.useE (k4) [3, 1] rfl (by (conv => whnf); (first | done | rfl | ((first | refine renL_flat q0 ?_ | refine renL_flat q1 ?_ | refine renL_flat q2 ?_ | refine renL_flat q3 ?_ | refine renL_flat q4 ?_ | refine renL_flat q5 ?_ | refine renL_flat q6 ?_); (conv => whnf); (first | done | rfl | ((first | refine renL_flat z0 ?_ | refine renL_flat z1 ?_ | refine renL_flat z2 ?_ | refine renL_flat z3 ?_ | refine renL_flat z4 ?_ | refine renL_flat z5 ?_ | refine renL_flat z6 ?_ | refine renL_flat z7 ?_ | refine renL_flat z8 ?_); (conv => whnf); try rfl))))) (by (conv => whnf); try rfl) ?_
  conv => whnf
  refine renL_flat q4 ?_
  conv => whnf
  refine renL_flat z4 ?_
  conv => whnf
  refine ACalls.useE (g4) [3] rfl (by (conv => whnf); (first | done | rfl | ((first | refine renL_flat q0 ?_ | refine renL_flat q1 ?_ | refine renL_flat q2 ?_ | refine renL_flat q3 ?_ | refine renL_flat q4 ?_ | refine renL_flat q5 ?_ | refine renL_flat q6 ?_); (conv => whnf); (first | done | rfl | ((first | refine renL_flat z0 ?_ | refine renL_flat z1 ?_ | refine renL_flat z2 ?_ | refine renL_flat z3 ?_ | refine renL_flat z4 ?_ | refine renL_flat z5 ?_ | refine renL_flat z6 ?_ | refine renL_flat z7 ?_ | refine renL_flat z8 ?_); (conv => whnf); try rfl))))) (by (conv => whnf); try rfl) ?_
  conv => whnf
  refine renL_flat q4 ?_
  conv => whnf
  refine Bif.knF ?_ fun h913 => ?_
  · with_reducible assumption
  conv => whnf
  refine Bif.knF ?_ fun h914 => ?_
  · with_reducible assumption
  conv => whnf
  refine Bif.knF ?_ fun h915 => ?_
  · with_reducible assumption
  conv => whnf
  refine Bif.knF ?_ fun h916 => ?_
  · with_reducible assumption
  conv => whnf
  refine Bif.knF ?_ fun h917 => ?_
  · with_reducible assumption
  conv => whnf
  refine Bif.knF ?_ fun h918 => ?_
  · with_reducible assumption
  conv => whnf
  refine Bif.knF ?_ fun h919 => ?_
  · exact o1 _
  conv => whnf
  refine Bif.knF ?_ fun h920 => ?_
  · with_reducible assumption
  conv => whnf
  refine Bif.knF ?_ fun h921 => ?_
  · with_reducible assumption
  conv => whnf
  refine Bif.knF ?_ fun h922 => ?_
  · with_reducible assumption
  conv => whnf
  refine Bif.knF ?_ fun h923 => ?_
  · with_reducible assumption
  conv => whnf
  refine Bif.knF ?_ fun h924 => ?_
  · with_reducible assumption
  conv => whnf
  refine Bif.knF ?_ fun h925 => ?_
  · exact o1 _
  conv => whnf
  refine Bif.knF ?_ fun h926 => ?_
  · with_reducible assumption
  conv => whnf
  refine Bif.knF ?_ fun h927 => ?_
  · with_reducible assumption
  conv => whnf
  refine Bif.knF ?_ fun h928 => ?_
  · with_reducible assumption
  conv => whnf
  refine Bif.knF ?_ fun h929 => ?_
  · with_reducible assumption
  conv => whnf
  refine Bif.knF ?_ fun h930 => ?_
  · with_reducible assumption
  conv => whnf
  refine Bif.knF ?_ fun h931 => ?_
  · exact o1 _
  conv => whnf
  refine Bif.knF ?_ fun h932 => ?_
  · with_reducible assumption
  conv => whnf
  refine Bif.knF ?_ fun h933 => ?_
  · with_reducible assumption
  conv => whnf
  refine Bif.knF ?_ fun h934 => ?_
  · with_reducible assumption
  conv => whnf
  refine Bif.knF ?_ fun h935 => ?_
  · with_reducible assumption
  conv => whnf
  refine putF_memV [32, 0, 24] (o := 4096) M4 hm5 rfl (by decide) ?_
  conv => whnf
  refine putF_memV1 (o := 6144) M5 hm6 rfl (by decide) ?_
  conv => whnf
  refine ACalls.useE (kA) [] rfl (by (conv => whnf); (first | done | rfl | ((first | refine renL_flat q0 ?_ | refine renL_flat q1 ?_ | refine renL_flat q2 ?_ | refine renL_flat q3 ?_ | refine renL_flat q4 ?_ | refine renL_flat q5 ?_ | refine renL_flat q6 ?_); (conv => whnf); (first | done | rfl | ((first | refine renL_flat z0 ?_ | refine renL_flat z1 ?_ | refine renL_flat z2 ?_ | refine renL_flat z3 ?_ | refine renL_flat z4 ?_ | refine renL_flat z5 ?_ | refine renL_flat z6 ?_ | refine renL_flat z7 ?_ | refine renL_flat z8 ?_); (conv => whnf); try rfl))))) (by (conv => whnf); try rfl) ?_
  conv => whnf
  refine renL_flat q0 ?_
  conv => whnf
  refine ACalls.useE (k5) [6, 1] rfl (by (conv => whnf); (first | done | rfl | ((first | refine renL_flat q0 ?_ | refine renL_flat q1 ?_ | refine renL_flat q2 ?_ | refine renL_flat q3 ?_ | refine renL_flat q4 ?_ | refine renL_flat q5 ?_ | refine renL_flat q6 ?_); (conv => whnf); (first | done | rfl | ((first | refine renL_flat z0 ?_ | refine renL_flat z1 ?_ | refine renL_flat z2 ?_ | refine renL_flat z3 ?_ | refine renL_flat z4 ?_ | refine renL_flat z5 ?_ | refine renL_flat z6 ?_ | refine renL_flat z7 ?_ | refine renL_flat z8 ?_); (conv => whnf); try rfl))))) (by (conv => whnf); try rfl) ?_
  conv => whnf
  refine renL_flat q5 ?_
  conv => whnf
  refine renL_flat z7 ?_
  conv => whnf
  refine ACalls.useE (k6) [6, 1] rfl (by (conv => whnf); (first | done | rfl | ((first | refine renL_flat q0 ?_ | refine renL_flat q1 ?_ | refine renL_flat q2 ?_ | refine renL_flat q3 ?_ | refine renL_flat q4 ?_ | refine renL_flat q5 ?_ | refine renL_flat q6 ?_); (conv => whnf); (first | done | rfl | ((first | refine renL_flat z0 ?_ | refine renL_flat z1 ?_ | refine renL_flat z2 ?_ | refine renL_flat z3 ?_ | refine renL_flat z4 ?_ | refine renL_flat z5 ?_ | refine renL_flat z6 ?_ | refine renL_flat z7 ?_ | refine renL_flat z8 ?_); (conv => whnf); try rfl))))) (by (conv => whnf); try rfl) ?_
  conv => whnf
  refine renL_flat q6 ?_
  conv => whnf
  refine renL_flat z8 ?_
  conv => whnf
  refine ACalls.useE (g6) [6] rfl (by (conv => whnf); (first | done | rfl | ((first | refine renL_flat q0 ?_ | refine renL_flat q1 ?_ | refine renL_flat q2 ?_ | refine renL_flat q3 ?_ | refine renL_flat q4 ?_ | refine renL_flat q5 ?_ | refine renL_flat q6 ?_); (conv => whnf); (first | done | rfl | ((first | refine renL_flat z0 ?_ | refine renL_flat z1 ?_ | refine renL_flat z2 ?_ | refine renL_flat z3 ?_ | refine renL_flat z4 ?_ | refine renL_flat z5 ?_ | refine renL_flat z6 ?_ | refine renL_flat z7 ?_ | refine renL_flat z8 ?_); (conv => whnf); try rfl))))) (by (conv => whnf); try rfl) ?_
  conv => whnf
  refine renL_flat q6 ?_
  conv => whnf
  refine Bif.knT ?_ fun h936 => ?_
  · exact o2 _
  conv => whnf
  refine Bif.knT ?_ fun h937 => ?_
  · with_reducible assumption
  conv => whnf
  refine Bif.knT ?_ fun h938 => ?_
  · with_reducible assumption
  conv => whnf
  refine Bif.knT ?_ fun h939 => ?_
  · with_reducible assumption
  conv => whnf
  refine Bif.knT ?_ fun h940 => ?_
  · with_reducible assumption
  conv => whnf
  refine Bif.knT ?_ fun h941 => ?_
  · with_reducible assumption
  conv => whnf
  refine Bif.knT ?_ fun h942 => ?_
  · exact o2 _
  conv => whnf
  refine Bif.knT ?_ fun h943 => ?_
  · with_reducible assumption
  conv => whnf
  refine Bif.knT ?_ fun h944 => ?_
  · with_reducible assumption
  conv => whnf
  refine Bif.knT ?_ fun h945 => ?_
  · with_reducible assumption
  conv => whnf
  refine Bif.knT ?_ fun h946 => ?_
  · with_reducible assumption
  conv => whnf
  (rw [o2 p])
end Go.Proofs
