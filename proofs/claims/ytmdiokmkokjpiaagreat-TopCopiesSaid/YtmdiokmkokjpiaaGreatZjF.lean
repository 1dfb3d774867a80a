/-
  Walks through the functions of the program, by contract.
-/
import Derived.Test.YtmdiokmkokjpiaaGreatZiF
set_option linter.all false
set_option linter.unusedVariables false
set_option linter.unusedSimpArgs false
set_option linter.unnecessarySimpa false
namespace Go.Proofs
open Go.Aw
set_option maxRecDepth 100000
set_option maxHeartbeats 8000000
/-! The voices at power-on, the pots -/
abbrev vcH (a b : Int) (h : Bool) : List Blk := [.cells [.int .u8 0, .int .u8 0, .int .u8 0, .pointer (some ⟨1, 0, none⟩), .pointer (some ⟨2, 0, none⟩), .pointer (some ⟨3, 0, none⟩), .int .i64 0, .bool h] 110, .cells [.int .u8 a, .int .i64 4, .int .i64 1] 127, .cells [.int .u8 b, .int .i64 5, .int .i64 2] 127, .cells [.int .u16 0, .int .i64 9, .int .i64 4] 129]
theorem vc_tick (a b : Int) (h : Bool) : ACalls Tryz.prog 44 [.pointer (some ⟨0, 0, none⟩)] (vcH a b h) fun v H => v = .tuple #[] ∧ H = vcH (nx8 4 1 a) (nx8 5 2 b) (lb8 a) := by
  refine ACalls.code tabOk h44 Tryz.func44 Tryz.call44 ok44 ?_
  conv => whnf
  refine ACalls.code tabOk h75 Tryz.func75 Tryz.call75 ok75 ?_
  conv => whnf
  refine ⟨rfl, ?_⟩
  conv => whnf
  refine ACalls.code tabOk h76 Tryz.func76 Tryz.call76 ok76 ?_
  conv => whnf
  refine ACalls.useE (falls8 _ _ _ ?_) [2] rfl (by (conv => whnf); try rfl) (by (conv => whnf); try rfl) ?_
  · decide
  conv => whnf
  refine ACalls.useE (falls8 _ _ _ ?_) [1] rfl (by (conv => whnf); try rfl) (by (conv => whnf); try rfl) ?_
  · decide
  conv => whnf
  exact ⟨rfl, rfl⟩
theorem vc_level (a b : Int) (h : Bool) : ACalls Tryz.prog 45 [.pointer (some ⟨0, 0, none⟩)] (vcH a b h) fun v H => v = .int .u8 0 ∧ H = vcH a b h := by
  cases h
  · refine ACalls.code tabOk h45 Tryz.func45 Tryz.call45 ok45 ?_
    conv => whnf
    exact ⟨rfl, rfl⟩
  · refine ACalls.code tabOk h45 Tryz.func45 Tryz.call45 ok45 ?_
    conv => whnf
    exact ⟨rfl, rfl⟩
abbrev ptB (q : Nat) : Blk := .cells [.int .u8 0, .int .u8 0, .int .u8 0, .int .u8 0, .int .i64 q, .bool false, .bool true, .bool true, .bool true, .bool true, .bool false] 100
theorem pt_new : ACalls Tryz.prog 17 [] [] fun v H => v = .pointer (some ⟨0, 0, none⟩) ∧ H = [ptB 0] := by
  refine ACalls.codeN tabOk h17 Tryz.func17 Tryz.call17 ok17 [1] ?_
  conv => whnf
  exact ⟨rfl, rfl⟩
theorem pt_line (q : Nat) (hq : q ≤ 511) : ACalls Tryz.prog 35 [.pointer (some ⟨0, 0, none⟩)] [ptB q] fun v H => v = .tuple #[] ∧ H = [ptB (min (q + 1) 511)] := by
  have emin : (if (511 : Int) < IntKind.i64.wrap ((q : Int) + 1) then (511 : Int) else IntKind.i64.wrap ((q : Int) + 1)) = ((min (q + 1) 511 : Nat) : Int) := by
    rw [wrap64 (by omega) (by omega)]; split <;> omega
  refine ACalls.code tabOk h35 Tryz.func35 Tryz.call35 ok35 ?_
  conv => whnf
  (dsimp only; rw [emin]; exact ⟨rfl, rfl⟩)
/-! The registers: 64 bytes -/
structure Rg (L : List Value) : Prop where
  len : L.length = 64
  byte : ∀ j, j < 64 → ∃ x : Int, L[j]? = some (.int .u8 x) ∧ 0 ≤ x ∧ x ≤ 255
@[irreducible] def rg (L : List Value) (j : Nat) : Int := match L[j]? with | some (.int _ x) => x | _ => 0
@[irreducible] def wrg (L : List Value) (j : Nat) (x : Int) : List Value := L.set j (.int .u8 x)
theorem Rg.at {L : List Value} (h : Rg L) {j : Nat} (hj : j < 64) : L[j]? = some (.int .u8 (rg L j)) := by
  obtain ⟨x, hx, _⟩ := h.byte j hj
  unfold rg; rw [hx]
theorem Rg.le {L : List Value} (h : Rg L) {j : Nat} (hj : j < 64) : 0 ≤ rg L j ∧ rg L j ≤ 255 := by
  obtain ⟨x, hx, h2⟩ := h.byte j hj
  unfold rg; rw [hx]; exact h2
theorem wrg_at {L : List Value} (h : Rg L) {j i : Nat} {x : Int} (hi : i < 64) : (wrg L j x)[i]? = some (.int .u8 (if i = j then x else rg L i)) := by
  unfold wrg
  rw [List.getElem?_set, h.len]
  by_cases e : i = j
  · subst e; rw [if_pos rfl, if_pos rfl]; simp [hi]
  · rw [if_neg (fun e2 => e e2.symm), if_neg e, h.at hi]
theorem Rg.wr {L : List Value} (h : Rg L) (j : Nat) {x : Int} (hx : 0 ≤ x ∧ x ≤ 255) : Rg (wrg L j x) := by
  refine ⟨by unfold wrg; rw [List.length_set, h.len], fun i hi => ⟨_, wrg_at h hi, ?_⟩⟩
  split
  · exact hx
  · exact h.le hi
theorem rg_wr {L : List Value} (h : Rg L) {j i : Nat} {x : Int} (hi : i < 64) : rg (wrg L j x) i = if i = j then x else rg L i := by
  conv => lhs; unfold rg
  rw [wrg_at h hi]
theorem Rg.flat {L : List Value} (h : Rg L) : ∀ v ∈ L, flatV v = true := by
  intro v hv
  obtain ⟨i, hi⟩ := List.mem_iff_getElem?.1 hv
  have hl : i < 64 := by have := (List.getElem?_eq_some_iff.1 hi).1; rwa [h.len] at this
  rw [h.at hl] at hi
  cases hi; rfl
theorem Rg.all {L : List Value} (h : Rg L) {f : Value → Bool} (hf : ∀ x : Int, f (.int .u8 x) = true) : L.all f = true := by
  rw [List.all_eq_true]
  intro v hv
  obtain ⟨i, hi⟩ := List.mem_iff_getElem?.1 hv
  have hl : i < 64 := by have := (List.getElem?_eq_some_iff.1 hi).1; rwa [h.len] at this
  rw [h.at hl] at hi
  cases hi; exact hf _
theorem getF_rg {A L R : List Value} (h : Rg L) (j : Nat) {o : Nat} {k : Value → Prop} (ho : o = A.length + j) (hj : j < 64) (hk : k (.int .u8 (rg L j))) : getF (recC A L R) o k := getF_mid h.len j _ ho hj (h.at hj) hk
theorem putF_rg {A L R : List Value} (h : Rg L) (j : Nat) {o : Nat} {x : Int} {k : List Value → Prop} (ho : o = A.length + j) (hj : j < 64) (hk : k (recC A (wrg L j x) R)) : putF (recC A L R) o [.int .u8 x] k := putF_mid1 h.len j ho hj (by unfold wrg at hk; exact hk)
/-! The chip -/
/-- A thing. -/
structure TH where
  p : Nat
  ln : Nat
  sc : Nat
structure TH.Ok (t : TH) : Prop where
  p : t.p < 160
  ln : t.ln < 256
  sc : t.sc ≤ 255
structure VC where
  a : Int
  b : Int
  h : Bool
/-- All that a chip has. -/
structure TS where
  c : Nat
  late : Bool
  m : MS
  t0 : TH
  t1 : TH
  t2 : TH
  t3 : TH
  t4 : TH
  v0 : VC
  v1 : VC
  q : Nat
  L : List Value
  g00 : Int
  g01 : Int
  g10 : Int
  g11 : Int
  b0 : Bool
  b1 : Bool
  met : Int
  wait : Bool
def tsA : List Value := [.pointer (some ⟨1, 0, none⟩), .pointer (some ⟨2, 0, none⟩), .pointer (some ⟨3, 0, none⟩), .pointer (some ⟨4, 0, none⟩), .pointer (some ⟨5, 0, none⟩), .pointer (some ⟨6, 0, none⟩), .pointer (some ⟨7, 0, none⟩), .pointer (some ⟨8, 0, none⟩), .pointer (some ⟨9, 0, none⟩), .pointer (some ⟨10, 0, none⟩)]
def tsR (s : TS) : List Value := [.int .u8 s.g00, .int .u8 s.g01, .int .u8 s.g10, .int .u8 s.g11, .bool s.b0, .bool s.b1, .int .u16 s.met, .bool s.wait]
/-- The chip's heap, named as it is met from the chip on. -/
def tsH (s : TS) : List Blk := [.cells (recC tsA s.L (tsR s)) 61, .cells [.pointer (some ⟨11, 0, none⟩), .pointer (some ⟨12, 0, none⟩), .bool s.late] 93, s.m.blk, .cells [.pointer (some ⟨13, 0, none⟩), .int .u16 (s.t0.ln : Nat), .int .i64 (s.t0.sc : Nat)] 104, .cells [.pointer (some ⟨14, 0, none⟩), .int .u16 (s.t1.ln : Nat), .int .i64 (s.t1.sc : Nat)] 104, .cells [.pointer (some ⟨15, 0, none⟩), .int .u16 (s.t2.ln : Nat), .int .i64 (s.t2.sc : Nat)] 104, .cells [.pointer (some ⟨16, 0, none⟩), .int .u16 (s.t3.ln : Nat), .int .i64 (s.t3.sc : Nat)] 104, .cells [.pointer (some ⟨17, 0, none⟩), .int .u16 (s.t4.ln : Nat), .int .i64 (s.t4.sc : Nat)] 104, .cells [.int .u8 0, .int .u8 0, .int .u8 0, .pointer (some ⟨18, 0, none⟩), .pointer (some ⟨19, 0, none⟩), .pointer (some ⟨20, 0, none⟩), .int .i64 0, .bool s.v0.h] 110, .cells [.int .u8 0, .int .u8 0, .int .u8 0, .pointer (some ⟨21, 0, none⟩), .pointer (some ⟨22, 0, none⟩), .pointer (some ⟨23, 0, none⟩), .int .i64 0, .bool s.v1.h] 110, ptB s.q, .cells [.int .i64 (s.c % 4 : Nat), .int .i64 4] 120, .cells [.pointer (some ⟨24, 0, none⟩), .int .u8 20, .int .i64 57] 122, .cells [.pointer (some ⟨25, 0, none⟩), .pointer (some ⟨26, 0, none⟩)] 125, .cells [.pointer (some ⟨27, 0, none⟩), .pointer (some ⟨28, 0, none⟩)] 125, .cells [.pointer (some ⟨29, 0, none⟩), .pointer (some ⟨30, 0, none⟩)] 125, .cells [.pointer (some ⟨31, 0, none⟩), .pointer (some ⟨32, 0, none⟩)] 125, .cells [.pointer (some ⟨33, 0, none⟩), .pointer (some ⟨34, 0, none⟩)] 125, .cells [.int .u8 s.v0.a, .int .i64 4, .int .i64 1] 127, .cells [.int .u8 s.v0.b, .int .i64 5, .int .i64 2] 127, .cells [.int .u16 0, .int .i64 9, .int .i64 4] 129, .cells [.int .u8 s.v1.a, .int .i64 4, .int .i64 1] 127, .cells [.int .u8 s.v1.b, .int .i64 5, .int .i64 2] 127, .cells [.int .u16 0, .int .i64 9, .int .i64 4] 129, .cells [.int .u8 (mk (s.c / 4)), .int .i64 6, .int .i64 1] 127, .cells [.int .i64 (s.t0.p % 4 : Nat), .int .i64 4] 120, .cells [.pointer (some ⟨35, 0, none⟩), .int .u8 45, .int .i64 40] 122, .cells [.int .i64 (s.t1.p % 4 : Nat), .int .i64 4] 120, .cells [.pointer (some ⟨36, 0, none⟩), .int .u8 45, .int .i64 40] 122, .cells [.int .i64 (s.t2.p % 4 : Nat), .int .i64 4] 120, .cells [.pointer (some ⟨37, 0, none⟩), .int .u8 45, .int .i64 40] 122, .cells [.int .i64 (s.t3.p % 4 : Nat), .int .i64 4] 120, .cells [.pointer (some ⟨38, 0, none⟩), .int .u8 45, .int .i64 40] 122, .cells [.int .i64 (s.t4.p % 4 : Nat), .int .i64 4] 120, .cells [.pointer (some ⟨39, 0, none⟩), .int .u8 45, .int .i64 40] 122, .cells [.int .u8 (mk (s.t0.p / 4)), .int .i64 6, .int .i64 1] 127, .cells [.int .u8 (mk (s.t1.p / 4)), .int .i64 6, .int .i64 1] 127, .cells [.int .u8 (mk (s.t2.p / 4)), .int .i64 6, .int .i64 1] 127, .cells [.int .u8 (mk (s.t3.p / 4)), .int .i64 6, .int .i64 1] 127, .cells [.int .u8 (mk (s.t4.p / 4)), .int .i64 6, .int .i64 1] 127]
structure TS.Ok (s : TS) : Prop where
  c : s.c < 228
  mc : 0 ≤ s.m.c ∧ s.m.c ≤ 16
  mg : 0 ≤ s.m.g ∧ s.m.g ≤ 3
  t0 : s.t0.Ok
  t1 : s.t1.Ok
  t2 : s.t2.Ok
  t3 : s.t3.Ok
  t4 : s.t4.Ok
  q : s.q ≤ 511
  L : Rg s.L
  g00 : 0 ≤ s.g00 ∧ s.g00 ≤ 255
  g01 : 0 ≤ s.g01 ∧ s.g01 ≤ 255
  g10 : 0 ≤ s.g10 ∧ s.g10 ≤ 255
  g11 : 0 ≤ s.g11 ∧ s.g11 ≤ 255
  met : 0 ≤ s.met ∧ s.met ≤ 65535
def ts0 (c : Nat) (L : List Value) : TS := ⟨c, false, ⟨16, 0, false, false, false, false, false⟩, ⟨0, 0, 255⟩, ⟨0, 0, 255⟩, ⟨0, 0, 255⟩, ⟨0, 0, 255⟩, ⟨0, 0, 255⟩, ⟨0, 0, false⟩, ⟨0, 0, false⟩, 0, L, 0, 0, 0, 0, false, false, 0, false⟩
theorem ts0_ok {c : Nat} (hc : c < 228) {L : List Value} (hL : Rg L) : (ts0 c L).Ok := ⟨hc, show (0 : Int) ≤ 16 ∧ (16 : Int) ≤ 16 from by decide, show (0 : Int) ≤ 0 ∧ (0 : Int) ≤ 3 from by decide, ⟨show 0 < 160 from by decide, show 0 < 256 from by decide, show 255 ≤ 255 from by decide⟩, ⟨show 0 < 160 from by decide, show 0 < 256 from by decide, show 255 ≤ 255 from by decide⟩, ⟨show 0 < 160 from by decide, show 0 < 256 from by decide, show 255 ≤ 255 from by decide⟩, ⟨show 0 < 160 from by decide, show 0 < 256 from by decide, show 255 ≤ 255 from by decide⟩, ⟨show 0 < 160 from by decide, show 0 < 256 from by decide, show 255 ≤ 255 from by decide⟩, show 0 ≤ 511 from by decide, hL, show (0 : Int) ≤ 0 ∧ (0 : Int) ≤ 255 from by decide, show (0 : Int) ≤ 0 ∧ (0 : Int) ≤ 255 from by decide, show (0 : Int) ≤ 0 ∧ (0 : Int) ≤ 255 from by decide, show (0 : Int) ≤ 0 ∧ (0 : Int) ≤ 255 from by decide, show (0 : Int) ≤ 0 ∧ (0 : Int) ≤ 65535 from by decide⟩
theorem Rg.zero : Rg (List.replicate 64 (.int .u8 0)) := ⟨by simp, fun j hj => ⟨0, by rw [List.getElem?_replicate, if_pos hj], by decide, by decide⟩⟩
theorem tia_new0 (c : Nat) (hc : c < 228) : ACalls Tryz.prog 7 [.int .i64 c] [] fun v H => v = .pointer (some ⟨0, 0, none⟩) ∧ H = tsH (ts0 c (List.replicate 64 (.int .u8 0))) := by
  refine ACalls.codeN tabOk h7 Tryz.func7 Tryz.call7 ok7 [6, 0, 4, 7, 12, 17, 22, 27, 32, 36, 5, 1, 2, 8, 13, 18, 23, 28, 33, 34, 35, 37, 38, 39, 3, 9, 10, 14, 15, 19, 20, 24, 25, 29, 30, 11, 16, 21, 26, 31] ?_
  conv => whnf
  refine ACalls.useE (bm_new _ ?_) [] rfl (by (conv => whnf); try rfl) (by (conv => whnf); try rfl) ?_
  · omega
  conv => whnf
  refine ACalls.useE (motion_new) [] rfl (by (conv => whnf); try rfl) (by (conv => whnf); try rfl) ?_
  conv => whnf
  refine ACalls.useE (pt_new) [] rfl (by (conv => whnf); try rfl) (by (conv => whnf); try rfl) ?_
  conv => whnf
  refine ALoop.run 6 ?_
  conv => whnf
  refine ACalls.useE (th_new) [] rfl (by (conv => whnf); try rfl) (by (conv => whnf); try rfl) ?_
  conv => whnf
  refine ACalls.useE (th_new) [] rfl (by (conv => whnf); try rfl) (by (conv => whnf); try rfl) ?_
  conv => whnf
  refine ACalls.useE (th_new) [] rfl (by (conv => whnf); try rfl) (by (conv => whnf); try rfl) ?_
  conv => whnf
  refine ACalls.useE (th_new) [] rfl (by (conv => whnf); try rfl) (by (conv => whnf); try rfl) ?_
  conv => whnf
  refine ACalls.useE (th_new) [] rfl (by (conv => whnf); try rfl) (by (conv => whnf); try rfl) ?_
  conv => whnf
  refine ALoop.run 6 ?_
  conv => whnf
  refine ACalls.useE (tone_new) [] rfl (by (conv => whnf); try rfl) (by (conv => whnf); try rfl) ?_
  conv => whnf
  refine ACalls.useE (tone_new) [] rfl (by (conv => whnf); try rfl) (by (conv => whnf); try rfl) ?_
  conv => whnf
  (unfold tsH; rw [recC_eq]; exact ⟨rfl, rfl⟩)
end Go.Proofs
