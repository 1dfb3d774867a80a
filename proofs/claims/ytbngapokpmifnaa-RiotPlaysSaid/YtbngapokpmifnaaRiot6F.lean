/-
  Walks through the functions of the program, by contract.
-/
import Derived.Test.YtbngapokpmifnaaRiot4F
set_option linter.all false
set_option linter.unusedVariables false
set_option linter.unusedSimpArgs false
set_option linter.unnecessarySimpa false
namespace Go.Proofs
open Go.Aw
set_option maxRecDepth 100000
set_option maxHeartbeats 8000000
def rsTicks : Nat → RS → RS
  | 0, s => s
  | n + 1, s => rsTick (rsTicks n s)
theorem RS.Ok.ticks {s : RS} (h : s.Ok) : ∀ n, (rsTicks n s).Ok
  | 0 => h
  | n + 1 => (h.ticks n).tick
@[irreducible] def rsTicksI (n : Nat) (s : RS) : RS := rsTicks n s
theorem rsTicksI_zero (s : RS) : rsTicksI 0 s = s := by unfold rsTicksI; rfl
theorem rsTicksI_succ (n : Nat) (s : RS) : rsTick (rsTicksI n s) = rsTicksI (n + 1) s := by unfold rsTicksI; rfl
theorem RS.Ok.ticksI {s : RS} (h : s.Ok) (n : Nat) : (rsTicksI n s).Ok := by unfold rsTicksI; exact h.ticks n
/-- What an act does. -/
@[irreducible] def rsDo (s : RS) (K n a x y : Int) : RS :=
  if K = 0 then rsTicksI n.toNat s else if K = 1 ∨ K = 2 then rsRead s a else if K = 3 ∨ K = 4 then rsStore s a x else rsIn s x y
@[irreducible] def rsRes (s : RS) (K a : Int) : Int := if K = 1 ∨ K = 2 then rsOut s a else 0
theorem RS.Ok.act {s : RS} (h : s.Ok) (K n a : Int) {x y : Int} (hx : 0 ≤ x ∧ x ≤ 255) (hy : 0 ≤ y ∧ y ≤ 255) : (rsDo s K n a x y).Ok := by
  unfold rsDo
  split
  · exact h.ticksI _
  · split
    · exact h.read _
    · split
      · exact h.store _ hx
      · exact h.inp hx hy
theorem did0 (s : RS) (hs : s.Ok) (kd cy ad x y : Int) (hcy : 0 ≤ cy ∧ cy ≤ 65535) (had : 0 ≤ ad ∧ ad ≤ 65535) (hx : 0 ≤ x ∧ x ≤ 255) (hy : 0 ≤ y ∧ y ≤ 255) (hK : (IntKind.i64.wrap (kd.tmod 6 + 6)).tmod 6 = 0) : ACalls Try.prog 49 [.pointer (some ⟨0, 0, none⟩), .agg #[.int .i64 kd, .int .u16 cy, .int .u16 ad, .int .u8 x, .int .u8 y]] (rsHeap s) fun r H => r = .int .u8 (0) ∧ H = rsHeap (rsTicksI (cy % 300).toNat s) := by
  have hN : (IntKind.i64.wrap cy).tmod 300 = cy % 300 := by rw [wrap64 (by omega) (by omega), Int.tmod_eq_emod_of_nonneg (by omega)]
  refine ACalls.code tabOk h49 Try.func49 Try.call49 ok49 ?_
  conv => whnf
  rw [hK]
  conv => whnf
  refine ALoop.fd (σ := Nat) (fun i => [.pointer (some ⟨0, 0, none⟩), .chan none, .chan none, .pointer (some ⟨5, 0, none⟩), .int .u8 0, .int .i64 i, .chan none, .chan none, .chan none, .chan none, .int .i64 0, .chan none, .chan none, .chan none, .chan none, .chan none, .chan none, .chan none, .chan none, .chan none, .chan none, .chan none, .chan none, .chan none, .chan none, .chan none, .chan none, .chan none, .chan none, .chan none, .chan none, .chan none, .chan none, .chan none, .chan none, .chan none, .chan none, .chan none, .chan none, .chan none, .chan none, .chan none, .chan none, .chan none, .chan none]) (fun i => rsHeap (rsTicksI i s) ++ [.cells [.int .i64 kd, .int .u16 cy, .int .u16 ad, .int .u8 x, .int .u8 y] 72]) (fun i => i ≤ (cy % 300).toNat) (fun i => (cy % 300).toNat - i) 0 [] rfl (by rw [rsTicksI_zero]; rfl) (Nat.zero_le _) (fun i => ⟨rfl, rfl, ?hok, rfl⟩) ?_
  case hok =>
    simp only [rsHeap, List.cons_append, List.nil_append, List.all_cons, List.all_nil, Bool.and_true, Bool.and_eq_true]
    exact ⟨riotC_all (hs.ticksI i).L (fun _ => rfl) rfl, rfl, rfl, rfl, rfl, rfl⟩
  intro i hi R hR
  have hsi := hs.ticksI i
  have hsn := hs.ticksI (i + 1)
  have ei : IntKind.i64.wrap ((i : Int) + 1) = ((i + 1 : Nat) : Int) := by rw [wrap64 (by omega) (by omega)]; rfl
  generalize hq : rsTicksI i s = q at hsi
  conv => whnf
  rw [hN]
  refine Bif.of (fun h0 => ?_) fun h0 => ?_
  · have hlt : (i : Int) < cy % 300 := by simpa using h0
    have hs2 : rsTick q = rsTicksI (i + 1) s := by rw [← hq, rsTicksI_succ]
    conv => whnf
    refine ACalls.useE (riot_tickS q hsi) [0, 1, 2, 3, 4] rfl (by (conv => whnf); first | done | rfl | (refine renL_riot hsi.L rfl ?_; (conv => whnf); first | done | rfl)) (by (conv => whnf); try rfl) ?_
    rw [hs2]
    conv => whnf
    refine renL_riot hsn.L rfl ?_
    conv => whnf
    (rw [ei]; exact hR (i + 1) _ _ [] rfl rfl (by omega) (by omega))
  · have hlt : ¬ (i : Int) < cy % 300 := by simpa using h0
    have hn2 : (cy % 300).toNat = i := by omega
    clear hR
    rw [hn2, hq]
    conv => whnf
    refine Req.of ?_ ?_
    · exact riotC_all hsi.L (fun _ => rfl) rfl
    conv => whnf
    exact ⟨rfl, rfl⟩
theorem did1 (s : RS) (hs : s.Ok) (kd cy ad x y : Int) (hcy : 0 ≤ cy ∧ cy ≤ 65535) (had : 0 ≤ ad ∧ ad ≤ 65535) (hx : 0 ≤ x ∧ x ≤ 255) (hy : 0 ≤ y ∧ y ≤ 255) (hK : (IntKind.i64.wrap (kd.tmod 6 + 6)).tmod 6 = 1) : ACalls Try.prog 49 [.pointer (some ⟨0, 0, none⟩), .agg #[.int .i64 kd, .int .u16 cy, .int .u16 ad, .int .u8 x, .int .u8 y]] (rsHeap s) fun r H => r = .int .u8 (rsOut s (ad % 1024)) ∧ H = rsHeap (rsRead s (ad % 1024)) := by
  have hN := hs.read (ad % 1024)
  refine ACalls.code tabOk h49 Try.func49 Try.call49 ok49 ?_
  conv => whnf
  rw [hK]
  conv => whnf
  refine ACalls.useE (riot_readS s hs _ had) [0, 1, 2, 3, 4] rfl (by (conv => whnf); first | done | rfl | (refine renL_riot hs.L rfl ?_; (conv => whnf); first | done | rfl)) (by (conv => whnf); try rfl) ?_
  conv => whnf
  refine renL_riot hN.L rfl ?_
  conv => whnf
  refine Req.of ?_ ?_
  · exact riotC_all hN.L (fun _ => rfl) rfl
  conv => whnf
  exact ⟨rfl, rfl⟩
theorem did2 (s : RS) (hs : s.Ok) (kd cy ad x y : Int) (hcy : 0 ≤ cy ∧ cy ≤ 65535) (had : 0 ≤ ad ∧ ad ≤ 65535) (hx : 0 ≤ x ∧ x ≤ 255) (hy : 0 ≤ y ∧ y ≤ 255) (hK : (IntKind.i64.wrap (kd.tmod 6 + 6)).tmod 6 = 2) : ACalls Try.prog 49 [.pointer (some ⟨0, 0, none⟩), .agg #[.int .i64 kd, .int .u16 cy, .int .u16 ad, .int .u8 x, .int .u8 y]] (rsHeap s) fun r H => r = .int .u8 (rsOut s (ad % 1024)) ∧ H = rsHeap (rsRead s (ad % 1024)) := by
  have hN := hs.read (ad % 1024)
  refine ACalls.code tabOk h49 Try.func49 Try.call49 ok49 ?_
  conv => whnf
  rw [hK]
  conv => whnf
  refine ACalls.useE (riot_readS s hs _ had) [0, 1, 2, 3, 4] rfl (by (conv => whnf); first | done | rfl | (refine renL_riot hs.L rfl ?_; (conv => whnf); first | done | rfl)) (by (conv => whnf); try rfl) ?_
  conv => whnf
  refine renL_riot hN.L rfl ?_
  conv => whnf
  refine Req.of ?_ ?_
  · exact riotC_all hN.L (fun _ => rfl) rfl
  conv => whnf
  exact ⟨rfl, rfl⟩
theorem did3 (s : RS) (hs : s.Ok) (kd cy ad x y : Int) (hcy : 0 ≤ cy ∧ cy ≤ 65535) (had : 0 ≤ ad ∧ ad ≤ 65535) (hx : 0 ≤ x ∧ x ≤ 255) (hy : 0 ≤ y ∧ y ≤ 255) (hK : (IntKind.i64.wrap (kd.tmod 6 + 6)).tmod 6 = 3) : ACalls Try.prog 49 [.pointer (some ⟨0, 0, none⟩), .agg #[.int .i64 kd, .int .u16 cy, .int .u16 ad, .int .u8 x, .int .u8 y]] (rsHeap s) fun r H => r = .int .u8 (0) ∧ H = rsHeap (rsStore s (ad % 1024) x) := by
  have hN := hs.store (ad % 1024) hx
  refine ACalls.code tabOk h49 Try.func49 Try.call49 ok49 ?_
  conv => whnf
  rw [hK]
  conv => whnf
  refine ACalls.useE (riot_storeS s hs _ _ had hx) [0, 1, 2, 3, 4] rfl (by (conv => whnf); first | done | rfl | (refine renL_riot hs.L rfl ?_; (conv => whnf); first | done | rfl)) (by (conv => whnf); try rfl) ?_
  conv => whnf
  refine renL_riot hN.L rfl ?_
  conv => whnf
  refine Req.of ?_ ?_
  · exact riotC_all hN.L (fun _ => rfl) rfl
  conv => whnf
  exact ⟨rfl, rfl⟩
theorem did4 (s : RS) (hs : s.Ok) (kd cy ad x y : Int) (hcy : 0 ≤ cy ∧ cy ≤ 65535) (had : 0 ≤ ad ∧ ad ≤ 65535) (hx : 0 ≤ x ∧ x ≤ 255) (hy : 0 ≤ y ∧ y ≤ 255) (hK : (IntKind.i64.wrap (kd.tmod 6 + 6)).tmod 6 = 4) : ACalls Try.prog 49 [.pointer (some ⟨0, 0, none⟩), .agg #[.int .i64 kd, .int .u16 cy, .int .u16 ad, .int .u8 x, .int .u8 y]] (rsHeap s) fun r H => r = .int .u8 (0) ∧ H = rsHeap (rsStore s (ad % 1024) x) := by
  have hN := hs.store (ad % 1024) hx
  refine ACalls.code tabOk h49 Try.func49 Try.call49 ok49 ?_
  conv => whnf
  rw [hK]
  conv => whnf
  refine ACalls.useE (riot_storeS s hs _ _ had hx) [0, 1, 2, 3, 4] rfl (by (conv => whnf); first | done | rfl | (refine renL_riot hs.L rfl ?_; (conv => whnf); first | done | rfl)) (by (conv => whnf); try rfl) ?_
  conv => whnf
  refine renL_riot hN.L rfl ?_
  conv => whnf
  refine Req.of ?_ ?_
  · exact riotC_all hN.L (fun _ => rfl) rfl
  conv => whnf
  exact ⟨rfl, rfl⟩
theorem did5 (s : RS) (hs : s.Ok) (kd cy ad x y : Int) (hcy : 0 ≤ cy ∧ cy ≤ 65535) (had : 0 ≤ ad ∧ ad ≤ 65535) (hx : 0 ≤ x ∧ x ≤ 255) (hy : 0 ≤ y ∧ y ≤ 255) (hK : (IntKind.i64.wrap (kd.tmod 6 + 6)).tmod 6 = 5) : ACalls Try.prog 49 [.pointer (some ⟨0, 0, none⟩), .agg #[.int .i64 kd, .int .u16 cy, .int .u16 ad, .int .u8 x, .int .u8 y]] (rsHeap s) fun r H => r = .int .u8 (0) ∧ H = rsHeap (rsIn s x y) := by
  have hN := hs.inp hx hy
  refine ACalls.code tabOk h49 Try.func49 Try.call49 ok49 ?_
  conv => whnf
  rw [hK]
  conv => whnf
  refine ACalls.useE (riot_inS s hs _ _) [0, 1, 2, 3, 4] rfl (by (conv => whnf); first | done | rfl | (refine renL_riot hs.L rfl ?_; (conv => whnf); first | done | rfl)) (by (conv => whnf); try rfl) ?_
  conv => whnf
  refine renL_riot hN.L rfl ?_
  conv => whnf
  refine Req.of ?_ ?_
  · exact riotC_all hN.L (fun _ => rfl) rfl
  conv => whnf
  exact ⟨rfl, rfl⟩
theorem didS (s : RS) (hs : s.Ok) (kd cy ad x y : Int) (hcy : 0 ≤ cy ∧ cy ≤ 65535) (had : 0 ≤ ad ∧ ad ≤ 65535) (hx : 0 ≤ x ∧ x ≤ 255) (hy : 0 ≤ y ∧ y ≤ 255) : ACalls Try.prog 49 [.pointer (some ⟨0, 0, none⟩), .agg #[.int .i64 kd, .int .u16 cy, .int .u16 ad, .int .u8 x, .int .u8 y]] (rsHeap s) fun r H => r = .int .u8 (rsRes s ((IntKind.i64.wrap (kd.tmod 6 + 6)).tmod 6) (ad % 1024)) ∧ H = rsHeap (rsDo s ((IntKind.i64.wrap (kd.tmod 6 + 6)).tmod 6) (cy % 300) (ad % 1024) x y) := by
  have hk0 : 0 ≤ (IntKind.i64.wrap (kd.tmod 6 + 6)).tmod 6 ∧ (IntKind.i64.wrap (kd.tmod 6 + 6)).tmod 6 ≤ 5 := by
    have h1 := Int.lt_tmod_of_pos kd (show (0 : Int) < 6 by decide)
    have h2 := Int.tmod_lt_of_pos kd (show (0 : Int) < 6 by decide)
    rw [wrap64 (by omega) (by omega), Int.tmod_eq_emod_of_nonneg (by omega)]; omega
  generalize hK : (IntKind.i64.wrap (kd.tmod 6 + 6)).tmod 6 = K at hk0
  have hK' : K = 0 ∨ K = 1 ∨ K = 2 ∨ K = 3 ∨ K = 4 ∨ K = 5 := by omega
  unfold rsDo rsRes
  rcases hK' with rfl | rfl | rfl | rfl | rfl | rfl
  · exact did0 s hs kd cy ad x y hcy had hx hy hK
  · exact did1 s hs kd cy ad x y hcy had hx hy hK
  · exact did2 s hs kd cy ad x y hcy had hx hy hK
  · exact did3 s hs kd cy ad x y hcy had hx hy hK
  · exact did4 s hs kd cy ad x y hcy had hx hy hK
  · exact did5 s hs kd cy ad x y hcy had hx hy hK
end Go.Proofs
