/-
  Walks through the functions of the program, by contract.
-/
import Derived.Test.YtbngapokpmifnaaRtdF
import Derived.Test.YtbngapokpmifnaaRiot8F
set_option linter.all false
set_option linter.unusedVariables false
set_option linter.unusedSimpArgs false
set_option linter.unnecessarySimpa false
namespace Go.Proofs
open Go.Aw
set_option maxRecDepth 100000
set_option maxHeartbeats 8000000
theorem rf_tickS (s : RS) (hs : s.Ok) (t : RT) (ht : t.Ok) : ACalls Try.prog 71 [.agg (recC [] s.L (rfR s t)).toArray] [] fun v H => v = .agg (recC [] (rsTick s).L (rfR (rsTick s) { t with gone := t.gone + 1 })).toArray ∧ H = [] := by
  have e : (rsTick s).L = s.L := by unfold rsTick; rfl
  rw [e]; exact rf_tick s hs t ht
theorem rsTick_tm (s : RS) : (rsTick s).tm = s.tm.tick := by unfold rsTick; rfl
theorem rsIn_tm (s : RS) (x y : Int) : (rsIn s x y).tm = s.tm := by unfold rsIn; rfl
theorem bdv_pairB {A L R : List Value} {n : Nat} {b : Bool} (h : (recC A L R).all (bdv 4 n) = true) : bdv 6 n (.tuple #[.agg (recC A L R).toArray, .bool b]) = true := by
  show ((recC A L R).all (bdv 4 n) && (true && true)) = true
  rw [h]; rfl
def z82 : List Value := List.replicate 128 (.int .u8 0) ++ [.int .i64 0, .int .i64 0, .int .i64 0, .int .i64 0, .int .i64 0, .int .i64 0, .int .i64 0, .int .i64 0, .int .i64 0, .int .i64 0, .bool false, .bool false, .bool false, .bool false, .bool false]
theorem u8_beq (x : Int) : (x == x) = true := by simp
theorem played0 (s : RS) (hs : s.Ok) (t : RT) (ht : t.Ok) (hg : t.gone ≤ 100000) (hr : t.tm = s.tm) (kd cy ad x y : Int) (hcy : 0 ≤ cy ∧ cy ≤ 65535) (had : 0 ≤ ad ∧ ad ≤ 65535) (hx : 0 ≤ x ∧ x ≤ 255) (hy : 0 ≤ y ∧ y ≤ 255) (hK : (IntKind.i64.wrap (kd.tmod 6 + 6)).tmod 6 = 0) : ACalls Try.prog 54 [.pointer (some ⟨0, 0, none⟩), .agg (recC [] s.L (rfR s t)).toArray, .agg #[.int .i64 kd, .int .u16 cy, .int .u16 ad, .int .u8 x, .int .u8 y]] (rsHeap s) fun r H => ∃ t2 : RT, (t2.Ok ∧ t2.tm = (rsTicksI (cy % 300).toNat s).tm ∧ t2.gone ≤ t.gone + 300) ∧ r = .tuple #[.agg (recC [] (rsTicksI (cy % 300).toNat s).L (rfR (rsTicksI (cy % 300).toNat s) t2)).toArray, .bool true] ∧ H = rsHeap (rsTicksI (cy % 300).toNat s) := by
  have hN : (IntKind.i64.wrap cy).tmod 300 = cy % 300 := by rw [wrap64 (by omega) (by omega), Int.tmod_eq_emod_of_nonneg (by omega)]
  have ead : IntKind.i64.wrap ad = ad := wrap64 (by omega) (by omega)
  have ex : IntKind.i64.wrap x = x := wrap64 (by omega) (by omega)
  have ey : IntKind.i64.wrap y = y := wrap64 (by omega) (by omega)
  have hsL := hs.L
  refine ACalls.code tabOk h54 Try.func54 Try.call54 ok54 ?_
  conv => whnf
  rw [hK]
  conv => whnf
  refine ALoop.fd (σ := Nat × {q : RS // q.Ok} × RT) (fun (⟨i, _, _⟩ : Nat × {q : RS // q.Ok} × RT) => [.pointer (some ⟨0, 0, none⟩), .chan none, .chan none, .chan none, .pointer (some ⟨5, 0, none⟩), .pointer (some ⟨6, 0, none⟩), .pointer (some ⟨7, 0, none⟩), .bool false, .int .i64 i, .chan none, .chan none, .chan none, .chan none, .chan none, .chan none, .chan none, .chan none, .chan none, .chan none, .chan none, .chan none, .chan none, .chan none, .chan none, .chan none, .chan none, .chan none, .chan none, .chan none, .chan none, .chan none, .chan none, .chan none, .chan none, .chan none, .chan none, .chan none, .chan none, .chan none, .chan none, .chan none, .chan none, .chan none, .chan none, .chan none, .chan none, .chan none, .chan none, .chan none, .chan none, .chan none, .chan none, .chan none, .chan none, .chan none, .chan none, .chan none, .chan none, .chan none, .chan none, .chan none, .chan none, .chan none, .chan none, .chan none, .chan none, .chan none, .chan none, .chan none, .chan none, .chan none, .chan none, .chan none, .chan none, .chan none, .chan none, .chan none, .chan none, .chan none, .chan none, .chan none, .chan none, .chan none, .chan none]) (fun (⟨_, ⟨q, _⟩, u⟩ : Nat × {q : RS // q.Ok} × RT) => rsHeap q ++ [.cells (recC [] q.L (rfR q u)) 82, .cells [.int .i64 kd, .int .u16 cy, .int .u16 ad, .int .u8 x, .int .u8 y] 72, .cells z82 82]) (fun st => st.1 ≤ (cy % 300).toNat ∧ st.2.1.1 = rsTicksI st.1 s ∧ st.2.2.Ok ∧ st.2.2.tm = st.2.1.1.tm ∧ st.2.2.gone = t.gone + st.1) (fun st => (cy % 300).toNat - st.1) (0, ⟨s, hs⟩, t) [] rfl rfl ⟨Nat.zero_le _, (rsTicksI_zero s).symm, ht, hr, by simp⟩ ?_ ?_
  · rintro ⟨i, ⟨q, hq⟩, u⟩
    refine ⟨rfl, rfl, ?_, rfl⟩
    simp only [rsHeap, List.cons_append, List.nil_append, List.all_cons, List.all_nil, Bool.and_true, Bool.and_eq_true]
    exact ⟨riotC_all hq.L (fun _ => rfl) rfl, rfl, rfl, rfl, rfl, recC_all rfl (hq.L.all fun _ => rfl) rfl, rfl, rfl⟩
  rintro ⟨i, ⟨q, hq⟩, u⟩ ⟨hi, hq2, hu, hur, hug⟩ R hR
  dsimp only at hi hq2 hu hur hug
  dsimp only
  have hqL := hq.L
  by_cases hlt : i < (cy % 300).toNat
  · have ei : IntKind.i64.wrap ((i : Int) + 1) = ((i + 1 : Nat) : Int) := by rw [wrap64 (by omega) (by omega)]; rfl
    have hlt2 : (i : Int) < cy % 300 := by omega
    have hq3 := hq.tick
    have htk := RT.tick hu
    have hu3 : RT.Ok { u with gone := u.gone + 1 } := ⟨hu.b, hu.iv, hu.ld, by have := hu.g; dsimp only; omega⟩
    obtain ⟨q3, eq3⟩ : ∃ q3, q3 = rsTick q := ⟨_, rfl⟩
    obtain ⟨u3, eu3⟩ : ∃ u3 : RT, u3 = { u with gone := u.gone + 1 } := ⟨_, rfl⟩
    have hq4 : q3 = rsTicksI (i + 1) s := by rw [eq3, hq2, rsTicksI_succ]
    have hr3 : u3.tm = q3.tm := by rw [eu3, htk, hur, eq3, rsTick_tm]
    have hg3 : u3.gone = t.gone + ((i + 1 : Nat) : Int) := by rw [eu3]; dsimp only; rw [hug]; omega
    have RTK : ACalls Try.prog 71 [.agg (recC [] q.L (rfR q u)).toArray] [] fun v H => v = .agg (recC [] q3.L (rfR q3 u3)).toArray ∧ H = [] := by rw [eq3, eu3]; exact rf_tickS q hq u hu
    have RTR : ACalls Try.prog 59 [.pointer (some ⟨0, 0, none⟩)] (rsHeap q) fun r H => r = .tuple #[] ∧ H = rsHeap q3 := by rw [eq3]; exact riot_tickS q hq
    rw [← eq3] at hq3
    rw [← eu3] at hu3
    have hq3L := hq3.L
    clear htk hq2 eq3 eu3
    conv => whnf
    rw [hN]
    conv => whnf
    refine Bif.knT ?_ fun h0 => ?_
    · (simp; omega)
    rw [h0]
    conv => whnf
    refine ACalls.useE (RTR) [0, 1, 2, 3, 4] rfl (by (conv => whnf); first | done | rfl | (refine renL_riot hq.L rfl ?_; (conv => whnf); first | done | rfl) | (refine renL_rec hq.L.flat ?_; (conv => whnf); first | done | rfl)) (by (conv => whnf); first | done | rfl | (refine renL_rec hq.L.flat ?_; (conv => whnf); first | done | rfl)) ?_
    conv => whnf
    refine renL_riot hq3L rfl ?_
    conv => whnf
    refine dropF_zero ?_
    conv => whnf
    refine takeF_rec hqL.len rfl ?_
    conv => whnf
    refine ACalls.useE (RTK) [] rfl (by (conv => whnf); first | done | rfl | (refine renL_riot hq.L rfl ?_; (conv => whnf); first | done | rfl) | (refine renL_rec hq.L.flat ?_; (conv => whnf); first | done | rfl)) (by (conv => whnf); first | done | rfl | (refine renL_rec hq.L.flat ?_; (conv => whnf); first | done | rfl)) ?_
    conv => whnf
    refine renL_rec hq3L.flat ?_
    conv => whnf
    refine Req.of ?_ ?_
    · exact rec_fits hq3L.len rfl rfl (hq3L.all fun _ => rfl) rfl
    conv => whnf
    refine putF_recrec hqL.len hq3L.len rfl rfl ?_
    conv => whnf
    (rw [ei]; exact hR (i + 1, ⟨q3, hq3⟩, u3) _ _ [] rfl rfl ⟨by dsimp only; omega, hq4, hu3, hr3, hg3⟩ (by dsimp only; omega))
  · have hn2 : (cy % 300).toNat = i := by omega
    have hlt2 : ¬ (i : Int) < cy % 300 := by omega
    clear hR
    rw [hn2]
    rw [← hq2]
    have hgu : u.gone ≤ t.gone + 300 := by omega
    conv => whnf
    rw [hN]
    conv => whnf
    refine Bif.knF ?_ fun h0 => ?_
    · (simp; omega)
    rw [h0]
    conv => whnf
    refine dropF_zero ?_
    conv => whnf
    refine takeF_rec hqL.len rfl ?_
    conv => whnf
    refine Req.of ?_ ?_
    · exact rec_fits hqL.len rfl rfl (hqL.all fun _ => rfl) rfl
    conv => whnf
    refine putF_wholeRL hqL.len rfl ?_
    conv => whnf
    refine dropF_zero ?_
    conv => whnf
    refine takeF_rec hqL.len rfl ?_
    conv => whnf
    refine Req.of ?_ ?_
    · exact bdv_pairB (recC_all rfl (hqL.all fun _ => rfl) rfl)
    conv => whnf
    refine Req.of ?_ ?_
    · exact riotC_all hqL (fun _ => rfl) rfl
    conv => whnf
    exact ⟨u, ⟨hu, hur, hgu⟩, rfl, rfl⟩
theorem played1 (s : RS) (hs : s.Ok) (t : RT) (ht : t.Ok) (hg : t.gone ≤ 100000) (hr : t.tm = s.tm) (kd cy ad x y : Int) (hcy : 0 ≤ cy ∧ cy ≤ 65535) (had : 0 ≤ ad ∧ ad ≤ 65535) (hx : 0 ≤ x ∧ x ≤ 255) (hy : 0 ≤ y ∧ y ≤ 255) (hK : (IntKind.i64.wrap (kd.tmod 6 + 6)).tmod 6 = 1) : ACalls Try.prog 54 [.pointer (some ⟨0, 0, none⟩), .agg (recC [] s.L (rfR s t)).toArray, .agg #[.int .i64 kd, .int .u16 cy, .int .u16 ad, .int .u8 x, .int .u8 y]] (rsHeap s) fun r H => ∃ t2 : RT, (t2.Ok ∧ t2.tm = (rsRead s (ad % 1024)).tm ∧ t2.gone ≤ t.gone + 300) ∧ r = .tuple #[.agg (recC [] (rsRead s (ad % 1024)).L (rfR (rsRead s (ad % 1024)) t2)).toArray, .bool true] ∧ H = rsHeap (rsRead s (ad % 1024)) := by
  have hN : (IntKind.i64.wrap cy).tmod 300 = cy % 300 := by rw [wrap64 (by omega) (by omega), Int.tmod_eq_emod_of_nonneg (by omega)]
  have ead : IntKind.i64.wrap ad = ad := wrap64 (by omega) (by omega)
  have ex : IntKind.i64.wrap x = x := wrap64 (by omega) (by omega)
  have ey : IntKind.i64.wrap y = y := wrap64 (by omega) (by omega)
  have hsL := hs.L
  have hN2 := hs.read (ad % 1024)
  obtain ⟨s2, hs2⟩ : ∃ s2, s2 = rsRead s (ad % 1024) := ⟨_, rfl⟩
  have RTF := rf_read s hs t ht hr (IntKind.i64.wrap ad) (by rw [ead]; exact had)
  have RTR := riot_readS s hs ad had
  have ew : rsRead s (IntKind.i64.wrap ad % 1024) = rsRead s (ad % 1024) := by rw [ead]
  rw [ew] at RTF
  have eo : rsOut s (IntKind.i64.wrap ad % 1024) = rsOut s (ad % 1024) := by rw [ead]
  rw [eo] at RTF
  rw [← hs2] at hN2 RTF RTR
  rw [← hs2]
  have h2L := hN2.L
  refine ACalls.code tabOk h54 Try.func54 Try.call54 ok54 ?_
  conv => whnf
  rw [hK]
  conv => whnf
  refine ACalls.useE (RTR) [0, 1, 2, 3, 4] rfl (by (conv => whnf); first | done | rfl | (refine renL_riot hs.L rfl ?_; (conv => whnf); first | done | rfl) | (refine renL_rec hs.L.flat ?_; (conv => whnf); first | done | rfl)) (by (conv => whnf); first | done | rfl | (refine renL_rec hs.L.flat ?_; (conv => whnf); first | done | rfl)) ?_
  conv => whnf
  rw [u8_beq]
  conv => whnf
  refine renL_riot h2L rfl ?_
  conv => whnf
  refine dropF_zero ?_
  conv => whnf
  refine takeF_rec hsL.len rfl ?_
  conv => whnf
  refine ACalls.useX (RTF) [] rfl (by (conv => whnf); first | done | rfl | (refine renL_riot hs.L rfl ?_; (conv => whnf); first | done | rfl) | (refine renL_rec hs.L.flat ?_; (conv => whnf); first | done | rfl)) (by (conv => whnf); first | done | rfl | (refine renL_rec hs.L.flat ?_; (conv => whnf); first | done | rfl)) ?_
  intro nx0 hx0
  conv => whnf
  rw [ead]
  conv => whnf
  refine renL_rec h2L.flat ?_
  conv => whnf
  refine Req.of ?_ ?_
  · exact rec_fits h2L.len rfl rfl (h2L.all fun _ => rfl) rfl
  conv => whnf
  refine putF_wholeRL h2L.len rfl ?_
  conv => whnf
  refine dropF_zero ?_
  conv => whnf
  refine takeF_rec h2L.len rfl ?_
  conv => whnf
  rw [u8_beq]
  conv => whnf
  refine Req.of ?_ ?_
  · exact rec_fits h2L.len rfl rfl (h2L.all fun _ => rfl) rfl
  conv => whnf
  refine putF_wholeRL h2L.len rfl ?_
  conv => whnf
  refine dropF_zero ?_
  conv => whnf
  refine takeF_rec h2L.len rfl ?_
  conv => whnf
  refine Req.of ?_ ?_
  · exact bdv_pairB (recC_all rfl (h2L.all fun _ => rfl) rfl)
  conv => whnf
  refine Req.of ?_ ?_
  · exact riotC_all h2L (fun _ => rfl) rfl
  conv => whnf
  exact ⟨nx0, ⟨hx0.1, hx0.2.1, by have := hx0.2.2; omega⟩, rfl, rfl⟩
theorem played2 (s : RS) (hs : s.Ok) (t : RT) (ht : t.Ok) (hg : t.gone ≤ 100000) (hr : t.tm = s.tm) (kd cy ad x y : Int) (hcy : 0 ≤ cy ∧ cy ≤ 65535) (had : 0 ≤ ad ∧ ad ≤ 65535) (hx : 0 ≤ x ∧ x ≤ 255) (hy : 0 ≤ y ∧ y ≤ 255) (hK : (IntKind.i64.wrap (kd.tmod 6 + 6)).tmod 6 = 2) : ACalls Try.prog 54 [.pointer (some ⟨0, 0, none⟩), .agg (recC [] s.L (rfR s t)).toArray, .agg #[.int .i64 kd, .int .u16 cy, .int .u16 ad, .int .u8 x, .int .u8 y]] (rsHeap s) fun r H => ∃ t2 : RT, (t2.Ok ∧ t2.tm = (rsRead s (ad % 1024)).tm ∧ t2.gone ≤ t.gone + 300) ∧ r = .tuple #[.agg (recC [] (rsRead s (ad % 1024)).L (rfR (rsRead s (ad % 1024)) t2)).toArray, .bool true] ∧ H = rsHeap (rsRead s (ad % 1024)) := by
  have hN : (IntKind.i64.wrap cy).tmod 300 = cy % 300 := by rw [wrap64 (by omega) (by omega), Int.tmod_eq_emod_of_nonneg (by omega)]
  have ead : IntKind.i64.wrap ad = ad := wrap64 (by omega) (by omega)
  have ex : IntKind.i64.wrap x = x := wrap64 (by omega) (by omega)
  have ey : IntKind.i64.wrap y = y := wrap64 (by omega) (by omega)
  have hsL := hs.L
  have hN2 := hs.read (ad % 1024)
  obtain ⟨s2, hs2⟩ : ∃ s2, s2 = rsRead s (ad % 1024) := ⟨_, rfl⟩
  have RTF := rf_read s hs t ht hr (IntKind.i64.wrap ad) (by rw [ead]; exact had)
  have RTR := riot_readS s hs ad had
  have ew : rsRead s (IntKind.i64.wrap ad % 1024) = rsRead s (ad % 1024) := by rw [ead]
  rw [ew] at RTF
  have eo : rsOut s (IntKind.i64.wrap ad % 1024) = rsOut s (ad % 1024) := by rw [ead]
  rw [eo] at RTF
  rw [← hs2] at hN2 RTF RTR
  rw [← hs2]
  have h2L := hN2.L
  refine ACalls.code tabOk h54 Try.func54 Try.call54 ok54 ?_
  conv => whnf
  rw [hK]
  conv => whnf
  refine ACalls.useE (RTR) [0, 1, 2, 3, 4] rfl (by (conv => whnf); first | done | rfl | (refine renL_riot hs.L rfl ?_; (conv => whnf); first | done | rfl) | (refine renL_rec hs.L.flat ?_; (conv => whnf); first | done | rfl)) (by (conv => whnf); first | done | rfl | (refine renL_rec hs.L.flat ?_; (conv => whnf); first | done | rfl)) ?_
  conv => whnf
  rw [u8_beq]
  conv => whnf
  refine renL_riot h2L rfl ?_
  conv => whnf
  refine dropF_zero ?_
  conv => whnf
  refine takeF_rec hsL.len rfl ?_
  conv => whnf
  refine ACalls.useX (RTF) [] rfl (by (conv => whnf); first | done | rfl | (refine renL_riot hs.L rfl ?_; (conv => whnf); first | done | rfl) | (refine renL_rec hs.L.flat ?_; (conv => whnf); first | done | rfl)) (by (conv => whnf); first | done | rfl | (refine renL_rec hs.L.flat ?_; (conv => whnf); first | done | rfl)) ?_
  intro nx0 hx0
  conv => whnf
  rw [ead]
  conv => whnf
  refine renL_rec h2L.flat ?_
  conv => whnf
  refine Req.of ?_ ?_
  · exact rec_fits h2L.len rfl rfl (h2L.all fun _ => rfl) rfl
  conv => whnf
  refine putF_wholeRL h2L.len rfl ?_
  conv => whnf
  refine dropF_zero ?_
  conv => whnf
  refine takeF_rec h2L.len rfl ?_
  conv => whnf
  rw [u8_beq]
  conv => whnf
  refine Req.of ?_ ?_
  · exact rec_fits h2L.len rfl rfl (h2L.all fun _ => rfl) rfl
  conv => whnf
  refine putF_wholeRL h2L.len rfl ?_
  conv => whnf
  refine dropF_zero ?_
  conv => whnf
  refine takeF_rec h2L.len rfl ?_
  conv => whnf
  refine Req.of ?_ ?_
  · exact bdv_pairB (recC_all rfl (h2L.all fun _ => rfl) rfl)
  conv => whnf
  refine Req.of ?_ ?_
  · exact riotC_all h2L (fun _ => rfl) rfl
  conv => whnf
  exact ⟨nx0, ⟨hx0.1, hx0.2.1, by have := hx0.2.2; omega⟩, rfl, rfl⟩
theorem played3 (s : RS) (hs : s.Ok) (t : RT) (ht : t.Ok) (hg : t.gone ≤ 100000) (hr : t.tm = s.tm) (kd cy ad x y : Int) (hcy : 0 ≤ cy ∧ cy ≤ 65535) (had : 0 ≤ ad ∧ ad ≤ 65535) (hx : 0 ≤ x ∧ x ≤ 255) (hy : 0 ≤ y ∧ y ≤ 255) (hK : (IntKind.i64.wrap (kd.tmod 6 + 6)).tmod 6 = 3) : ACalls Try.prog 54 [.pointer (some ⟨0, 0, none⟩), .agg (recC [] s.L (rfR s t)).toArray, .agg #[.int .i64 kd, .int .u16 cy, .int .u16 ad, .int .u8 x, .int .u8 y]] (rsHeap s) fun r H => ∃ t2 : RT, (t2.Ok ∧ t2.tm = (rsStore s (ad % 1024) x).tm ∧ t2.gone ≤ t.gone + 300) ∧ r = .tuple #[.agg (recC [] (rsStore s (ad % 1024) x).L (rfR (rsStore s (ad % 1024) x) t2)).toArray, .bool true] ∧ H = rsHeap (rsStore s (ad % 1024) x) := by
  have hN : (IntKind.i64.wrap cy).tmod 300 = cy % 300 := by rw [wrap64 (by omega) (by omega), Int.tmod_eq_emod_of_nonneg (by omega)]
  have ead : IntKind.i64.wrap ad = ad := wrap64 (by omega) (by omega)
  have ex : IntKind.i64.wrap x = x := wrap64 (by omega) (by omega)
  have ey : IntKind.i64.wrap y = y := wrap64 (by omega) (by omega)
  have hsL := hs.L
  have hN2 := hs.store (ad % 1024) hx
  obtain ⟨s2, hs2⟩ : ∃ s2, s2 = rsStore s (ad % 1024) x := ⟨_, rfl⟩
  have RTF := rf_store s hs t ht hr (IntKind.i64.wrap ad) (IntKind.i64.wrap x) (by rw [ead]; exact had) (by rw [ex]; exact hx)
  have RTR := riot_storeS s hs ad x had hx
  have ew : rsStore s (IntKind.i64.wrap ad % 1024) (IntKind.i64.wrap x) = rsStore s (ad % 1024) x := by rw [ead, ex]
  rw [ew] at RTF
  skip
  skip
  rw [← hs2] at hN2 RTF RTR
  rw [← hs2]
  have h2L := hN2.L
  refine ACalls.code tabOk h54 Try.func54 Try.call54 ok54 ?_
  conv => whnf
  rw [hK]
  conv => whnf
  refine ACalls.useE (RTR) [0, 1, 2, 3, 4] rfl (by (conv => whnf); first | done | rfl | (refine renL_riot hs.L rfl ?_; (conv => whnf); first | done | rfl) | (refine renL_rec hs.L.flat ?_; (conv => whnf); first | done | rfl)) (by (conv => whnf); first | done | rfl | (refine renL_rec hs.L.flat ?_; (conv => whnf); first | done | rfl)) ?_
  conv => whnf
  rw [u8_beq]
  conv => whnf
  refine renL_riot h2L rfl ?_
  conv => whnf
  refine dropF_zero ?_
  conv => whnf
  refine takeF_rec hsL.len rfl ?_
  conv => whnf
  refine ACalls.useX (RTF) [] rfl (by (conv => whnf); first | done | rfl | (refine renL_riot hs.L rfl ?_; (conv => whnf); first | done | rfl) | (refine renL_rec hs.L.flat ?_; (conv => whnf); first | done | rfl)) (by (conv => whnf); first | done | rfl | (refine renL_rec hs.L.flat ?_; (conv => whnf); first | done | rfl)) ?_
  intro nx0 hx0
  conv => whnf
  rw [ead]
  conv => whnf
  rw [ex]
  conv => whnf
  refine renL_rec h2L.flat ?_
  conv => whnf
  refine Req.of ?_ ?_
  · exact rec_fits h2L.len rfl rfl (h2L.all fun _ => rfl) rfl
  conv => whnf
  refine putF_recrec hsL.len h2L.len rfl rfl ?_
  conv => whnf
  refine dropF_zero ?_
  conv => whnf
  refine takeF_rec h2L.len rfl ?_
  conv => whnf
  refine Req.of ?_ ?_
  · exact rec_fits h2L.len rfl rfl (h2L.all fun _ => rfl) rfl
  conv => whnf
  refine putF_wholeRL h2L.len rfl ?_
  conv => whnf
  refine dropF_zero ?_
  conv => whnf
  refine takeF_rec h2L.len rfl ?_
  conv => whnf
  refine Req.of ?_ ?_
  · exact bdv_pairB (recC_all rfl (h2L.all fun _ => rfl) rfl)
  conv => whnf
  refine Req.of ?_ ?_
  · exact riotC_all h2L (fun _ => rfl) rfl
  conv => whnf
  exact ⟨nx0, ⟨hx0.1, hx0.2.1, by have := hx0.2.2; omega⟩, rfl, rfl⟩
theorem played4 (s : RS) (hs : s.Ok) (t : RT) (ht : t.Ok) (hg : t.gone ≤ 100000) (hr : t.tm = s.tm) (kd cy ad x y : Int) (hcy : 0 ≤ cy ∧ cy ≤ 65535) (had : 0 ≤ ad ∧ ad ≤ 65535) (hx : 0 ≤ x ∧ x ≤ 255) (hy : 0 ≤ y ∧ y ≤ 255) (hK : (IntKind.i64.wrap (kd.tmod 6 + 6)).tmod 6 = 4) : ACalls Try.prog 54 [.pointer (some ⟨0, 0, none⟩), .agg (recC [] s.L (rfR s t)).toArray, .agg #[.int .i64 kd, .int .u16 cy, .int .u16 ad, .int .u8 x, .int .u8 y]] (rsHeap s) fun r H => ∃ t2 : RT, (t2.Ok ∧ t2.tm = (rsStore s (ad % 1024) x).tm ∧ t2.gone ≤ t.gone + 300) ∧ r = .tuple #[.agg (recC [] (rsStore s (ad % 1024) x).L (rfR (rsStore s (ad % 1024) x) t2)).toArray, .bool true] ∧ H = rsHeap (rsStore s (ad % 1024) x) := by
  have hN : (IntKind.i64.wrap cy).tmod 300 = cy % 300 := by rw [wrap64 (by omega) (by omega), Int.tmod_eq_emod_of_nonneg (by omega)]
  have ead : IntKind.i64.wrap ad = ad := wrap64 (by omega) (by omega)
  have ex : IntKind.i64.wrap x = x := wrap64 (by omega) (by omega)
  have ey : IntKind.i64.wrap y = y := wrap64 (by omega) (by omega)
  have hsL := hs.L
  have hN2 := hs.store (ad % 1024) hx
  obtain ⟨s2, hs2⟩ : ∃ s2, s2 = rsStore s (ad % 1024) x := ⟨_, rfl⟩
  have RTF := rf_store s hs t ht hr (IntKind.i64.wrap ad) (IntKind.i64.wrap x) (by rw [ead]; exact had) (by rw [ex]; exact hx)
  have RTR := riot_storeS s hs ad x had hx
  have ew : rsStore s (IntKind.i64.wrap ad % 1024) (IntKind.i64.wrap x) = rsStore s (ad % 1024) x := by rw [ead, ex]
  rw [ew] at RTF
  skip
  skip
  rw [← hs2] at hN2 RTF RTR
  rw [← hs2]
  have h2L := hN2.L
  refine ACalls.code tabOk h54 Try.func54 Try.call54 ok54 ?_
  conv => whnf
  rw [hK]
  conv => whnf
  refine ACalls.useE (RTR) [0, 1, 2, 3, 4] rfl (by (conv => whnf); first | done | rfl | (refine renL_riot hs.L rfl ?_; (conv => whnf); first | done | rfl) | (refine renL_rec hs.L.flat ?_; (conv => whnf); first | done | rfl)) (by (conv => whnf); first | done | rfl | (refine renL_rec hs.L.flat ?_; (conv => whnf); first | done | rfl)) ?_
  conv => whnf
  rw [u8_beq]
  conv => whnf
  refine renL_riot h2L rfl ?_
  conv => whnf
  refine dropF_zero ?_
  conv => whnf
  refine takeF_rec hsL.len rfl ?_
  conv => whnf
  refine ACalls.useX (RTF) [] rfl (by (conv => whnf); first | done | rfl | (refine renL_riot hs.L rfl ?_; (conv => whnf); first | done | rfl) | (refine renL_rec hs.L.flat ?_; (conv => whnf); first | done | rfl)) (by (conv => whnf); first | done | rfl | (refine renL_rec hs.L.flat ?_; (conv => whnf); first | done | rfl)) ?_
  intro nx0 hx0
  conv => whnf
  rw [ead]
  conv => whnf
  rw [ex]
  conv => whnf
  refine renL_rec h2L.flat ?_
  conv => whnf
  refine Req.of ?_ ?_
  · exact rec_fits h2L.len rfl rfl (h2L.all fun _ => rfl) rfl
  conv => whnf
  refine putF_recrec hsL.len h2L.len rfl rfl ?_
  conv => whnf
  refine dropF_zero ?_
  conv => whnf
  refine takeF_rec h2L.len rfl ?_
  conv => whnf
  refine Req.of ?_ ?_
  · exact rec_fits h2L.len rfl rfl (h2L.all fun _ => rfl) rfl
  conv => whnf
  refine putF_wholeRL h2L.len rfl ?_
  conv => whnf
  refine dropF_zero ?_
  conv => whnf
  refine takeF_rec h2L.len rfl ?_
  conv => whnf
  refine Req.of ?_ ?_
  · exact bdv_pairB (recC_all rfl (h2L.all fun _ => rfl) rfl)
  conv => whnf
  refine Req.of ?_ ?_
  · exact riotC_all h2L (fun _ => rfl) rfl
  conv => whnf
  exact ⟨nx0, ⟨hx0.1, hx0.2.1, by have := hx0.2.2; omega⟩, rfl, rfl⟩
theorem played5 (s : RS) (hs : s.Ok) (t : RT) (ht : t.Ok) (hg : t.gone ≤ 100000) (hr : t.tm = s.tm) (kd cy ad x y : Int) (hcy : 0 ≤ cy ∧ cy ≤ 65535) (had : 0 ≤ ad ∧ ad ≤ 65535) (hx : 0 ≤ x ∧ x ≤ 255) (hy : 0 ≤ y ∧ y ≤ 255) (hK : (IntKind.i64.wrap (kd.tmod 6 + 6)).tmod 6 = 5) : ACalls Try.prog 54 [.pointer (some ⟨0, 0, none⟩), .agg (recC [] s.L (rfR s t)).toArray, .agg #[.int .i64 kd, .int .u16 cy, .int .u16 ad, .int .u8 x, .int .u8 y]] (rsHeap s) fun r H => ∃ t2 : RT, (t2.Ok ∧ t2.tm = (rsIn s x y).tm ∧ t2.gone ≤ t.gone + 300) ∧ r = .tuple #[.agg (recC [] (rsIn s x y).L (rfR (rsIn s x y) t2)).toArray, .bool true] ∧ H = rsHeap (rsIn s x y) := by
  have hN : (IntKind.i64.wrap cy).tmod 300 = cy % 300 := by rw [wrap64 (by omega) (by omega), Int.tmod_eq_emod_of_nonneg (by omega)]
  have ead : IntKind.i64.wrap ad = ad := wrap64 (by omega) (by omega)
  have ex : IntKind.i64.wrap x = x := wrap64 (by omega) (by omega)
  have ey : IntKind.i64.wrap y = y := wrap64 (by omega) (by omega)
  have hsL := hs.L
  have hN2 := hs.inp hx hy
  have RTR := riot_inS s hs x y
  have e2 : rsIn s x y = { s with i0 := x, i1 := y } := by unfold rsIn; rfl
  have hr2 : t.tm = (rsIn s x y).tm := by rw [rsIn_tm]; exact hr
  have hg2 : t.gone ≤ t.gone + 300 := by omega
  rw [e2] at hN2 RTR hr2 ⊢
  refine ACalls.code tabOk h54 Try.func54 Try.call54 ok54 ?_
  conv => whnf
  rw [hK]
  conv => whnf
  refine ACalls.useE (RTR) [0, 1, 2, 3, 4] rfl (by (conv => whnf); first | done | rfl | (refine renL_riot hs.L rfl ?_; (conv => whnf); first | done | rfl) | (refine renL_rec hs.L.flat ?_; (conv => whnf); first | done | rfl)) (by (conv => whnf); first | done | rfl | (refine renL_rec hs.L.flat ?_; (conv => whnf); first | done | rfl)) ?_
  conv => whnf
  refine renL_riot hsL rfl ?_
  conv => whnf
  rw [ex]
  conv => whnf
  rw [ey]
  conv => whnf
  refine putF_sufR hsL.len 0 rfl ?_
  conv => whnf
  refine ⟨rfl, ?_⟩
  conv => whnf
  refine putF_sufR hsL.len 3 rfl ?_
  conv => whnf
  refine dropF_zero ?_
  conv => whnf
  refine takeF_rec hsL.len rfl ?_
  conv => whnf
  refine Req.of ?_ ?_
  · exact rec_fits hsL.len rfl rfl (hsL.all fun _ => rfl) rfl
  conv => whnf
  refine putF_wholeRL hsL.len rfl ?_
  conv => whnf
  refine dropF_zero ?_
  conv => whnf
  refine takeF_rec hsL.len rfl ?_
  conv => whnf
  refine Req.of ?_ ?_
  · exact bdv_pairB (recC_all rfl (hsL.all fun _ => rfl) rfl)
  conv => whnf
  refine Req.of ?_ ?_
  · exact riotC_all hsL (fun _ => rfl) rfl
  conv => whnf
  exact ⟨t, ⟨ht, hr2, hg2⟩, rfl, rfl⟩
theorem playedS (s : RS) (hs : s.Ok) (t : RT) (ht : t.Ok) (hg : t.gone ≤ 100000) (hr : t.tm = s.tm) (kd cy ad x y : Int) (hcy : 0 ≤ cy ∧ cy ≤ 65535) (had : 0 ≤ ad ∧ ad ≤ 65535) (hx : 0 ≤ x ∧ x ≤ 255) (hy : 0 ≤ y ∧ y ≤ 255)  : ACalls Try.prog 54 [.pointer (some ⟨0, 0, none⟩), .agg (recC [] s.L (rfR s t)).toArray, .agg #[.int .i64 kd, .int .u16 cy, .int .u16 ad, .int .u8 x, .int .u8 y]] (rsHeap s) fun r H => ∃ t2 : RT, (t2.Ok ∧ t2.tm = (rsDo s ((IntKind.i64.wrap (kd.tmod 6 + 6)).tmod 6) (cy % 300) (ad % 1024) x y).tm ∧ t2.gone ≤ t.gone + 300) ∧ r = .tuple #[.agg (recC [] (rsDo s ((IntKind.i64.wrap (kd.tmod 6 + 6)).tmod 6) (cy % 300) (ad % 1024) x y).L (rfR (rsDo s ((IntKind.i64.wrap (kd.tmod 6 + 6)).tmod 6) (cy % 300) (ad % 1024) x y) t2)).toArray, .bool true] ∧ H = rsHeap (rsDo s ((IntKind.i64.wrap (kd.tmod 6 + 6)).tmod 6) (cy % 300) (ad % 1024) x y) := by
  have hk0 : 0 ≤ (IntKind.i64.wrap (kd.tmod 6 + 6)).tmod 6 ∧ (IntKind.i64.wrap (kd.tmod 6 + 6)).tmod 6 ≤ 5 := by
    have h1 := Int.lt_tmod_of_pos kd (show (0 : Int) < 6 by decide)
    have h2 := Int.tmod_lt_of_pos kd (show (0 : Int) < 6 by decide)
    rw [wrap64 (by omega) (by omega), Int.tmod_eq_emod_of_nonneg (by omega)]; omega
  generalize hK : (IntKind.i64.wrap (kd.tmod 6 + 6)).tmod 6 = K at hk0
  have hK' : K = 0 ∨ K = 1 ∨ K = 2 ∨ K = 3 ∨ K = 4 ∨ K = 5 := by omega
  unfold rsDo
  rcases hK' with rfl | rfl | rfl | rfl | rfl | rfl
  · exact played0 s hs t ht hg hr kd cy ad x y hcy had hx hy hK
  · exact played1 s hs t ht hg hr kd cy ad x y hcy had hx hy hK
  · exact played2 s hs t ht hg hr kd cy ad x y hcy had hx hy hK
  · exact played3 s hs t ht hg hr kd cy ad x y hcy had hx hy hK
  · exact played4 s hs t ht hg hr kd cy ad x y hcy had hx hy hK
  · exact played5 s hs t ht hg hr kd cy ad x y hcy had hx hy hK
end Go.Proofs
