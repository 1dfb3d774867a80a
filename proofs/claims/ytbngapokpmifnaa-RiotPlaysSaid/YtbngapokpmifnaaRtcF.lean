/-
  Walks through the functions of the program, by contract.
-/
import Derived.Test.YtbngapokpmifnaaRtbF
set_option linter.all false
set_option linter.unusedVariables false
set_option linter.unusedSimpArgs false
set_option linter.unnecessarySimpa false
namespace Go.Proofs
open Go.Aw
set_option maxRecDepth 100000
set_option maxHeartbeats 8000000
theorem putF_ramR {L R : List Value} (hL : Ram L) (j : Nat) {o : Nat} {x : Int} {k : List Value → Prop} (ho : o = j) (hj : j < 128) (hk : k (recC [] (wr L j x) R)) : putF (recC [] L R) o [.int .u8 x] k :=
  putF_mid1 hL.len j (by simpa using ho) hj (by unfold wr at hk; exact hk)
theorem getF_ramR {L R : List Value} (hL : Ram L) (j : Nat) {o : Nat} {k : Value → Prop} (ho : o = j) (hj : j < 128) (hk : k (.int .u8 (rd L j))) : getF (recC [] L R) o k :=
  getF_mid hL.len j _ (by simpa using ho) hj (hL.at hj) hk
theorem bdv_pair {A L R : List Value} {n : Nat} {q : IntKind} {x : Int} (h : (recC A L R).all (bdv 4 n) = true) : bdv 6 n (.tuple #[.int q x, .agg (recC A L R).toArray]) = true := by
  show (true && ((recC A L R).all (bdv 4 n) && true)) = true
  rw [h]; rfl
theorem u8_id {x : Int} (h : 0 ≤ x ∧ x ≤ 255) : IntKind.u8.wrap x = x := by rw [w8]; omega
theorem rfrd_ram (s : RS) (hs : s.Ok) (t : RT) (ht : t.Ok) (hr : t.tm = s.tm) (ad a : Int) (ea : ad.tmod 1024 = a) (ha : 0 ≤ a ∧ a < 1024) (c : a < 512) : ACalls Try.prog 72 [.agg (recC [] s.L (rfR s t)).toArray, .int .i64 ad] [] fun v H => v = .tuple #[.int .u8 (rd s.L (a % 128).toNat), .agg (recC [] s.L (rfR s t)).toArray] ∧ H = [] := by
  have h4 : (IntKind.i64.wrap (a.tdiv 4)).tmod 2 = a / 4 % 2 := by
    rw [Int.tdiv_eq_ediv_of_nonneg ha.1, wrap64 (by omega) (by omega), Int.tmod_eq_emod_of_nonneg (by omega)]
  have h16 : (IntKind.i64.wrap (a.tdiv 16)).tmod 2 = a / 16 % 2 := by
    rw [Int.tdiv_eq_ediv_of_nonneg ha.1, wrap64 (by omega) (by omega), Int.tmod_eq_emod_of_nonneg (by omega)]
  have m4 : a.tmod 4 = a % 4 := Int.tmod_eq_emod_of_nonneg ha.1
  have m2 : a.tmod 2 = a % 2 := Int.tmod_eq_emod_of_nonneg ha.1
  have m128 : a.tmod 128 = ((a % 128).toNat : Int) := by rw [Int.tmod_eq_emod_of_nonneg ha.1]; omega
  have hsL := hs.L
  refine ACalls.code tabOk h72 Try.func72 Try.call72 ok72 ?_
  conv => whnf
  rw [ea]
  conv => whnf
  refine Bif.knT ?_ fun h0 => ?_
  · (simp; omega)
  rw [h0]
  conv => whnf
  rw [m128]
  conv => whnf
  refine Req.of ?_ ?_
  · (simp; omega)
  conv => whnf
  refine getF_ramR hsL (a % 128).toNat (by first | omega | (dsimp only; omega)) (by omega) ?_
  conv => whnf
  refine dropF_zero ?_
  conv => whnf
  refine takeF_rec hsL.len rfl ?_
  conv => whnf
  refine Req.of ?_ ?_
  · exact rec_fits hsL.len rfl rfl (hsL.all fun _ => rfl) rfl
  conv => whnf
  refine putF_wholeRL hsL.len rfl ?_
  conv => whnf
  refine dropF_zero ?_
  conv => whnf
  refine takeF_rec hsL.len rfl ?_
  conv => whnf
  refine Req.of ?_ ?_
  · exact bdv_pair (recC_all rfl (hsL.all fun _ => rfl) rfl)
  conv => whnf
  exact ⟨rfl, rfl⟩
theorem rfrd_tm (s : RS) (hs : s.Ok) (t : RT) (ht : t.Ok) (hr : t.tm = s.tm) (ad a : Int) (ea : ad.tmod 1024 = a) (ha : 0 ≤ a ∧ a < 1024) (c : ¬ a < 512) (c2 : a / 4 % 2 = 1) (c3 : a % 2 = 0) : ACalls Try.prog 72 [.agg (recC [] s.L (rfR s t)).toArray, .int .i64 ad] [] fun v H => v = .tuple #[.int .u8 s.tm.v, .agg (recC [] s.L (rfR { s with tm := s.tm.read } t.rd)).toArray] ∧ H = [] := by
  have h4 : (IntKind.i64.wrap (a.tdiv 4)).tmod 2 = a / 4 % 2 := by
    rw [Int.tdiv_eq_ediv_of_nonneg ha.1, wrap64 (by omega) (by omega), Int.tmod_eq_emod_of_nonneg (by omega)]
  have h16 : (IntKind.i64.wrap (a.tdiv 16)).tmod 2 = a / 16 % 2 := by
    rw [Int.tdiv_eq_ediv_of_nonneg ha.1, wrap64 (by omega) (by omega), Int.tmod_eq_emod_of_nonneg (by omega)]
  have m4 : a.tmod 4 = a % 4 := Int.tmod_eq_emod_of_nonneg ha.1
  have m2 : a.tmod 2 = a % 2 := Int.tmod_eq_emod_of_nonneg ha.1
  have m128 : a.tmod 128 = ((a % 128).toNat : Int) := by rw [Int.tmod_eq_emod_of_nonneg ha.1]; omega
  have hsL := hs.L
  have e8 : IntKind.u8.wrap t.val = s.tm.v := by rw [← hr]; exact u8_id (RT.tm_ok ht).1
  refine ACalls.code tabOk h72 Try.func72 Try.call72 ok72 ?_
  conv => whnf
  rw [ea]
  conv => whnf
  refine Bif.knF ?_ fun h0 => ?_
  · (simp; omega)
  rw [h0]
  conv => whnf
  rw [h4]
  conv => whnf
  rw [c2]
  conv => whnf
  rw [m2]
  conv => whnf
  rw [c3]
  conv => whnf
  refine dropF_suf hsL.len 6 rfl ?_
  conv => whnf
  refine ACalls.useE (rt_read t ht) [] rfl (by (conv => whnf); try rfl) (by (conv => whnf); try rfl) ?_
  conv => whnf
  refine putF_sufR hsL.len 6 rfl ?_
  conv => whnf
  rw [e8]
  conv => whnf
  refine dropF_zero ?_
  conv => whnf
  refine takeF_rec hsL.len rfl ?_
  conv => whnf
  refine Req.of ?_ ?_
  · exact rec_fits hsL.len rfl rfl (hsL.all fun _ => rfl) rfl
  conv => whnf
  refine putF_wholeRL hsL.len rfl ?_
  conv => whnf
  refine dropF_zero ?_
  conv => whnf
  refine takeF_rec hsL.len rfl ?_
  conv => whnf
  refine Req.of ?_ ?_
  · exact bdv_pair (recC_all rfl (hsL.all fun _ => rfl) rfl)
  conv => whnf
  exact ⟨rfl, rfl⟩
theorem rfrd_fl_true_true (s : RS) (hs : s.Ok) (t : RT) (ht : t.Ok) (hr : t.tm = s.tm) (ad a : Int) (ea : ad.tmod 1024 = a) (ha : 0 ≤ a ∧ a < 1024) (c : ¬ a < 512) (c2 : a / 4 % 2 = 1) (c3 : a % 2 = 1) (c4 : s.tm.fl = true) (c5 : s.ec = true) : ACalls Try.prog 72 [.agg (recC [] s.L (rfR s t)).toArray, .int .i64 ad] [] fun v H => v = .tuple #[.int .u8 (flg true true), .agg (recC [] s.L (rfR { s with ec := false } t)).toArray] ∧ H = [] := by
  have h4 : (IntKind.i64.wrap (a.tdiv 4)).tmod 2 = a / 4 % 2 := by
    rw [Int.tdiv_eq_ediv_of_nonneg ha.1, wrap64 (by omega) (by omega), Int.tmod_eq_emod_of_nonneg (by omega)]
  have h16 : (IntKind.i64.wrap (a.tdiv 16)).tmod 2 = a / 16 % 2 := by
    rw [Int.tdiv_eq_ediv_of_nonneg ha.1, wrap64 (by omega) (by omega), Int.tmod_eq_emod_of_nonneg (by omega)]
  have m4 : a.tmod 4 = a % 4 := Int.tmod_eq_emod_of_nonneg ha.1
  have m2 : a.tmod 2 = a % 2 := Int.tmod_eq_emod_of_nonneg ha.1
  have m128 : a.tmod 128 = ((a % 128).toNat : Int) := by rw [Int.tmod_eq_emod_of_nonneg ha.1]; omega
  have hsL := hs.L
  have e8 : t.fast = true := by rw [← c4, ← hr]; rfl
  refine ACalls.code tabOk h72 Try.func72 Try.call72 ok72 ?_
  conv => whnf
  rw [ea]
  conv => whnf
  refine Bif.knF ?_ fun h0 => ?_
  · (simp; omega)
  rw [h0]
  conv => whnf
  rw [h4]
  conv => whnf
  rw [c2]
  conv => whnf
  rw [m2]
  conv => whnf
  rw [c3]
  conv => whnf
  refine dropF_suf hsL.len 6 rfl ?_
  conv => whnf
  refine ACalls.useE (rt_flag t ht) [] rfl (by (conv => whnf); try rfl) (by (conv => whnf); try rfl) ?_
  conv => whnf
  rw [e8]
  conv => whnf
  refine getF_suf hsL.len 14 rfl ?_
  conv => whnf
  rw [c5]
  conv => whnf
  refine putF_sufR hsL.len 14 rfl ?_
  conv => whnf
  refine dropF_zero ?_
  conv => whnf
  refine takeF_rec hsL.len rfl ?_
  conv => whnf
  refine Req.of ?_ ?_
  · exact rec_fits hsL.len rfl rfl (hsL.all fun _ => rfl) rfl
  conv => whnf
  refine putF_wholeRL hsL.len rfl ?_
  conv => whnf
  refine dropF_zero ?_
  conv => whnf
  refine takeF_rec hsL.len rfl ?_
  conv => whnf
  refine Req.of ?_ ?_
  · exact bdv_pair (recC_all rfl (hsL.all fun _ => rfl) rfl)
  conv => whnf
  exact ⟨rfl, rfl⟩
theorem rfrd_fl_true_false (s : RS) (hs : s.Ok) (t : RT) (ht : t.Ok) (hr : t.tm = s.tm) (ad a : Int) (ea : ad.tmod 1024 = a) (ha : 0 ≤ a ∧ a < 1024) (c : ¬ a < 512) (c2 : a / 4 % 2 = 1) (c3 : a % 2 = 1) (c4 : s.tm.fl = true) (c5 : s.ec = false) : ACalls Try.prog 72 [.agg (recC [] s.L (rfR s t)).toArray, .int .i64 ad] [] fun v H => v = .tuple #[.int .u8 (flg true false), .agg (recC [] s.L (rfR { s with ec := false } t)).toArray] ∧ H = [] := by
  have h4 : (IntKind.i64.wrap (a.tdiv 4)).tmod 2 = a / 4 % 2 := by
    rw [Int.tdiv_eq_ediv_of_nonneg ha.1, wrap64 (by omega) (by omega), Int.tmod_eq_emod_of_nonneg (by omega)]
  have h16 : (IntKind.i64.wrap (a.tdiv 16)).tmod 2 = a / 16 % 2 := by
    rw [Int.tdiv_eq_ediv_of_nonneg ha.1, wrap64 (by omega) (by omega), Int.tmod_eq_emod_of_nonneg (by omega)]
  have m4 : a.tmod 4 = a % 4 := Int.tmod_eq_emod_of_nonneg ha.1
  have m2 : a.tmod 2 = a % 2 := Int.tmod_eq_emod_of_nonneg ha.1
  have m128 : a.tmod 128 = ((a % 128).toNat : Int) := by rw [Int.tmod_eq_emod_of_nonneg ha.1]; omega
  have hsL := hs.L
  have e8 : t.fast = true := by rw [← c4, ← hr]; rfl
  refine ACalls.code tabOk h72 Try.func72 Try.call72 ok72 ?_
  conv => whnf
  rw [ea]
  conv => whnf
  refine Bif.knF ?_ fun h0 => ?_
  · (simp; omega)
  rw [h0]
  conv => whnf
  rw [h4]
  conv => whnf
  rw [c2]
  conv => whnf
  rw [m2]
  conv => whnf
  rw [c3]
  conv => whnf
  refine dropF_suf hsL.len 6 rfl ?_
  conv => whnf
  refine ACalls.useE (rt_flag t ht) [] rfl (by (conv => whnf); try rfl) (by (conv => whnf); try rfl) ?_
  conv => whnf
  rw [e8]
  conv => whnf
  refine getF_suf hsL.len 14 rfl ?_
  conv => whnf
  rw [c5]
  conv => whnf
  refine putF_sufR hsL.len 14 rfl ?_
  conv => whnf
  refine dropF_zero ?_
  conv => whnf
  refine takeF_rec hsL.len rfl ?_
  conv => whnf
  refine Req.of ?_ ?_
  · exact rec_fits hsL.len rfl rfl (hsL.all fun _ => rfl) rfl
  conv => whnf
  refine putF_wholeRL hsL.len rfl ?_
  conv => whnf
  refine dropF_zero ?_
  conv => whnf
  refine takeF_rec hsL.len rfl ?_
  conv => whnf
  refine Req.of ?_ ?_
  · exact bdv_pair (recC_all rfl (hsL.all fun _ => rfl) rfl)
  conv => whnf
  exact ⟨rfl, rfl⟩
theorem rfrd_fl_false_true (s : RS) (hs : s.Ok) (t : RT) (ht : t.Ok) (hr : t.tm = s.tm) (ad a : Int) (ea : ad.tmod 1024 = a) (ha : 0 ≤ a ∧ a < 1024) (c : ¬ a < 512) (c2 : a / 4 % 2 = 1) (c3 : a % 2 = 1) (c4 : s.tm.fl = false) (c5 : s.ec = true) : ACalls Try.prog 72 [.agg (recC [] s.L (rfR s t)).toArray, .int .i64 ad] [] fun v H => v = .tuple #[.int .u8 (flg false true), .agg (recC [] s.L (rfR { s with ec := false } t)).toArray] ∧ H = [] := by
  have h4 : (IntKind.i64.wrap (a.tdiv 4)).tmod 2 = a / 4 % 2 := by
    rw [Int.tdiv_eq_ediv_of_nonneg ha.1, wrap64 (by omega) (by omega), Int.tmod_eq_emod_of_nonneg (by omega)]
  have h16 : (IntKind.i64.wrap (a.tdiv 16)).tmod 2 = a / 16 % 2 := by
    rw [Int.tdiv_eq_ediv_of_nonneg ha.1, wrap64 (by omega) (by omega), Int.tmod_eq_emod_of_nonneg (by omega)]
  have m4 : a.tmod 4 = a % 4 := Int.tmod_eq_emod_of_nonneg ha.1
  have m2 : a.tmod 2 = a % 2 := Int.tmod_eq_emod_of_nonneg ha.1
  have m128 : a.tmod 128 = ((a % 128).toNat : Int) := by rw [Int.tmod_eq_emod_of_nonneg ha.1]; omega
  have hsL := hs.L
  have e8 : t.fast = false := by rw [← c4, ← hr]; rfl
  refine ACalls.code tabOk h72 Try.func72 Try.call72 ok72 ?_
  conv => whnf
  rw [ea]
  conv => whnf
  refine Bif.knF ?_ fun h0 => ?_
  · (simp; omega)
  rw [h0]
  conv => whnf
  rw [h4]
  conv => whnf
  rw [c2]
  conv => whnf
  rw [m2]
  conv => whnf
  rw [c3]
  conv => whnf
  refine dropF_suf hsL.len 6 rfl ?_
  conv => whnf
  refine ACalls.useE (rt_flag t ht) [] rfl (by (conv => whnf); try rfl) (by (conv => whnf); try rfl) ?_
  conv => whnf
  rw [e8]
  conv => whnf
  refine getF_suf hsL.len 14 rfl ?_
  conv => whnf
  rw [c5]
  conv => whnf
  refine putF_sufR hsL.len 14 rfl ?_
  conv => whnf
  refine dropF_zero ?_
  conv => whnf
  refine takeF_rec hsL.len rfl ?_
  conv => whnf
  refine Req.of ?_ ?_
  · exact rec_fits hsL.len rfl rfl (hsL.all fun _ => rfl) rfl
  conv => whnf
  refine putF_wholeRL hsL.len rfl ?_
  conv => whnf
  refine dropF_zero ?_
  conv => whnf
  refine takeF_rec hsL.len rfl ?_
  conv => whnf
  refine Req.of ?_ ?_
  · exact bdv_pair (recC_all rfl (hsL.all fun _ => rfl) rfl)
  conv => whnf
  exact ⟨rfl, rfl⟩
theorem rfrd_fl_false_false (s : RS) (hs : s.Ok) (t : RT) (ht : t.Ok) (hr : t.tm = s.tm) (ad a : Int) (ea : ad.tmod 1024 = a) (ha : 0 ≤ a ∧ a < 1024) (c : ¬ a < 512) (c2 : a / 4 % 2 = 1) (c3 : a % 2 = 1) (c4 : s.tm.fl = false) (c5 : s.ec = false) : ACalls Try.prog 72 [.agg (recC [] s.L (rfR s t)).toArray, .int .i64 ad] [] fun v H => v = .tuple #[.int .u8 (flg false false), .agg (recC [] s.L (rfR { s with ec := false } t)).toArray] ∧ H = [] := by
  have h4 : (IntKind.i64.wrap (a.tdiv 4)).tmod 2 = a / 4 % 2 := by
    rw [Int.tdiv_eq_ediv_of_nonneg ha.1, wrap64 (by omega) (by omega), Int.tmod_eq_emod_of_nonneg (by omega)]
  have h16 : (IntKind.i64.wrap (a.tdiv 16)).tmod 2 = a / 16 % 2 := by
    rw [Int.tdiv_eq_ediv_of_nonneg ha.1, wrap64 (by omega) (by omega), Int.tmod_eq_emod_of_nonneg (by omega)]
  have m4 : a.tmod 4 = a % 4 := Int.tmod_eq_emod_of_nonneg ha.1
  have m2 : a.tmod 2 = a % 2 := Int.tmod_eq_emod_of_nonneg ha.1
  have m128 : a.tmod 128 = ((a % 128).toNat : Int) := by rw [Int.tmod_eq_emod_of_nonneg ha.1]; omega
  have hsL := hs.L
  have e8 : t.fast = false := by rw [← c4, ← hr]; rfl
  refine ACalls.code tabOk h72 Try.func72 Try.call72 ok72 ?_
  conv => whnf
  rw [ea]
  conv => whnf
  refine Bif.knF ?_ fun h0 => ?_
  · (simp; omega)
  rw [h0]
  conv => whnf
  rw [h4]
  conv => whnf
  rw [c2]
  conv => whnf
  rw [m2]
  conv => whnf
  rw [c3]
  conv => whnf
  refine dropF_suf hsL.len 6 rfl ?_
  conv => whnf
  refine ACalls.useE (rt_flag t ht) [] rfl (by (conv => whnf); try rfl) (by (conv => whnf); try rfl) ?_
  conv => whnf
  rw [e8]
  conv => whnf
  refine getF_suf hsL.len 14 rfl ?_
  conv => whnf
  rw [c5]
  conv => whnf
  refine putF_sufR hsL.len 14 rfl ?_
  conv => whnf
  refine dropF_zero ?_
  conv => whnf
  refine takeF_rec hsL.len rfl ?_
  conv => whnf
  refine Req.of ?_ ?_
  · exact rec_fits hsL.len rfl rfl (hsL.all fun _ => rfl) rfl
  conv => whnf
  refine putF_wholeRL hsL.len rfl ?_
  conv => whnf
  refine dropF_zero ?_
  conv => whnf
  refine takeF_rec hsL.len rfl ?_
  conv => whnf
  refine Req.of ?_ ?_
  · exact bdv_pair (recC_all rfl (hsL.all fun _ => rfl) rfl)
  conv => whnf
  exact ⟨rfl, rfl⟩
theorem rfrd_p0 (s : RS) (hs : s.Ok) (t : RT) (ht : t.Ok) (hr : t.tm = s.tm) (ad a : Int) (ea : ad.tmod 1024 = a) (ha : 0 ≤ a ∧ a < 1024) (c : ¬ a < 512) (c2 : a / 4 % 2 = 0) (c3 : a % 4 = 0) : ACalls Try.prog 72 [.agg (recC [] s.L (rfR s t)).toArray, .int .i64 ad] [] fun v H => v = .tuple #[.int .u8 (lv s.i0 s.o0 s.w0), .agg (recC [] s.L (rfR s t)).toArray] ∧ H = [] := by
  have h4 : (IntKind.i64.wrap (a.tdiv 4)).tmod 2 = a / 4 % 2 := by
    rw [Int.tdiv_eq_ediv_of_nonneg ha.1, wrap64 (by omega) (by omega), Int.tmod_eq_emod_of_nonneg (by omega)]
  have h16 : (IntKind.i64.wrap (a.tdiv 16)).tmod 2 = a / 16 % 2 := by
    rw [Int.tdiv_eq_ediv_of_nonneg ha.1, wrap64 (by omega) (by omega), Int.tmod_eq_emod_of_nonneg (by omega)]
  have m4 : a.tmod 4 = a % 4 := Int.tmod_eq_emod_of_nonneg ha.1
  have m2 : a.tmod 2 = a % 2 := Int.tmod_eq_emod_of_nonneg ha.1
  have m128 : a.tmod 128 = ((a % 128).toNat : Int) := by rw [Int.tmod_eq_emod_of_nonneg ha.1]; omega
  have hsL := hs.L
  have e8 : IntKind.u8.wrap (lv s.i0 s.o0 s.w0) = lv s.i0 s.o0 s.w0 := u8_id (lvN_le _ _ _ hs.p0)
  refine ACalls.code tabOk h72 Try.func72 Try.call72 ok72 ?_
  conv => whnf
  rw [ea]
  conv => whnf
  refine Bif.knF ?_ fun h0 => ?_
  · (simp; omega)
  rw [h0]
  conv => whnf
  rw [h4]
  conv => whnf
  rw [c2]
  conv => whnf
  rw [m4]
  conv => whnf
  rw [c3]
  conv => whnf
  refine dropF_suf hsL.len 0 rfl ?_
  conv => whnf
  refine dropF_zero ?_
  conv => whnf
  refine takeF_rec hsL.len rfl ?_
  conv => whnf
  refine ACalls.useE (rf_level _ _ _ ?_) [] rfl (by (conv => whnf); try rfl) (by (conv => whnf); try rfl) ?_
  · exact hs.p0
  conv => whnf
  refine dropF_zero ?_
  conv => whnf
  refine takeF_rec hsL.len rfl ?_
  conv => whnf
  refine ⟨rfl, ?_⟩
  conv => whnf
  rw [e8]
  conv => whnf
  refine Req.of ?_ ?_
  · exact rec_fits hsL.len rfl rfl (hsL.all fun _ => rfl) rfl
  conv => whnf
  refine putF_wholeRL hsL.len rfl ?_
  conv => whnf
  refine dropF_zero ?_
  conv => whnf
  refine takeF_rec hsL.len rfl ?_
  conv => whnf
  refine Req.of ?_ ?_
  · exact bdv_pair (recC_all rfl (hsL.all fun _ => rfl) rfl)
  conv => whnf
  exact ⟨rfl, rfl⟩
theorem rfrd_p1 (s : RS) (hs : s.Ok) (t : RT) (ht : t.Ok) (hr : t.tm = s.tm) (ad a : Int) (ea : ad.tmod 1024 = a) (ha : 0 ≤ a ∧ a < 1024) (c : ¬ a < 512) (c2 : a / 4 % 2 = 0) (c3 : a % 4 = 1) : ACalls Try.prog 72 [.agg (recC [] s.L (rfR s t)).toArray, .int .i64 ad] [] fun v H => v = .tuple #[.int .u8 (s.w0), .agg (recC [] s.L (rfR s t)).toArray] ∧ H = [] := by
  have h4 : (IntKind.i64.wrap (a.tdiv 4)).tmod 2 = a / 4 % 2 := by
    rw [Int.tdiv_eq_ediv_of_nonneg ha.1, wrap64 (by omega) (by omega), Int.tmod_eq_emod_of_nonneg (by omega)]
  have h16 : (IntKind.i64.wrap (a.tdiv 16)).tmod 2 = a / 16 % 2 := by
    rw [Int.tdiv_eq_ediv_of_nonneg ha.1, wrap64 (by omega) (by omega), Int.tmod_eq_emod_of_nonneg (by omega)]
  have m4 : a.tmod 4 = a % 4 := Int.tmod_eq_emod_of_nonneg ha.1
  have m2 : a.tmod 2 = a % 2 := Int.tmod_eq_emod_of_nonneg ha.1
  have m128 : a.tmod 128 = ((a % 128).toNat : Int) := by rw [Int.tmod_eq_emod_of_nonneg ha.1]; omega
  have hsL := hs.L
  have e8 : IntKind.u8.wrap (s.w0) = s.w0 := u8_id (hs.p0.2.2)
  refine ACalls.code tabOk h72 Try.func72 Try.call72 ok72 ?_
  conv => whnf
  rw [ea]
  conv => whnf
  refine Bif.knF ?_ fun h0 => ?_
  · (simp; omega)
  rw [h0]
  conv => whnf
  rw [h4]
  conv => whnf
  rw [c2]
  conv => whnf
  rw [m4]
  conv => whnf
  rw [c3]
  conv => whnf
  refine getF_suf hsL.len 2 rfl ?_
  conv => whnf
  rw [e8]
  conv => whnf
  refine dropF_zero ?_
  conv => whnf
  refine takeF_rec hsL.len rfl ?_
  conv => whnf
  refine Req.of ?_ ?_
  · exact rec_fits hsL.len rfl rfl (hsL.all fun _ => rfl) rfl
  conv => whnf
  refine putF_wholeRL hsL.len rfl ?_
  conv => whnf
  refine dropF_zero ?_
  conv => whnf
  refine takeF_rec hsL.len rfl ?_
  conv => whnf
  refine Req.of ?_ ?_
  · exact bdv_pair (recC_all rfl (hsL.all fun _ => rfl) rfl)
  conv => whnf
  exact ⟨rfl, rfl⟩
theorem rfrd_p2 (s : RS) (hs : s.Ok) (t : RT) (ht : t.Ok) (hr : t.tm = s.tm) (ad a : Int) (ea : ad.tmod 1024 = a) (ha : 0 ≤ a ∧ a < 1024) (c : ¬ a < 512) (c2 : a / 4 % 2 = 0) (c3 : a % 4 = 2) : ACalls Try.prog 72 [.agg (recC [] s.L (rfR s t)).toArray, .int .i64 ad] [] fun v H => v = .tuple #[.int .u8 (lv s.i1 s.o1 s.w1), .agg (recC [] s.L (rfR s t)).toArray] ∧ H = [] := by
  have h4 : (IntKind.i64.wrap (a.tdiv 4)).tmod 2 = a / 4 % 2 := by
    rw [Int.tdiv_eq_ediv_of_nonneg ha.1, wrap64 (by omega) (by omega), Int.tmod_eq_emod_of_nonneg (by omega)]
  have h16 : (IntKind.i64.wrap (a.tdiv 16)).tmod 2 = a / 16 % 2 := by
    rw [Int.tdiv_eq_ediv_of_nonneg ha.1, wrap64 (by omega) (by omega), Int.tmod_eq_emod_of_nonneg (by omega)]
  have m4 : a.tmod 4 = a % 4 := Int.tmod_eq_emod_of_nonneg ha.1
  have m2 : a.tmod 2 = a % 2 := Int.tmod_eq_emod_of_nonneg ha.1
  have m128 : a.tmod 128 = ((a % 128).toNat : Int) := by rw [Int.tmod_eq_emod_of_nonneg ha.1]; omega
  have hsL := hs.L
  have e8 : IntKind.u8.wrap (lv s.i1 s.o1 s.w1) = lv s.i1 s.o1 s.w1 := u8_id (lvN_le _ _ _ hs.p1)
  refine ACalls.code tabOk h72 Try.func72 Try.call72 ok72 ?_
  conv => whnf
  rw [ea]
  conv => whnf
  refine Bif.knF ?_ fun h0 => ?_
  · (simp; omega)
  rw [h0]
  conv => whnf
  rw [h4]
  conv => whnf
  rw [c2]
  conv => whnf
  rw [m4]
  conv => whnf
  rw [c3]
  conv => whnf
  refine dropF_suf hsL.len 3 rfl ?_
  conv => whnf
  refine dropF_zero ?_
  conv => whnf
  refine takeF_rec hsL.len rfl ?_
  conv => whnf
  refine ACalls.useE (rf_level _ _ _ ?_) [] rfl (by (conv => whnf); try rfl) (by (conv => whnf); try rfl) ?_
  · exact hs.p1
  conv => whnf
  refine dropF_zero ?_
  conv => whnf
  refine takeF_rec hsL.len rfl ?_
  conv => whnf
  refine ⟨rfl, ?_⟩
  conv => whnf
  rw [e8]
  conv => whnf
  refine Req.of ?_ ?_
  · exact rec_fits hsL.len rfl rfl (hsL.all fun _ => rfl) rfl
  conv => whnf
  refine putF_wholeRL hsL.len rfl ?_
  conv => whnf
  refine dropF_zero ?_
  conv => whnf
  refine takeF_rec hsL.len rfl ?_
  conv => whnf
  refine Req.of ?_ ?_
  · exact bdv_pair (recC_all rfl (hsL.all fun _ => rfl) rfl)
  conv => whnf
  exact ⟨rfl, rfl⟩
theorem rfrd_p3 (s : RS) (hs : s.Ok) (t : RT) (ht : t.Ok) (hr : t.tm = s.tm) (ad a : Int) (ea : ad.tmod 1024 = a) (ha : 0 ≤ a ∧ a < 1024) (c : ¬ a < 512) (c2 : a / 4 % 2 = 0) (c3 : a % 4 = 3) : ACalls Try.prog 72 [.agg (recC [] s.L (rfR s t)).toArray, .int .i64 ad] [] fun v H => v = .tuple #[.int .u8 (s.w1), .agg (recC [] s.L (rfR s t)).toArray] ∧ H = [] := by
  have h4 : (IntKind.i64.wrap (a.tdiv 4)).tmod 2 = a / 4 % 2 := by
    rw [Int.tdiv_eq_ediv_of_nonneg ha.1, wrap64 (by omega) (by omega), Int.tmod_eq_emod_of_nonneg (by omega)]
  have h16 : (IntKind.i64.wrap (a.tdiv 16)).tmod 2 = a / 16 % 2 := by
    rw [Int.tdiv_eq_ediv_of_nonneg ha.1, wrap64 (by omega) (by omega), Int.tmod_eq_emod_of_nonneg (by omega)]
  have m4 : a.tmod 4 = a % 4 := Int.tmod_eq_emod_of_nonneg ha.1
  have m2 : a.tmod 2 = a % 2 := Int.tmod_eq_emod_of_nonneg ha.1
  have m128 : a.tmod 128 = ((a % 128).toNat : Int) := by rw [Int.tmod_eq_emod_of_nonneg ha.1]; omega
  have hsL := hs.L
  have e8 : IntKind.u8.wrap (s.w1) = s.w1 := u8_id (hs.p1.2.2)
  refine ACalls.code tabOk h72 Try.func72 Try.call72 ok72 ?_
  conv => whnf
  rw [ea]
  conv => whnf
  refine Bif.knF ?_ fun h0 => ?_
  · (simp; omega)
  rw [h0]
  conv => whnf
  rw [h4]
  conv => whnf
  rw [c2]
  conv => whnf
  rw [m4]
  conv => whnf
  rw [c3]
  conv => whnf
  refine getF_suf hsL.len 5 rfl ?_
  conv => whnf
  rw [e8]
  conv => whnf
  refine dropF_zero ?_
  conv => whnf
  refine takeF_rec hsL.len rfl ?_
  conv => whnf
  refine Req.of ?_ ?_
  · exact rec_fits hsL.len rfl rfl (hsL.all fun _ => rfl) rfl
  conv => whnf
  refine putF_wholeRL hsL.len rfl ?_
  conv => whnf
  refine dropF_zero ?_
  conv => whnf
  refine takeF_rec hsL.len rfl ?_
  conv => whnf
  refine Req.of ?_ ?_
  · exact bdv_pair (recC_all rfl (hsL.all fun _ => rfl) rfl)
  conv => whnf
  exact ⟨rfl, rfl⟩
theorem rfst_ram (s : RS) (hs : s.Ok) (t : RT) (ht : t.Ok) (hr : t.tm = s.tm) (ad a : Int) (ea : ad.tmod 1024 = a) (ha : 0 ≤ a ∧ a < 1024) (x : Int) (hx : 0 ≤ x ∧ x ≤ 255) (c : a < 512) : ACalls Try.prog 73 [.agg (recC [] s.L (rfR s t)).toArray, .int .i64 ad, .int .i64 x] [] fun v H => v = .agg (recC [] (wr s.L (a % 128).toNat x) (rfR s t)).toArray ∧ H = [] := by
  have h4 : (IntKind.i64.wrap (a.tdiv 4)).tmod 2 = a / 4 % 2 := by
    rw [Int.tdiv_eq_ediv_of_nonneg ha.1, wrap64 (by omega) (by omega), Int.tmod_eq_emod_of_nonneg (by omega)]
  have h16 : (IntKind.i64.wrap (a.tdiv 16)).tmod 2 = a / 16 % 2 := by
    rw [Int.tdiv_eq_ediv_of_nonneg ha.1, wrap64 (by omega) (by omega), Int.tmod_eq_emod_of_nonneg (by omega)]
  have m4 : a.tmod 4 = a % 4 := Int.tmod_eq_emod_of_nonneg ha.1
  have m2 : a.tmod 2 = a % 2 := Int.tmod_eq_emod_of_nonneg ha.1
  have m128 : a.tmod 128 = ((a % 128).toNat : Int) := by rw [Int.tmod_eq_emod_of_nonneg ha.1]; omega
  have hsL := hs.L
  have e8 : IntKind.u8.wrap x = x := u8_id hx
  have hwL := hsL.wr (j := (a % 128).toNat) (by omega) hx
  refine ACalls.code tabOk h73 Try.func73 Try.call73 ok73 ?_
  conv => whnf
  rw [ea]
  conv => whnf
  refine Bif.knT ?_ fun h0 => ?_
  · (simp; omega)
  rw [h0]
  conv => whnf
  rw [m128]
  conv => whnf
  rw [e8]
  conv => whnf
  refine Req.of ?_ ?_
  · (simp; omega)
  conv => whnf
  refine putF_ramR hsL (a % 128).toNat (by first | omega | (dsimp only; omega)) (by omega) ?_
  conv => whnf
  refine dropF_zero ?_
  conv => whnf
  refine takeF_rec hwL.len rfl ?_
  conv => whnf
  refine Req.of ?_ ?_
  · exact rec_fits hwL.len rfl rfl (hwL.all fun _ => rfl) rfl
  conv => whnf
  refine putF_wholeRL hwL.len rfl ?_
  conv => whnf
  refine dropF_zero ?_
  conv => whnf
  refine takeF_rec hwL.len rfl ?_
  conv => whnf
  refine Req.of ?_ ?_
  · exact recC_all rfl (hwL.all fun _ => rfl) rfl
  conv => whnf
  exact ⟨rfl, rfl⟩
theorem rfst_tm (s : RS) (hs : s.Ok) (t : RT) (ht : t.Ok) (hr : t.tm = s.tm) (ad a : Int) (ea : ad.tmod 1024 = a) (ha : 0 ≤ a ∧ a < 1024) (x : Int) (hx : 0 ≤ x ∧ x ≤ 255) (c : ¬ a < 512) (c2 : a / 4 % 2 = 1) (c3 : a / 16 % 2 = 1) : ACalls Try.prog 73 [.agg (recC [] s.L (rfR s t)).toArray, .int .i64 ad, .int .i64 x] [] fun v H => v = .agg (recC [] s.L (rfR s ⟨x, ivl (a % 4), 1, 0⟩)).toArray ∧ H = [] := by
  have h4 : (IntKind.i64.wrap (a.tdiv 4)).tmod 2 = a / 4 % 2 := by
    rw [Int.tdiv_eq_ediv_of_nonneg ha.1, wrap64 (by omega) (by omega), Int.tmod_eq_emod_of_nonneg (by omega)]
  have h16 : (IntKind.i64.wrap (a.tdiv 16)).tmod 2 = a / 16 % 2 := by
    rw [Int.tdiv_eq_ediv_of_nonneg ha.1, wrap64 (by omega) (by omega), Int.tmod_eq_emod_of_nonneg (by omega)]
  have m4 : a.tmod 4 = a % 4 := Int.tmod_eq_emod_of_nonneg ha.1
  have m2 : a.tmod 2 = a % 2 := Int.tmod_eq_emod_of_nonneg ha.1
  have m128 : a.tmod 128 = ((a % 128).toNat : Int) := by rw [Int.tmod_eq_emod_of_nonneg ha.1]; omega
  have hsL := hs.L
  have e8 : IntKind.u8.wrap x = x := u8_id hx
  refine ACalls.code tabOk h73 Try.func73 Try.call73 ok73 ?_
  conv => whnf
  rw [ea]
  conv => whnf
  refine Bif.knF ?_ fun h0 => ?_
  · (simp; omega)
  rw [h0]
  conv => whnf
  rw [h4]
  conv => whnf
  rw [c2]
  conv => whnf
  rw [h16]
  conv => whnf
  rw [c3]
  conv => whnf
  refine ACalls.useE (rt_write _ _ ?_) [] rfl (by (conv => whnf); try rfl) (by (conv => whnf); try rfl) ?_
  · omega
  conv => whnf
  rw [m4]
  conv => whnf
  refine putF_sufR hsL.len 6 rfl ?_
  conv => whnf
  refine dropF_zero ?_
  conv => whnf
  refine takeF_rec hsL.len rfl ?_
  conv => whnf
  refine Req.of ?_ ?_
  · exact rec_fits hsL.len rfl rfl (hsL.all fun _ => rfl) rfl
  conv => whnf
  refine putF_wholeRL hsL.len rfl ?_
  conv => whnf
  refine dropF_zero ?_
  conv => whnf
  refine takeF_rec hsL.len rfl ?_
  conv => whnf
  refine Req.of ?_ ?_
  · exact recC_all rfl (hsL.all fun _ => rfl) rfl
  conv => whnf
  exact ⟨rfl, rfl⟩
theorem rfst_e0 (s : RS) (hs : s.Ok) (t : RT) (ht : t.Ok) (hr : t.tm = s.tm) (ad a : Int) (ea : ad.tmod 1024 = a) (ha : 0 ≤ a ∧ a < 1024) (x : Int) (hx : 0 ≤ x ∧ x ≤ 255) (c : ¬ a < 512) (c2 : a / 4 % 2 = 1) (c3 : a / 16 % 2 = 0) (c4 : a % 2 = 0) : ACalls Try.prog 73 [.agg (recC [] s.L (rfR s t)).toArray, .int .i64 ad, .int .i64 x] [] fun v H => v = .agg (recC [] s.L (rfR { s with er := false } t)).toArray ∧ H = [] := by
  have h4 : (IntKind.i64.wrap (a.tdiv 4)).tmod 2 = a / 4 % 2 := by
    rw [Int.tdiv_eq_ediv_of_nonneg ha.1, wrap64 (by omega) (by omega), Int.tmod_eq_emod_of_nonneg (by omega)]
  have h16 : (IntKind.i64.wrap (a.tdiv 16)).tmod 2 = a / 16 % 2 := by
    rw [Int.tdiv_eq_ediv_of_nonneg ha.1, wrap64 (by omega) (by omega), Int.tmod_eq_emod_of_nonneg (by omega)]
  have m4 : a.tmod 4 = a % 4 := Int.tmod_eq_emod_of_nonneg ha.1
  have m2 : a.tmod 2 = a % 2 := Int.tmod_eq_emod_of_nonneg ha.1
  have m128 : a.tmod 128 = ((a % 128).toNat : Int) := by rw [Int.tmod_eq_emod_of_nonneg ha.1]; omega
  have hsL := hs.L
  have e8 : IntKind.u8.wrap x = x := u8_id hx
  refine ACalls.code tabOk h73 Try.func73 Try.call73 ok73 ?_
  conv => whnf
  rw [ea]
  conv => whnf
  refine Bif.knF ?_ fun h0 => ?_
  · (simp; omega)
  rw [h0]
  conv => whnf
  rw [h4]
  conv => whnf
  rw [c2]
  conv => whnf
  rw [h16]
  conv => whnf
  rw [c3]
  conv => whnf
  rw [m2]
  conv => whnf
  rw [c4]
  conv => whnf
  refine putF_sufR hsL.len 13 rfl ?_
  conv => whnf
  refine dropF_zero ?_
  conv => whnf
  refine takeF_rec hsL.len rfl ?_
  conv => whnf
  refine Req.of ?_ ?_
  · exact rec_fits hsL.len rfl rfl (hsL.all fun _ => rfl) rfl
  conv => whnf
  refine putF_wholeRL hsL.len rfl ?_
  conv => whnf
  refine dropF_zero ?_
  conv => whnf
  refine takeF_rec hsL.len rfl ?_
  conv => whnf
  refine Req.of ?_ ?_
  · exact recC_all rfl (hsL.all fun _ => rfl) rfl
  conv => whnf
  exact ⟨rfl, rfl⟩
theorem rfst_e1 (s : RS) (hs : s.Ok) (t : RT) (ht : t.Ok) (hr : t.tm = s.tm) (ad a : Int) (ea : ad.tmod 1024 = a) (ha : 0 ≤ a ∧ a < 1024) (x : Int) (hx : 0 ≤ x ∧ x ≤ 255) (c : ¬ a < 512) (c2 : a / 4 % 2 = 1) (c3 : a / 16 % 2 = 0) (c4 : a % 2 = 1) : ACalls Try.prog 73 [.agg (recC [] s.L (rfR s t)).toArray, .int .i64 ad, .int .i64 x] [] fun v H => v = .agg (recC [] s.L (rfR { s with er := true } t)).toArray ∧ H = [] := by
  have h4 : (IntKind.i64.wrap (a.tdiv 4)).tmod 2 = a / 4 % 2 := by
    rw [Int.tdiv_eq_ediv_of_nonneg ha.1, wrap64 (by omega) (by omega), Int.tmod_eq_emod_of_nonneg (by omega)]
  have h16 : (IntKind.i64.wrap (a.tdiv 16)).tmod 2 = a / 16 % 2 := by
    rw [Int.tdiv_eq_ediv_of_nonneg ha.1, wrap64 (by omega) (by omega), Int.tmod_eq_emod_of_nonneg (by omega)]
  have m4 : a.tmod 4 = a % 4 := Int.tmod_eq_emod_of_nonneg ha.1
  have m2 : a.tmod 2 = a % 2 := Int.tmod_eq_emod_of_nonneg ha.1
  have m128 : a.tmod 128 = ((a % 128).toNat : Int) := by rw [Int.tmod_eq_emod_of_nonneg ha.1]; omega
  have hsL := hs.L
  have e8 : IntKind.u8.wrap x = x := u8_id hx
  refine ACalls.code tabOk h73 Try.func73 Try.call73 ok73 ?_
  conv => whnf
  rw [ea]
  conv => whnf
  refine Bif.knF ?_ fun h0 => ?_
  · (simp; omega)
  rw [h0]
  conv => whnf
  rw [h4]
  conv => whnf
  rw [c2]
  conv => whnf
  rw [h16]
  conv => whnf
  rw [c3]
  conv => whnf
  rw [m2]
  conv => whnf
  rw [c4]
  conv => whnf
  refine putF_sufR hsL.len 13 rfl ?_
  conv => whnf
  refine dropF_zero ?_
  conv => whnf
  refine takeF_rec hsL.len rfl ?_
  conv => whnf
  refine Req.of ?_ ?_
  · exact rec_fits hsL.len rfl rfl (hsL.all fun _ => rfl) rfl
  conv => whnf
  refine putF_wholeRL hsL.len rfl ?_
  conv => whnf
  refine dropF_zero ?_
  conv => whnf
  refine takeF_rec hsL.len rfl ?_
  conv => whnf
  refine Req.of ?_ ?_
  · exact recC_all rfl (hsL.all fun _ => rfl) rfl
  conv => whnf
  exact ⟨rfl, rfl⟩
theorem rfst_p0 (s : RS) (hs : s.Ok) (t : RT) (ht : t.Ok) (hr : t.tm = s.tm) (ad a : Int) (ea : ad.tmod 1024 = a) (ha : 0 ≤ a ∧ a < 1024) (x : Int) (hx : 0 ≤ x ∧ x ≤ 255) (c : ¬ a < 512) (c2 : a / 4 % 2 = 0) (c3 : a % 4 = 0) : ACalls Try.prog 73 [.agg (recC [] s.L (rfR s t)).toArray, .int .i64 ad, .int .i64 x] [] fun v H => v = .agg (recC [] s.L (rfR { s with o0 := x } t)).toArray ∧ H = [] := by
  have h4 : (IntKind.i64.wrap (a.tdiv 4)).tmod 2 = a / 4 % 2 := by
    rw [Int.tdiv_eq_ediv_of_nonneg ha.1, wrap64 (by omega) (by omega), Int.tmod_eq_emod_of_nonneg (by omega)]
  have h16 : (IntKind.i64.wrap (a.tdiv 16)).tmod 2 = a / 16 % 2 := by
    rw [Int.tdiv_eq_ediv_of_nonneg ha.1, wrap64 (by omega) (by omega), Int.tmod_eq_emod_of_nonneg (by omega)]
  have m4 : a.tmod 4 = a % 4 := Int.tmod_eq_emod_of_nonneg ha.1
  have m2 : a.tmod 2 = a % 2 := Int.tmod_eq_emod_of_nonneg ha.1
  have m128 : a.tmod 128 = ((a % 128).toNat : Int) := by rw [Int.tmod_eq_emod_of_nonneg ha.1]; omega
  have hsL := hs.L
  have e8 : IntKind.u8.wrap x = x := u8_id hx
  refine ACalls.code tabOk h73 Try.func73 Try.call73 ok73 ?_
  conv => whnf
  rw [ea]
  conv => whnf
  refine Bif.knF ?_ fun h0 => ?_
  · (simp; omega)
  rw [h0]
  conv => whnf
  rw [h4]
  conv => whnf
  rw [c2]
  conv => whnf
  rw [m4]
  conv => whnf
  rw [c3]
  conv => whnf
  refine putF_sufR hsL.len 1 rfl ?_
  conv => whnf
  refine dropF_zero ?_
  conv => whnf
  refine takeF_rec hsL.len rfl ?_
  conv => whnf
  refine Req.of ?_ ?_
  · exact rec_fits hsL.len rfl rfl (hsL.all fun _ => rfl) rfl
  conv => whnf
  refine putF_wholeRL hsL.len rfl ?_
  conv => whnf
  refine dropF_zero ?_
  conv => whnf
  refine takeF_rec hsL.len rfl ?_
  conv => whnf
  refine Req.of ?_ ?_
  · exact recC_all rfl (hsL.all fun _ => rfl) rfl
  conv => whnf
  exact ⟨rfl, rfl⟩
theorem rfst_p1 (s : RS) (hs : s.Ok) (t : RT) (ht : t.Ok) (hr : t.tm = s.tm) (ad a : Int) (ea : ad.tmod 1024 = a) (ha : 0 ≤ a ∧ a < 1024) (x : Int) (hx : 0 ≤ x ∧ x ≤ 255) (c : ¬ a < 512) (c2 : a / 4 % 2 = 0) (c3 : a % 4 = 1) : ACalls Try.prog 73 [.agg (recC [] s.L (rfR s t)).toArray, .int .i64 ad, .int .i64 x] [] fun v H => v = .agg (recC [] s.L (rfR { s with w0 := x } t)).toArray ∧ H = [] := by
  have h4 : (IntKind.i64.wrap (a.tdiv 4)).tmod 2 = a / 4 % 2 := by
    rw [Int.tdiv_eq_ediv_of_nonneg ha.1, wrap64 (by omega) (by omega), Int.tmod_eq_emod_of_nonneg (by omega)]
  have h16 : (IntKind.i64.wrap (a.tdiv 16)).tmod 2 = a / 16 % 2 := by
    rw [Int.tdiv_eq_ediv_of_nonneg ha.1, wrap64 (by omega) (by omega), Int.tmod_eq_emod_of_nonneg (by omega)]
  have m4 : a.tmod 4 = a % 4 := Int.tmod_eq_emod_of_nonneg ha.1
  have m2 : a.tmod 2 = a % 2 := Int.tmod_eq_emod_of_nonneg ha.1
  have m128 : a.tmod 128 = ((a % 128).toNat : Int) := by rw [Int.tmod_eq_emod_of_nonneg ha.1]; omega
  have hsL := hs.L
  have e8 : IntKind.u8.wrap x = x := u8_id hx
  refine ACalls.code tabOk h73 Try.func73 Try.call73 ok73 ?_
  conv => whnf
  rw [ea]
  conv => whnf
  refine Bif.knF ?_ fun h0 => ?_
  · (simp; omega)
  rw [h0]
  conv => whnf
  rw [h4]
  conv => whnf
  rw [c2]
  conv => whnf
  rw [m4]
  conv => whnf
  rw [c3]
  conv => whnf
  refine putF_sufR hsL.len 2 rfl ?_
  conv => whnf
  refine dropF_zero ?_
  conv => whnf
  refine takeF_rec hsL.len rfl ?_
  conv => whnf
  refine Req.of ?_ ?_
  · exact rec_fits hsL.len rfl rfl (hsL.all fun _ => rfl) rfl
  conv => whnf
  refine putF_wholeRL hsL.len rfl ?_
  conv => whnf
  refine dropF_zero ?_
  conv => whnf
  refine takeF_rec hsL.len rfl ?_
  conv => whnf
  refine Req.of ?_ ?_
  · exact recC_all rfl (hsL.all fun _ => rfl) rfl
  conv => whnf
  exact ⟨rfl, rfl⟩
theorem rfst_p2 (s : RS) (hs : s.Ok) (t : RT) (ht : t.Ok) (hr : t.tm = s.tm) (ad a : Int) (ea : ad.tmod 1024 = a) (ha : 0 ≤ a ∧ a < 1024) (x : Int) (hx : 0 ≤ x ∧ x ≤ 255) (c : ¬ a < 512) (c2 : a / 4 % 2 = 0) (c3 : a % 4 = 2) : ACalls Try.prog 73 [.agg (recC [] s.L (rfR s t)).toArray, .int .i64 ad, .int .i64 x] [] fun v H => v = .agg (recC [] s.L (rfR { s with o1 := x } t)).toArray ∧ H = [] := by
  have h4 : (IntKind.i64.wrap (a.tdiv 4)).tmod 2 = a / 4 % 2 := by
    rw [Int.tdiv_eq_ediv_of_nonneg ha.1, wrap64 (by omega) (by omega), Int.tmod_eq_emod_of_nonneg (by omega)]
  have h16 : (IntKind.i64.wrap (a.tdiv 16)).tmod 2 = a / 16 % 2 := by
    rw [Int.tdiv_eq_ediv_of_nonneg ha.1, wrap64 (by omega) (by omega), Int.tmod_eq_emod_of_nonneg (by omega)]
  have m4 : a.tmod 4 = a % 4 := Int.tmod_eq_emod_of_nonneg ha.1
  have m2 : a.tmod 2 = a % 2 := Int.tmod_eq_emod_of_nonneg ha.1
  have m128 : a.tmod 128 = ((a % 128).toNat : Int) := by rw [Int.tmod_eq_emod_of_nonneg ha.1]; omega
  have hsL := hs.L
  have e8 : IntKind.u8.wrap x = x := u8_id hx
  refine ACalls.code tabOk h73 Try.func73 Try.call73 ok73 ?_
  conv => whnf
  rw [ea]
  conv => whnf
  refine Bif.knF ?_ fun h0 => ?_
  · (simp; omega)
  rw [h0]
  conv => whnf
  rw [h4]
  conv => whnf
  rw [c2]
  conv => whnf
  rw [m4]
  conv => whnf
  rw [c3]
  conv => whnf
  refine putF_sufR hsL.len 4 rfl ?_
  conv => whnf
  refine dropF_zero ?_
  conv => whnf
  refine takeF_rec hsL.len rfl ?_
  conv => whnf
  refine Req.of ?_ ?_
  · exact rec_fits hsL.len rfl rfl (hsL.all fun _ => rfl) rfl
  conv => whnf
  refine putF_wholeRL hsL.len rfl ?_
  conv => whnf
  refine dropF_zero ?_
  conv => whnf
  refine takeF_rec hsL.len rfl ?_
  conv => whnf
  refine Req.of ?_ ?_
  · exact recC_all rfl (hsL.all fun _ => rfl) rfl
  conv => whnf
  exact ⟨rfl, rfl⟩
theorem rfst_p3 (s : RS) (hs : s.Ok) (t : RT) (ht : t.Ok) (hr : t.tm = s.tm) (ad a : Int) (ea : ad.tmod 1024 = a) (ha : 0 ≤ a ∧ a < 1024) (x : Int) (hx : 0 ≤ x ∧ x ≤ 255) (c : ¬ a < 512) (c2 : a / 4 % 2 = 0) (c3 : a % 4 = 3) : ACalls Try.prog 73 [.agg (recC [] s.L (rfR s t)).toArray, .int .i64 ad, .int .i64 x] [] fun v H => v = .agg (recC [] s.L (rfR { s with w1 := x } t)).toArray ∧ H = [] := by
  have h4 : (IntKind.i64.wrap (a.tdiv 4)).tmod 2 = a / 4 % 2 := by
    rw [Int.tdiv_eq_ediv_of_nonneg ha.1, wrap64 (by omega) (by omega), Int.tmod_eq_emod_of_nonneg (by omega)]
  have h16 : (IntKind.i64.wrap (a.tdiv 16)).tmod 2 = a / 16 % 2 := by
    rw [Int.tdiv_eq_ediv_of_nonneg ha.1, wrap64 (by omega) (by omega), Int.tmod_eq_emod_of_nonneg (by omega)]
  have m4 : a.tmod 4 = a % 4 := Int.tmod_eq_emod_of_nonneg ha.1
  have m2 : a.tmod 2 = a % 2 := Int.tmod_eq_emod_of_nonneg ha.1
  have m128 : a.tmod 128 = ((a % 128).toNat : Int) := by rw [Int.tmod_eq_emod_of_nonneg ha.1]; omega
  have hsL := hs.L
  have e8 : IntKind.u8.wrap x = x := u8_id hx
  refine ACalls.code tabOk h73 Try.func73 Try.call73 ok73 ?_
  conv => whnf
  rw [ea]
  conv => whnf
  refine Bif.knF ?_ fun h0 => ?_
  · (simp; omega)
  rw [h0]
  conv => whnf
  rw [h4]
  conv => whnf
  rw [c2]
  conv => whnf
  rw [m4]
  conv => whnf
  rw [c3]
  conv => whnf
  refine putF_sufR hsL.len 5 rfl ?_
  conv => whnf
  refine dropF_zero ?_
  conv => whnf
  refine takeF_rec hsL.len rfl ?_
  conv => whnf
  refine Req.of ?_ ?_
  · exact rec_fits hsL.len rfl rfl (hsL.all fun _ => rfl) rfl
  conv => whnf
  refine putF_wholeRL hsL.len rfl ?_
  conv => whnf
  refine dropF_zero ?_
  conv => whnf
  refine takeF_rec hsL.len rfl ?_
  conv => whnf
  refine Req.of ?_ ?_
  · exact recC_all rfl (hsL.all fun _ => rfl) rfl
  conv => whnf
  exact ⟨rfl, rfl⟩
theorem rf_read (s : RS) (hs : s.Ok) (t : RT) (ht : t.Ok) (hr : t.tm = s.tm) (ad : Int) (had : 0 ≤ ad ∧ ad ≤ 65535) : ACalls Try.prog 72 [.agg (recC [] s.L (rfR s t)).toArray, .int .i64 ad] [] fun v H => ∃ t2 : RT, (t2.Ok ∧ t2.tm = (rsRead s (ad % 1024)).tm ∧ t2.gone ≤ t.gone) ∧ v = .tuple #[.int .u8 (rsOut s (ad % 1024)), .agg (recC [] (rsRead s (ad % 1024)).L (rfR (rsRead s (ad % 1024)) t2)).toArray] ∧ H = [] := by
  have ea : ad.tmod 1024 = ad % 1024 := Int.tmod_eq_emod_of_nonneg had.1
  have ha : 0 ≤ ad % 1024 ∧ ad % 1024 < 1024 := by omega
  generalize ad % 1024 = a at ea ha
  unfold rsRead rsOut
  have same : t.Ok ∧ t.tm = s.tm ∧ t.gone ≤ t.gone := ⟨ht, hr, Int.le_refl _⟩
  by_cases c : a < 512
  · rw [if_pos (show a / 512 % 2 = 0 by omega), if_pos (show a / 512 % 2 = 0 by omega)]
    exact (rfrd_ram s hs t ht hr ad a ea ha c).imp fun v H h => ⟨t, same, h.1, h.2⟩
  · rw [if_neg (show ¬ a / 512 % 2 = 0 by omega), if_neg (show ¬ a / 512 % 2 = 0 by omega)]
    by_cases c2 : a / 4 % 2 = 1
    · rw [if_pos c2, if_pos c2]
      by_cases c3 : a % 2 = 1
      · rw [if_pos c3, if_pos c3]
        cases c4 : s.tm.fl <;> cases c5 : s.ec
        · exact (rfrd_fl_false_false s hs t ht hr ad a ea ha c c2 c3 c4 c5).imp fun v H h => ⟨t, same, h.1, h.2⟩
        · exact (rfrd_fl_false_true s hs t ht hr ad a ea ha c c2 c3 c4 c5).imp fun v H h => ⟨t, same, h.1, h.2⟩
        · exact (rfrd_fl_true_false s hs t ht hr ad a ea ha c c2 c3 c4 c5).imp fun v H h => ⟨t, same, h.1, h.2⟩
        · exact (rfrd_fl_true_true s hs t ht hr ad a ea ha c c2 c3 c4 c5).imp fun v H h => ⟨t, same, h.1, h.2⟩
      · rw [if_neg c3, if_neg c3]
        have hk := RT.rd_ok ht
        exact (rfrd_tm s hs t ht hr ad a ea ha c c2 (by omega)).imp fun v H h => ⟨t.rd, ⟨hk.1, by rw [hk.2.1, hr], hk.2.2⟩, h.1, h.2⟩
    · rw [if_neg c2, if_neg c2]
      have c4 : a % 4 = 0 ∨ a % 4 = 1 ∨ a % 4 = 2 ∨ a % 4 = 3 := by omega
      rcases c4 with c4 | c4 | c4 | c4
      · rw [if_neg (by omega), if_pos (by omega)]
        exact (rfrd_p0 s hs t ht hr ad a ea ha c (by omega) c4).imp fun v H h => ⟨t, same, h.1, h.2⟩
      · rw [if_pos (by omega), if_pos (by omega)]
        exact (rfrd_p1 s hs t ht hr ad a ea ha c (by omega) c4).imp fun v H h => ⟨t, same, h.1, h.2⟩
      · rw [if_neg (by omega), if_neg (by omega)]
        exact (rfrd_p2 s hs t ht hr ad a ea ha c (by omega) c4).imp fun v H h => ⟨t, same, h.1, h.2⟩
      · rw [if_pos (by omega), if_neg (by omega)]
        exact (rfrd_p3 s hs t ht hr ad a ea ha c (by omega) c4).imp fun v H h => ⟨t, same, h.1, h.2⟩
theorem rf_store (s : RS) (hs : s.Ok) (t : RT) (ht : t.Ok) (hr : t.tm = s.tm) (ad x : Int) (had : 0 ≤ ad ∧ ad ≤ 65535) (hx : 0 ≤ x ∧ x ≤ 255) : ACalls Try.prog 73 [.agg (recC [] s.L (rfR s t)).toArray, .int .i64 ad, .int .i64 x] [] fun v H => ∃ t2 : RT, (t2.Ok ∧ t2.tm = (rsStore s (ad % 1024) x).tm ∧ t2.gone ≤ t.gone) ∧ v = .agg (recC [] (rsStore s (ad % 1024) x).L (rfR (rsStore s (ad % 1024) x) t2)).toArray ∧ H = [] := by
  have ea : ad.tmod 1024 = ad % 1024 := Int.tmod_eq_emod_of_nonneg had.1
  have ha : 0 ≤ ad % 1024 ∧ ad % 1024 < 1024 := by omega
  generalize ad % 1024 = a at ea ha
  unfold rsStore
  have same : t.Ok ∧ t.tm = s.tm ∧ t.gone ≤ t.gone := ⟨ht, hr, Int.le_refl _⟩
  by_cases c : a < 512
  · rw [if_pos (show a / 512 % 2 = 0 by omega)]
    exact (rfst_ram s hs t ht hr ad a ea ha x hx c).imp fun v H h => ⟨t, same, h.1, h.2⟩
  · rw [if_neg (show ¬ a / 512 % 2 = 0 by omega)]
    by_cases c2 : a / 4 % 2 = 1
    · rw [if_pos c2]
      by_cases c3 : a / 16 % 2 = 1
      · rw [if_pos c3]
        have hv := ivl_ok (a % 4)
        have hv1 : 1 ≤ ivl (a % 4) ∧ ivl (a % 4) ≤ 1024 := by omega
        refine (rfst_tm s hs t ht hr ad a ea ha x hx c c2 c3).imp fun v H h => ⟨⟨x, ivl (a % 4), 1, 0⟩, ⟨⟨hx, hv, ⟨Int.le_refl _, hv1.1⟩, show (0 : Int) ≤ 0 ∧ (0 : Int) ≤ 1000000 from by decide⟩, ?_, ht.g.1⟩, h.1, h.2⟩
        generalize ivl (a % 4) = iv at hv1
        have hm : 0 ≤ x * iv := Int.mul_nonneg hx.1 (by omega)
        have c1 : ¬ (1 + x * iv ≤ 0) := by omega
        unfold RT.tm RT.fast RT.val RT.left RT.turn
        simp [c1]
      · rw [if_neg c3]
        by_cases c4 : a % 2 = 1
        · rw [if_pos c4]
          exact (rfst_e1 s hs t ht hr ad a ea ha x hx c c2 (by omega) c4).imp fun v H h => ⟨t, same, h.1, h.2⟩
        · rw [if_neg c4]
          exact (rfst_e0 s hs t ht hr ad a ea ha x hx c c2 (by omega) (by omega)).imp fun v H h => ⟨t, same, h.1, h.2⟩
    · rw [if_neg c2]
      have c4 : a % 4 = 0 ∨ a % 4 = 1 ∨ a % 4 = 2 ∨ a % 4 = 3 := by omega
      rcases c4 with c4 | c4 | c4 | c4
      · rw [if_neg (by omega), if_pos (by omega)]
        exact (rfst_p0 s hs t ht hr ad a ea ha x hx c (by omega) c4).imp fun v H h => ⟨t, same, h.1, h.2⟩
      · rw [if_pos (by omega), if_pos (by omega)]
        exact (rfst_p1 s hs t ht hr ad a ea ha x hx c (by omega) c4).imp fun v H h => ⟨t, same, h.1, h.2⟩
      · rw [if_neg (by omega), if_neg (by omega)]
        exact (rfst_p2 s hs t ht hr ad a ea ha x hx c (by omega) c4).imp fun v H h => ⟨t, same, h.1, h.2⟩
      · rw [if_pos (by omega), if_neg (by omega)]
        exact (rfst_p3 s hs t ht hr ad a ea ha x hx c (by omega) c4).imp fun v H h => ⟨t, same, h.1, h.2⟩
end Go.Proofs
