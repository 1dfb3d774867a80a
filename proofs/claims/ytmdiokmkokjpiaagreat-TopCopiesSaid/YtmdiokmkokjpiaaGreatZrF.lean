/-
  Walks through the functions of the program, by contract.
-/
import Derived.Test.YtmdiokmkokjpiaaGreatZqF
set_option linter.all false
set_option linter.unusedVariables false
set_option linter.unusedSimpArgs false
set_option linter.unnecessarySimpa false
namespace Go.Proofs
open Go.Aw
set_option maxRecDepth 100000
set_option maxHeartbeats 8000000
/-- How many steps 'shown' takes till the line ends. -/
@[irreducible] def shN (c : Nat) : Nat := 228 + (228 - c) % 228
/-- What 'shown' shows at a pixel. -/
@[irreducible] def shP (s : TS) (x : Nat) : Int := pxV (stpN (shN s.c + 68 + x) s)
@[irreducible] def dkB (s : TS) : Bool := decide (s.c < 68)
@[irreducible] def syB (s : TS) : Bool := decide (20 ≤ s.c ∧ s.c < 36)
@[irreducible] def bgB (s : TS) : Bool := decide (s.c = 0)
@[irreducible] def ckI (s : TS) : Int := (s.c : Nat)
theorem t_stepQ (s : TS) (hs : s.Top) : ACalls Tryz.prog 12 [.pointer (some ⟨0, 0, none⟩)] (tsH s) fun v H => v = .agg #[.int .i64 (ckI s), .int .u8 (pxV s), .bool (dkB s), .bool (syB s), .int .u8 0, .bool (bgB s)] ∧ H = tsH (stp s) := by
  have := t_step s hs
  unfold ckI dkB syB bgB
  exact this
theorem stpN_succ (n : Nat) (s : TS) : stp (stpN n s) = stpN (n + 1) s := rfl
@[irreducible] def stpI (n : Nat) (s : TS) : TS := stpN n s
theorem stpI_zero (s : TS) : stpI 0 s = s := by unfold stpI; rfl
theorem stpI_eq (n : Nat) (s : TS) : stpI n s = stpN n s := by unfold stpI; rfl
theorem stpI_top {s : TS} (h : s.Top) (n : Nat) : (stpI n s).Top := by unfold stpI; exact stpN_top h n
theorem stpI_c (s : TS) (h : s.c < 228) (n : Nat) : (stpI n s).c = (s.c + n) % 228 := by unfold stpI; exact stpN_c s h n
theorem stpI_succ {n : Nat} {s q : TS} (h : stpI n s = q) : stp q = stpI (n + 1) s := by rw [← h]; unfold stpI; rfl
theorem shN_bd {c : Nat} (h : c < 228) : 228 ≤ shN c ∧ shN c ≤ 455 := by unfold shN; omega
theorem shN_at {c i : Nat} (h : c < 228) (hi : i < shN c) : ((c + i) % 228 = 227 ∧ 227 ≤ i) ↔ i + 1 = shN c := by
  unfold shN at *
  omega
theorem z160 (f : Nat → Int) : List.replicate 160 (.int .u8 0) = rowI .u8 f 0 160 := by rw [← repl_row]; unfold repl; rfl
theorem e68t {j : Nat} (h : j < 68) : decide ((j : Int) < 68) = true := decide_eq_true (by omega)
theorem shP_eq {s q : TS} {x : Nat} (h : stpI (shN s.c + 68 + x) s = q) : pxV q = shP s x := by unfold shP; rw [← h, stpI_eq]
theorem row_fits (q : IntKind) (f : Nat → Int) (n m : Nat) (hm : m = n) (h1 : ∀ x : Int, one (.int q x) = true) : (Nat.beq (rowL q f n).toArray.toList.length m && (rowL q f n).toArray.toList.all one) = true := by
  subst hm
  show (Nat.beq (rowL q f m).length m && (rowL q f m).all one) = true
  rw [rowL_len, Nat.beq_refl, Bool.true_and]
  exact rowL_all h1
theorem putF_rowall {l : List Value} {q : IntKind} {g : Nat → Int} {n : Nat} {k : List Value → Prop} (hl : l.length = n) (hk : k (rowL q g n)) : putF l 0 (rowL q g n).toArray.toList k := putF_of (show 0 + (rowL q g n).length ≤ l.length by rw [rowL_len, hl]; omega) (by
  have e : lay l 0 (rowL q g n).toArray.toList = rowL q g n := by
    show lay l 0 (rowL q g n) = _
    unfold lay; simp [rowL_len, hl]
  rw [e]; exact hk)
theorem takeF_rowL {q : IntKind} {g : Nat → Int} {n o : Nat} {k : List Value → Prop} (ho : o = n) (hk : k (rowL q g n)) : takeF (rowL q g n) o k := by
  subst ho
  exact takeF_of (by rw [rowL_len]; exact Nat.le_refl _) (by rw [List.take_of_length_le (by rw [rowL_len]; exact Nat.le_refl _)]; exact hk)
theorem tshown (s : TS) (hs : s.Top) : ACalls Tryz.prog 9 [.pointer (some ⟨0, 0, none⟩)] (tsH s) fun v H => v = .agg (rowL .u8 (shP s) 160).toArray ∧ H = tsH (stpN (shN s.c + 228) s) := by
  have hL := hs.L
  have hN := shN_bd hs.c
  refine ACalls.code tabOk h9 Tryz.func9 Tryz.call9 ok9 ?_
  conv => whnf

  refine ALoop.fd (σ := Nat) (fun i => [.pointer (some ⟨0, 0, none⟩), .chan none, .pointer (some ⟨40, 0, none⟩), .pointer (some ⟨41, 0, none⟩), .int .i64 i, .chan none, .chan none, .chan none, .chan none, .chan none, .chan none, .chan none, .chan none, .chan none, .chan none, .chan none, .chan none, .chan none, .chan none, .chan none, .chan none, .chan none, .chan none, .chan none, .chan none, .chan none, .chan none, .chan none, .chan none, .chan none, .chan none, .chan none, .chan none, .chan none, .chan none, .chan none, .chan none]) (fun i => tsH (stpI i s) ++ [.cells (rowI .u8 (shP s) 0 160) 29, .cells (rowI .u8 (shP s) 0 160) 29]) (fun i => i + 1 ≤ shN s.c) (fun i => shN s.c - i) 0 [] rfl (by rw [stpI_zero, ← z160]; rfl) (by omega) (fun i => ⟨rfl, rfl, ?hok, rfl⟩) ?_
  case hok =>
    simp only [tsH, List.cons_append, List.nil_append, List.all_cons, List.all_nil, Bool.and_true, Bool.and_eq_true]
    exact ⟨recC_all rfl ((stpI_top hs i).L.all fun _ => rfl) rfl, rfl, rfl, rfl, rfl, rfl, rfl, rfl, rfl, rfl, rfl, rfl, rfl, rfl, rfl, rfl, rfl, rfl, rfl, rfl, rfl, rfl, rfl, rfl, rfl, rfl, rfl, rfl, rfl, rfl, rfl, rfl, rfl, rfl, rfl, rfl, rfl, rfl, rfl, rfl, row_all fun _ => rfl, row_all fun _ => rfl⟩
  intro i hi R hR
  have hsi := stpI_top hs i
  have hsn := stpI_top hs (i + 1)
  have hLi := hsi.L
  have hLn := hsn.L
  have hci := stpI_c s hs.c i
  have hsh := @shN_at s.c i hs.c (by omega)
  have ei : IntKind.i64.wrap ((i : Int) + 1) = ((i + 1 : Nat) : Int) := by rw [wrap64 (by omega) (by omega)]; rfl
  have e456 : decide ((i : Int) < 456) = true := decide_eq_true (by omega)
  have ecc : ((ckI (stpI i s) == 227) && decide ((227 : Int) ≤ i)) = decide (i + 1 = shN s.c) := by
    rw [Bool.eq_iff_iff, Bool.and_eq_true, decide_eq_true_iff, decide_eq_true_iff, beq_iff_eq, ← hsh, ← hci]
    unfold ckI
    omega
  generalize hq : stpI i s = q at *
  have hs2 := stpI_succ hq
  conv => whnf
  rw [e456]
  conv => whnf
  refine ACalls.useE (t_stepQ _ hsi) [0, 1, 2, 3, 4, 5, 6, 7, 8, 9, 10, 11, 12, 13, 14, 15, 16, 17, 18, 19, 20, 21, 22, 23, 24, 25, 26, 27, 28, 29, 30, 31, 32, 33, 34, 35, 36, 37, 38, 39] rfl (by (conv => whnf); first | done | rfl | (refine renL_rec hLi.flat ?_; (conv => whnf); first | done | rfl)) (by (conv => whnf); try rfl) ?_
  conv => whnf
  rw [hs2]
  conv => whnf
  refine renL_rec hLn.flat ?_
  conv => whnf
  refine Bif.of (fun h0 => ?_) fun h0 => ?_
  case' _ =>
    rw [h0]
    conv => whnf
    refine Bif.of (fun h1 => ?_) fun h1 => ?_
  rotate_left
  · rw [h1]
    conv => whnf
    (rw [ei]; exact hR (i + 1) _ _ [_] rfl rfl (by have hx : ¬ (i + 1 = shN s.c) := (by intro hx; rw [h0, decide_eq_true hx] at ecc; first | (rw [h1] at ecc; exact absurd ecc (by decide)) | exact absurd ecc (by simp)); omega) (by omega))
  · rw [h0]
    conv => whnf
    (rw [ei]; exact hR (i + 1) _ _ [_] rfl rfl (by have hx : ¬ (i + 1 = shN s.c) := (by intro hx; rw [h0, decide_eq_true hx] at ecc; first | (rw [h1] at ecc; exact absurd ecc (by decide)) | exact absurd ecc (by simp)); omega) (by omega))
  have hx : i + 1 = shN s.c := by rw [h0, h1] at ecc; simpa using ecc.symm
  clear hR ei e456 hsh hci hLi hLn ecc hq
  rw [h1]
  rw [hx] at hsn hs2 ⊢
  conv => whnf
  refine ALoop.fd (σ := Nat) (fun i => [.pointer (some ⟨0, 0, none⟩), .chan none, .pointer (some ⟨40, 0, none⟩), .pointer (some ⟨41, 0, none⟩), .chan none, .chan none, .int .i64 i, .chan none, .chan none, .chan none, .chan none, .chan none, .chan none, .chan none, .chan none, .chan none, .chan none, .chan none, .chan none, .chan none, .chan none, .chan none, .chan none, .chan none, .chan none, .chan none, .chan none, .chan none, .chan none, .chan none, .chan none, .chan none, .chan none, .chan none, .chan none, .chan none, .chan none]) (fun i => tsH (stpI (shN s.c + i) s) ++ [.cells (rowI .u8 (shP s) 0 160) 29, .cells (rowI .u8 (shP s) 0 160) 29, .cells [.int .i64 (ckI q), .int .u8 (pxV q), .bool (dkB q), .bool (syB q), .int .u8 0, .bool (bgB q)] 36]) (fun i => i ≤ 68) (fun i => 68 - i) 0 [] rfl rfl (by omega) (fun i => ⟨rfl, rfl, ?hok2, rfl⟩) ?_
  case hok2 =>
    simp only [tsH, List.cons_append, List.nil_append, List.all_cons, List.all_nil, Bool.and_true, Bool.and_eq_true]
    exact ⟨recC_all rfl ((stpI_top hs _).L.all fun _ => rfl) rfl, rfl, rfl, rfl, rfl, rfl, rfl, rfl, rfl, rfl, rfl, rfl, rfl, rfl, rfl, rfl, rfl, rfl, rfl, rfl, rfl, rfl, rfl, rfl, rfl, rfl, rfl, rfl, rfl, rfl, rfl, rfl, rfl, rfl, rfl, rfl, rfl, rfl, rfl, rfl, row_all fun _ => rfl, row_all fun _ => rfl, rfl⟩
  clear hs2 hsn h0 h1 hsi
  intro j hj R hR
  have hsi := stpI_top hs (shN s.c + j)
  have hsn := stpI_top hs (shN s.c + j + 1)
  have hLi := hsi.L
  have hLn := hsn.L
  have ei : IntKind.i64.wrap ((j : Int) + 1) = ((j + 1 : Nat) : Int) := by rw [wrap64 (by omega) (by omega)]; rfl
  generalize hq : stpI (shN s.c + j) s = q2 at *
  have hs2 := stpI_succ hq
  conv => whnf
  refine Bif.of (fun h0 => ?_) fun h0 => ?_
  · have hlt : j < 68 := by have := of_decide_eq_true h0; omega
    rw [h0]
    conv => whnf
    refine ACalls.useE (t_stepQ _ hsi) [0, 1, 2, 3, 4, 5, 6, 7, 8, 9, 10, 11, 12, 13, 14, 15, 16, 17, 18, 19, 20, 21, 22, 23, 24, 25, 26, 27, 28, 29, 30, 31, 32, 33, 34, 35, 36, 37, 38, 39] rfl (by (conv => whnf); first | done | rfl | (refine renL_rec hLi.flat ?_; (conv => whnf); first | done | rfl)) (by (conv => whnf); try rfl) ?_
    conv => whnf
    rw [hs2]
    conv => whnf
    refine renL_rec hLn.flat ?_
    conv => whnf
    (rw [ei]; exact hR (j + 1) _ _ [] rfl rfl (by omega) (by omega))
  have hj2 : j = 68 := by have := of_decide_eq_false h0; omega
  clear hR ei
  rw [h0]
  subst hj2
  rw [← hq]
  clear hs2 hsn hLi hLn hsi hq q2 h0 hj
  conv => whnf
  refine ALoop.fd (σ := Nat) (fun i => [.pointer (some ⟨0, 0, none⟩), .chan none, .pointer (some ⟨40, 0, none⟩), .pointer (some ⟨41, 0, none⟩), .chan none, .chan none, .chan none, .int .i64 i, .chan none, .chan none, .chan none, .chan none, .chan none, .chan none, .chan none, .chan none, .chan none, .chan none, .chan none, .chan none, .chan none, .chan none, .chan none, .chan none, .chan none, .chan none, .chan none, .chan none, .chan none, .chan none, .chan none, .chan none, .chan none, .chan none, .chan none, .chan none, .chan none]) (fun i => tsH (stpI (shN s.c + 68 + i) s) ++ [.cells (rowI .u8 (shP s) 0 160) 29, .cells (rowI .u8 (shP s) i 160) 29, .cells [.int .i64 (ckI q), .int .u8 (pxV q), .bool (dkB q), .bool (syB q), .int .u8 0, .bool (bgB q)] 36]) (fun i => i ≤ 160) (fun i => 160 - i) 0 [] rfl rfl (by omega) (fun i => ⟨rfl, rfl, ?hok3, rfl⟩) ?_
  case hok3 =>
    simp only [tsH, List.cons_append, List.nil_append, List.all_cons, List.all_nil, Bool.and_true, Bool.and_eq_true]
    exact ⟨recC_all rfl ((stpI_top hs _).L.all fun _ => rfl) rfl, rfl, rfl, rfl, rfl, rfl, rfl, rfl, rfl, rfl, rfl, rfl, rfl, rfl, rfl, rfl, rfl, rfl, rfl, rfl, rfl, rfl, rfl, rfl, rfl, rfl, rfl, rfl, rfl, rfl, rfl, rfl, rfl, rfl, rfl, rfl, rfl, rfl, rfl, rfl, row_all fun _ => rfl, row_all fun _ => rfl, rfl⟩
  intro j hj R hR
  have hsi := stpI_top hs (shN s.c + 68 + j)
  have hsn := stpI_top hs (shN s.c + 68 + j + 1)
  have hLi := hsi.L
  have hLn := hsn.L
  have ei : IntKind.i64.wrap ((j : Int) + 1) = ((j + 1 : Nat) : Int) := by rw [wrap64 (by omega) (by omega)]; rfl
  generalize hq : stpI (shN s.c + 68 + j) s = q2 at *
  have hs2 := stpI_succ hq
  have hpx := shP_eq hq
  conv => whnf
  refine Bif.of (fun h0 => ?_) fun h0 => ?_
  · have hlt : j < 160 := by have := of_decide_eq_true h0; omega
    rw [h0]
    conv => whnf
    refine ACalls.useE (t_stepQ _ hsi) [0, 1, 2, 3, 4, 5, 6, 7, 8, 9, 10, 11, 12, 13, 14, 15, 16, 17, 18, 19, 20, 21, 22, 23, 24, 25, 26, 27, 28, 29, 30, 31, 32, 33, 34, 35, 36, 37, 38, 39] rfl (by (conv => whnf); first | done | rfl | (refine renL_rec hLi.flat ?_; (conv => whnf); first | done | rfl)) (by (conv => whnf); try rfl) ?_
    conv => whnf
    rw [hs2]
    conv => whnf
    refine renL_rec hLn.flat ?_
    conv => whnf
    refine Req.of ?_ ?_
    · (rw [Bool.and_eq_true]; exact ⟨decide_eq_true (by omega), decide_eq_true (by omega)⟩)
    conv => whnf
    refine putF_row hlt (by show 0 + (j : Int).toNat * 1 = j; omega) hpx ?_
    conv => whnf
    (rw [ei]; exact hR (j + 1) _ _ [] rfl rfl (by omega) (by omega))
  have hj2 : j = 160 := by have := of_decide_eq_false h0; omega
  clear hR ei
  rw [h0]
  subst hj2
  conv => whnf
  refine dropF_zero ?_
  conv => whnf
  refine takeF_row (Nat.le_refl _) rfl ?_
  conv => whnf
  refine Req.of ?_ ?_
  · exact row_fits _ _ _ _ rfl fun _ => rfl
  conv => whnf
  refine putF_rowall (rowI_len _ _) ?_
  conv => whnf
  refine dropF_zero ?_
  conv => whnf
  refine takeF_rowL rfl ?_
  conv => whnf
  refine Req.of ?_ ?_
  · exact rowL_all fun _ => rfl
  conv => whnf
  refine Req.of ?_ ?_
  · exact recC_all rfl (hLi.all fun _ => rfl) rfl
  conv => whnf
  (rw [← hq, Nat.add_assoc]; rw [stpI_eq]; exact ⟨rfl, rfl⟩)
end Go.Proofs

