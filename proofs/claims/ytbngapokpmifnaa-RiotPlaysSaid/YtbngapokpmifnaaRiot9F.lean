/-
  Walks through the functions of the program, by contract.
-/
import Derived.Test.YtbngapokpmifnaaRiot8F
set_option linter.all false
set_option linter.unusedVariables false
set_option linter.unusedSimpArgs false
set_option linter.unnecessarySimpa false
namespace Go.Proofs
open Go.Aw
set_option maxRecDepth 100000
set_option maxHeartbeats 8000000
theorem rowI_sl3 {q : IntKind} {f : Nat → Int} {i n : Nat} (o : Nat) (h : o + 3 ≤ i) (hi : i ≤ n) : ((rowI q f i n).drop o).take 3 = [.int q (f o), .int q (f (o + 1)), .int q (f (o + 2))] := by
  apply List.ext_getElem?
  intro j
  rw [List.getElem?_take, List.getElem?_drop]
  split
  · rename_i hj
    rw [rowI_get (by omega) (by omega)]
    have : j = 0 ∨ j = 1 ∨ j = 2 := by omega
    rcases this with rfl | rfl | rfl <;> rfl
  · rw [List.getElem?_eq_none (by simp; omega)]
theorem rowI_sl5 {q : IntKind} {f : Nat → Int} {i n : Nat} (o : Nat) (h : o + 5 ≤ i) (hi : i ≤ n) : ((rowI q f i n).drop o).take 5 = [.int q (f o), .int q (f (o + 1)), .int q (f (o + 2)), .int q (f (o + 3)), .int q (f (o + 4))] := by
  apply List.ext_getElem?
  intro j
  rw [List.getElem?_take, List.getElem?_drop]
  split
  · rename_i hj
    rw [rowI_get (by omega) (by omega)]
    have : j = 0 ∨ j = 1 ∨ j = 2 ∨ j = 3 ∨ j = 4 := by omega
    rcases this with rfl | rfl | rfl | rfl | rfl <;> rfl
  · rw [List.getElem?_eq_none (by simp; omega)]
theorem dropF_row3 {q : IntKind} {f : Nat → Int} {i n o m : Nat} {k : List Value → Prop} (o' : Nat) (ho : o = o') (hm : m = 3) (h : o' + 3 ≤ i) (hi : i ≤ n) (hk : k [.int q (f o'), .int q (f (o' + 1)), .int q (f (o' + 2))]) : dropF (rowI q f i n) o (fun d => takeF d m k) := by
  subst ho; subst hm
  refine dropF_of (by rw [rowI_len]; omega) (takeF_of (by rw [List.length_drop, rowI_len]; omega) ?_)
  rw [rowI_sl3 _ h hi]; exact hk
theorem dropF_row5 {q : IntKind} {f : Nat → Int} {i n o m : Nat} {k : List Value → Prop} (o' : Nat) (ho : o = o') (hm : m = 5) (h : o' + 5 ≤ i) (hi : i ≤ n) (hk : k [.int q (f o'), .int q (f (o' + 1)), .int q (f (o' + 2)), .int q (f (o' + 3)), .int q (f (o' + 4))]) : dropF (rowI q f i n) o (fun d => takeF d m k) := by
  subst ho; subst hm
  refine dropF_of (by rw [rowI_len]; omega) (takeF_of (by rw [List.length_drop, rowI_len]; omega) ?_)
  rw [rowI_sl5 _ h hi]; exact hk
theorem set_p0 (s : RS) (hs : s.Ok) (i o w : Int) : ACalls Try.prog 26 [.pointer (some ⟨0, 0, none⟩), .agg #[.int .i64 (wdS s 128), .int .i64 (wdS s 129), .int .i64 (wdS s 130)]] [.cells [.int .u8 i, .int .u8 o, .int .u8 w] 97] fun r H => r = .int .i64 0 ∧ H = [.cells [.int .u8 s.i0, .int .u8 s.o0, .int .u8 s.w0] 97] := by
  have h := hs.p0
  have e : wdS s 128 = s.i0 ∧ wdS s 129 = s.o0 ∧ wdS s 130 = s.w0 := by unfold wdS; exact ⟨rfl, rfl, rfl⟩
  rw [e.1, e.2.1, e.2.2]
  exact port_set_ok i o w _ _ _ (by simp [okB]; omega)
theorem set_p1 (s : RS) (hs : s.Ok) (i o w : Int) : ACalls Try.prog 26 [.pointer (some ⟨0, 0, none⟩), .agg #[.int .i64 (wdS s 131), .int .i64 (wdS s 132), .int .i64 (wdS s 133)]] [.cells [.int .u8 i, .int .u8 o, .int .u8 w] 97] fun r H => r = .int .i64 0 ∧ H = [.cells [.int .u8 s.i1, .int .u8 s.o1, .int .u8 s.w1] 97] := by
  have h := hs.p1
  have e : wdS s 131 = s.i1 ∧ wdS s 132 = s.o1 ∧ wdS s 133 = s.w1 := by unfold wdS; exact ⟨rfl, rfl, rfl⟩
  rw [e.1, e.2.1, e.2.2]
  exact port_set_ok i o w _ _ _ (by simp [okB]; omega)
theorem set_tm (s : RS) (hs : s.Ok) (v0 iv0 l0 : Int) (fa0 fl0 : Bool) : ACalls Try.prog 44 [.pointer (some ⟨0, 0, none⟩), .agg #[.int .i64 (wdS s 134), .int .i64 (wdS s 135), .int .i64 (wdS s 136), .int .i64 (wdS s 137), .int .i64 (wdS s 138)]] [.cells [.int .u8 v0, .int .i64 iv0, .int .i64 l0, .bool fa0, .bool fl0] 104] fun r H => r = .int .i64 0 ∧ H = [.cells [.int .u8 s.tm.v, .int .i64 s.tm.iv, .int .i64 s.tm.l, .bool s.tm.fa, .bool s.tm.fl] 104] := by
  have e : wdS s 134 = s.tm.v ∧ wdS s 135 = s.tm.iv ∧ wdS s 136 = s.tm.l ∧ wdS s 137 = one01 s.tm.fa ∧ wdS s 138 = one01 s.tm.fl := by unfold wdS; exact ⟨rfl, rfl, rfl, rfl, rfl⟩
  rw [e.1, e.2.1, e.2.2.1, e.2.2.2.1, e.2.2.2.2]
  exact timer_set v0 iv0 l0 fa0 fl0 _ _ _ _ _ hs.tm
theorem set_ed (s : RS) (a b c : Bool) : ACalls Try.prog 31 [.pointer (some ⟨0, 0, none⟩), .agg #[.int .i64 (wdS s 139), .int .i64 (wdS s 140), .int .i64 (wdS s 141)]] [.cells [.bool a, .bool b, .bool c] 99] fun r H => r = .int .i64 0 ∧ H = [.cells [.bool s.el, .bool s.er, .bool s.ec] 99] := by
  have e : wdS s 139 = e01 s.el ∧ wdS s 140 = e01 s.er ∧ wdS s 141 = e01 s.ec := by unfold wdS; exact ⟨rfl, rfl, rfl⟩
  rw [e.1, e.2.1, e.2.2]
  have f : ∀ b : Bool, (e01 b == 1) = b := fun b => by cases b <;> rfl
  have := edge_set_ok a b c (e01 s.el) (e01 s.er) (e01 s.ec) (by cases s.el <;> cases s.er <;> cases s.ec <;> rfl)
  rw [f, f, f] at this
  exact this
def hpSet (s0 s : RS) (nc : Nat) (L : List Value) : List Blk := rsHeap s0 ++ [.cells (rowI .i64 (wdS s) 142 nc) 3, .cells (riotC L (.pointer (some ⟨7, 0, none⟩)) (.pointer (some ⟨8, 0, none⟩)) (.pointer (some ⟨9, 0, none⟩)) (.pointer (some ⟨10, 0, none⟩))) 110, .cells [.int .u8 255, .int .u8 0, .int .u8 0] 97, .cells [.int .u8 255, .int .u8 0, .int .u8 0] 97, .cells [.int .u8 255, .int .i64 1024, .int .i64 1, .bool false, .bool false] 104, .cells [.bool true, .bool false, .bool false] 99]
theorem riot_set (s0 s : RS) (h0 : s0.Ok) (hs : s.Ok) (nc : Nat) (hnc : 142 ≤ nc) : ACalls Try.prog 63 [.pointer (some ⟨0, 0, none⟩), .slice (some ⟨5, 0, none⟩) 142 nc] (rsHeap s0 ++ [.cells (rowI .i64 (wdS s) 142 nc) 3])
    fun v H => v = .int .i64 0 ∧ H = [.cells (riotC s.L (.pointer (some ⟨6, 0, none⟩)) (.pointer (some ⟨7, 0, none⟩)) (.pointer (some ⟨8, 0, none⟩)) (.pointer (some ⟨9, 0, none⟩))) 110] ++ (rsHeap s0).tail ++ [.cells (rowI .i64 (wdS s) 142 nc) 3] ++ (rsHeap s).tail := by
  refine ACalls.codeN tabOk h63 Try.func63 Try.call63 ok63 [0, 1, 2, 3, 4, 5, 7, 8, 9, 10] ?_
  conv => whnf
  refine ACalls.useX riot_new0 [] rfl (by (conv => whnf); try rfl) (by (conv => whnf); try rfl) ?_
  rintro L ⟨hL, hz⟩
  conv => whnf
  refine renL_riot hL rfl ?_
  conv => whnf
  refine ALoop.fd (σ := Nat × {L : List Value // Ram L}) (fun st => let i := st.1; [.pointer (some ⟨0, 0, none⟩), .slice (some ⟨5, 0, none⟩) 142 nc, .chan none, .chan none, .chan none, .pointer (some ⟨6, 0, none⟩), .chan none, .chan none, .chan none, .chan none, .chan none, .chan none, .chan none, .chan none, .chan none, .chan none, .chan none, .chan none, .chan none, .int .i64 i, .chan none, .chan none, .chan none, .chan none, .chan none, .chan none, .chan none, .chan none, .chan none, .chan none, .chan none, .chan none, .chan none, .chan none, .chan none, .chan none, .chan none, .chan none, .chan none, .chan none, .chan none, .chan none, .chan none, .chan none, .chan none, .chan none, .chan none, .chan none, .chan none, .chan none, .chan none, .chan none, .chan none, .chan none, .chan none, .chan none, .chan none, .chan none, .chan none, .chan none, .chan none, .chan none, .chan none, .chan none, .chan none, .chan none, .chan none, .chan none, .chan none, .chan none, .chan none, .chan none, .chan none, .chan none, .chan none, .chan none, .chan none, .chan none, .chan none, .chan none, .chan none, .chan none, .chan none, .chan none, .chan none, .chan none, .chan none, .chan none, .chan none, .chan none, .chan none, .chan none, .chan none, .chan none, .chan none, .chan none, .chan none, .chan none, .chan none]) (fun st => hpSet s0 s nc st.2.1) (fun st => st.1 ≤ 128 ∧ ∀ j, j < st.1 → rd st.2.1 j = rd s.L j) (fun st => 128 - st.1) (0, ⟨L, hL⟩) [] rfl rfl ⟨Nat.zero_le _, fun j hj => absurd hj (by omega)⟩ (fun st => ⟨rfl, rfl, ?hok, rfl⟩) ?_
  case hok =>
    simp only [hpSet, rsHeap, List.cons_append, List.nil_append, List.all_cons, List.all_nil, Bool.and_true, Bool.and_eq_true]
    exact ⟨riotC_all h0.L (fun _ => rfl) rfl, rfl, rfl, rfl, rfl, row_all fun _ => rfl, riotC_all st.2.2 (fun _ => rfl) rfl, rfl, rfl, rfl, rfl⟩
  rintro ⟨i, L, hL⟩ ⟨hi, hr⟩ R hR
  dsimp only at hi hr
  dsimp only
  have ei : IntKind.i64.wrap ((i : Int) + 1) = ((i + 1 : Nat) : Int) := by rw [wrap64 (by omega) (by omega)]; rfl
  by_cases hlt : i < 128
  · have hrd := hs.L.rd_le hlt
    have hw : wdS s i = rd s.L i := wdS_lo s hlt
    have h8 : IntKind.u8.wrap (rd s.L i) = rd s.L i := wrap8 (by omega) (by omega)
    conv => whnf
    refine Bif.knT ?_ fun h0 => ?_
    · (clear hR; simp; omega)
    rw [h0]
    conv => whnf
    refine Req.of ?_ ?_
    · (clear hR; simp; omega)
    conv => whnf
    refine getF_row' i (by first | omega | (dsimp only; omega)) (by omega) (by omega) ?_
    conv => whnf
    rw [hw]
    conv => whnf
    refine Bif.knF ?_ fun h1 => ?_
    · (clear hR; simp; omega)
    rw [h1]
    conv => whnf
    refine Req.of ?_ ?_
    · (clear hR; simp; omega)
    conv => whnf
    refine getF_row' i (by first | omega | (dsimp only; omega)) (by omega) (by omega) ?_
    conv => whnf
    rw [hw]
    conv => whnf
    refine Bif.knF ?_ fun h2 => ?_
    · (clear hR; simp; omega)
    rw [h2]
    conv => whnf
    refine Req.of ?_ ?_
    · (clear hR; simp; omega)
    conv => whnf
    refine getF_row' i (by first | omega | (dsimp only; omega)) (by omega) (by omega) ?_
    conv => whnf
    rw [hw]
    conv => whnf
    rw [h8]
    conv => whnf
    refine Req.of ?_ ?_
    · (clear hR; simp; omega)
    conv => whnf
    refine putF_ram hL (j := i) (by first | omega | (dsimp only; omega)) (by omega) ?_
    conv => whnf
    (rw [ei]; exact hR (i + 1, ⟨wr L i (rd s.L i), hL.wr hlt hrd⟩) _ _ [] rfl rfl ⟨hlt, fun j hj => by dsimp only at hj ⊢; rw [rd_wr hL hlt (by omega)]; by_cases e : j = i; (rw [if_pos e, e]); (rw [if_neg e]; exact hr j (by omega))⟩ (by dsimp only; omega))
  · obtain rfl : i = 128 := by omega
    have hLs : L = s.L := ram_ext hL hs.L hr
    clear hR hr hi ei
    subst hLs
    have n1 : ¬ nc = Int.toNat 128 := by simp; omega
    have n2 : ¬ nc - Int.toNat 128 = 0 := by simp; omega
    have n3 : ¬ nc - Int.toNat 128 = Int.toNat 3 := by simp; omega
    have n4 : ¬ nc - Int.toNat 128 = Int.toNat 6 := by simp; omega
    have n5 : ¬ nc - Int.toNat 128 = Int.toNat 11 := by simp; omega
    conv => whnf
    rw [if_neg n1]
    conv => whnf
    refine getF_p hL rfl ?_
    conv => whnf
    refine Req.of ?_ ?_
    · (simp; omega)
    conv => whnf
    rw [if_neg n2]
    conv => whnf
    refine dropF_row3 128 rfl rfl (by omega) hnc ?_
    conv => whnf
    refine getF_q hL rfl ?_
    conv => whnf
    refine Req.of ?_ ?_
    · (simp; omega)
    conv => whnf
    rw [if_neg n3]
    conv => whnf
    refine dropF_row3 131 rfl rfl (by omega) hnc ?_
    conv => whnf
    refine getF_c hL rfl ?_
    conv => whnf
    refine Req.of ?_ ?_
    · (simp; omega)
    conv => whnf
    rw [if_neg n4]
    conv => whnf
    refine dropF_row5 134 rfl rfl (by omega) hnc ?_
    conv => whnf
    refine getF_e hL rfl ?_
    conv => whnf
    rw [if_neg n5]
    conv => whnf
    refine dropF_row3 139 rfl rfl (by omega) hnc ?_
    conv => whnf
    refine ACalls.useE (set_p0 s hs _ _ _) [7] rfl (by (conv => whnf); try rfl) (by (conv => whnf); try rfl) ?_
    conv => whnf
    refine dropF_row3 139 rfl rfl (by omega) hnc ?_
    conv => whnf
    refine ⟨rfl, ?_⟩
    conv => whnf
    refine getF_e hL rfl ?_
    conv => whnf
    refine ⟨rfl, ?_⟩
    conv => whnf
    refine dropF_row5 134 rfl rfl (by omega) hnc ?_
    conv => whnf
    refine ⟨rfl, ?_⟩
    conv => whnf
    refine getF_c hL rfl ?_
    conv => whnf
    refine ⟨rfl, ?_⟩
    conv => whnf
    refine dropF_row3 131 rfl rfl (by omega) hnc ?_
    conv => whnf
    refine ⟨rfl, ?_⟩
    conv => whnf
    refine getF_q hL rfl ?_
    conv => whnf
    refine ⟨rfl, ?_⟩
    conv => whnf
    refine ACalls.useE (set_p1 s hs _ _ _) [8] rfl (by (conv => whnf); try rfl) (by (conv => whnf); try rfl) ?_
    conv => whnf
    refine dropF_row3 139 rfl rfl (by omega) hnc ?_
    conv => whnf
    refine ⟨rfl, ?_⟩
    conv => whnf
    refine getF_e hL rfl ?_
    conv => whnf
    refine ⟨rfl, ?_⟩
    conv => whnf
    refine dropF_row5 134 rfl rfl (by omega) hnc ?_
    conv => whnf
    refine ⟨rfl, ?_⟩
    conv => whnf
    refine getF_c hL rfl ?_
    conv => whnf
    refine ⟨rfl, ?_⟩
    conv => whnf
    refine ACalls.useE (set_tm s hs _ _ _ _ _) [9] rfl (by (conv => whnf); try rfl) (by (conv => whnf); try rfl) ?_
    conv => whnf
    refine dropF_row3 139 rfl rfl (by omega) hnc ?_
    conv => whnf
    refine ⟨rfl, ?_⟩
    conv => whnf
    refine getF_e hL rfl ?_
    conv => whnf
    refine ⟨rfl, ?_⟩
    conv => whnf
    refine ACalls.useE (set_ed s _ _ _) [10] rfl (by (conv => whnf); try rfl) (by (conv => whnf); try rfl) ?_
    conv => whnf
    refine ALoop.run 5 ?_
    conv => whnf
    refine dropF_zero ?_
    conv => whnf
    refine takeF_riot hL rfl ?_
    conv => whnf
    refine Req.of ?_ ?_
    · (show (Nat.beq (riotC s.L _ _ _ _).length 132 && (riotC s.L _ _ _ _).all one) = true; rw [riotC_len hL, riotC_all hL (fun _ => rfl) rfl]; rfl)
    conv => whnf
    refine putF_whole_riot hL (riotC_len h0.L) ?_
    conv => whnf
    refine renL_riot hL rfl ?_
    conv => whnf
    refine renL_row ?_
    conv => whnf
    refine Req.of ?_ ?_
    · exact riotC_all hL (fun _ => rfl) rfl
    conv => whnf
    refine Req.of ?_ ?_
    · exact row_all fun _ => rfl
    conv => whnf
    exact ⟨rfl, rfl⟩
/-- A riot beside another one, and the words of that. -/
theorem riot_copy (s : RS) (hs : s.Ok) : ACalls Try.prog 58 [.pointer (some ⟨0, 0, none⟩)] (rsHeap s) fun v H => v = .pointer (some ⟨5, 0, none⟩) ∧ H = rsHeap s ++ [.cells (riotC s.L (.pointer (some ⟨6, 0, none⟩)) (.pointer (some ⟨7, 0, none⟩)) (.pointer (some ⟨8, 0, none⟩)) (.pointer (some ⟨9, 0, none⟩))) 110] ++ (rsHeap s).tail := by
  refine ACalls.codeN tabOk h58 Try.func58 Try.call58 ok58 [0, 1, 2, 3, 4, 5, 11, 12, 13, 14] ?_
  conv => whnf
  refine ACalls.useX riot_new0 [] rfl (by (conv => whnf); try rfl) (by (conv => whnf); try rfl) ?_
  rintro L ⟨hL, hz⟩
  conv => whnf
  refine renL_riot hL rfl ?_
  have h0 := rs0_ok hL
  have hsL := hs.L
  conv => whnf
  refine ACalls.useX (riot_words s hs) [0, 1, 2, 3, 4] rfl (by (conv => whnf); refine renL_riot hsL rfl ?_; (conv => whnf); first | done | rfl) (by (conv => whnf); try rfl) ?_
  intro nc hnc
  conv => whnf
  refine renL_riot hsL rfl ?_
  conv => whnf
  refine renL_row ?_
  conv => whnf
  refine ACalls.useE (riot_set (rs0 L) s h0 hs nc hnc) [5, 6, 7, 8, 9, 10] rfl (by (conv => whnf); refine renL_riot hL rfl ?_; (conv => whnf); refine renL_row ?_; (conv => whnf); first | done | rfl) (by (conv => whnf); try rfl) ?_
  conv => whnf
  refine renL_riot hsL rfl ?_
  conv => whnf
  refine renL_row ?_
  conv => whnf
  refine renL_riot hsL rfl ?_
  conv => whnf
  refine renL_riot hsL rfl ?_
  conv => whnf
  refine Req.of ?_ ?_
  · exact riotC_all hsL (fun _ => rfl) rfl
  conv => whnf
  refine Req.of ?_ ?_
  · exact riotC_all hsL (fun _ => rfl) rfl
  conv => whnf
  exact ⟨rfl, rfl⟩
end Go.Proofs
