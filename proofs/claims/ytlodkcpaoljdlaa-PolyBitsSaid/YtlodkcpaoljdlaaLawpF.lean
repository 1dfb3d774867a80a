/-
  Walks through the functions of the program, by contract.
-/
import Derived.Test.YtlodkcpaoljdlaaPlgF
set_option linter.all false
set_option linter.unusedVariables false
set_option linter.unusedSimpArgs false
set_option linter.unnecessarySimpa false
namespace Go.Proofs
open Go.Aw
set_option maxRecDepth 100000
set_option maxHeartbeats 4000000
theorem bytes_row {H : List Blk} {b i n : Nat} {e : TypeId} {f : Nat → Int} {k : List Int → Prop} (hb : H[b]? = some (.cells (rowI .u8 f i n) e)) (hn : i ≤ n) (hk : k ((List.range i).map f)) : ∃ l : List Int, l.length = i ∧ BytesAt H b 0 l ∧ k l := by
  refine ⟨_, by simp, ⟨_, _, hb, fun j x hj => ?_⟩, hk⟩
  rw [List.getElem?_map] at hj
  cases hr : (List.range i)[j]? with
  | none => rw [hr] at hj; cases hj
  | some m =>
    rw [hr] at hj; cases hj
    obtain ⟨h1, h2⟩ := List.getElem?_eq_some_iff.1 hr
    simp at h1 h2
    subst h2
    rw [Nat.zero_add, rowI_get h1 hn]
theorem strEq_of {a b : ByteArray} (h : a.data = b.data) : strEq a b = true := by
  have : a = b := by cases a; cases b; simp at h; rw [h]
  subst this
  unfold strEq; simp
theorem place_aw : ACalls Try.prog 48 [.pointer (some ⟨0, 0, none⟩), .int .u8 15] [.cells [.int .u8 0, .int .i64 4, .int .i64 1] 76] fun v H => v = .tuple #[.int .i64 0, .bool false] ∧ H = [.cells [.int .u8 0, .int .i64 4, .int .i64 1] 76] := by
  have := place8 0 4 1 (by decide) 15 15 (by decide) (by decide +kernel) (.inr (by decide +kernel))
  rw [if_neg (by decide +kernel), show decide (itX8 4 1 0 15 = 15) = false from by decide +kernel] at this
  exact this
theorem period_aw : ACalls Try.prog 49 [.pointer (some ⟨0, 0, none⟩)] [.cells [.int .u8 7, .int .i64 4, .int .i64 1] 76] fun v H => v = .int .i64 15 ∧ H = [.cells [.int .u8 7, .int .i64 4, .int .i64 1] 76] :=
  period8 7 4 1 (by decide) 14 (by decide) (by decide +kernel) (by decide +kernel)
theorem bits_aw : ACalls Try.prog 50 [.pointer (some ⟨0, 0, none⟩), .int .i64 3] [.cells [.int .u8 7, .int .i64 4, .int .i64 1] 76] fun v H => v = .slice (some ⟨1, 0, none⟩) 3 3 ∧ H = [.cells [.int .u8 7, .int .i64 4, .int .i64 1] 76, .cells (rowI .u8 (fun j => lo8 (itX8 4 1 7 j)) 3 3) 5] :=
  bits8 7 4 1 (by decide) 3 (by decide)
theorem step_aw0 : ACalls Try.prog 16 [.pointer (some ⟨0, 0, none⟩)] [.cells [.int .u8 0, .int .i64 4, .int .i64 1] 76] fun v H => v = .int .u8 (lo8 0) ∧ H = [.cells [.int .u8 8, .int .i64 4, .int .i64 1] 76] := by
  have := poly8_step 0 4 1 (by decide)
  rw [show nx8 4 1 0 = 8 from by decide +kernel] at this; exact this
theorem step_aw1 : ACalls Try.prog 16 [.pointer (some ⟨0, 0, none⟩)] [.cells [.int .u8 8, .int .i64 4, .int .i64 1] 76] fun v H => v = .int .u8 (lo8 8) ∧ H = [.cells [.int .u8 12, .int .i64 4, .int .i64 1] 76] := by
  have := poly8_step 8 4 1 (by decide)
  rw [show nx8 4 1 8 = 12 from by decide +kernel] at this; exact this
theorem step_aw2 : ACalls Try.prog 16 [.pointer (some ⟨0, 0, none⟩)] [.cells [.int .u8 12, .int .i64 4, .int .i64 1] 76] fun v H => v = .int .u8 (lo8 12) ∧ H = [.cells [.int .u8 14, .int .i64 4, .int .i64 1] 76] := by
  have := poly8_step 12 4 1 (by decide)
  rw [show nx8 4 1 12 = 14 from by decide +kernel] at this; exact this
theorem step_aw3 : ACalls Try.prog 16 [.pointer (some ⟨0, 0, none⟩)] [.cells [.int .u8 14, .int .i64 4, .int .i64 1] 76] fun v H => v = .int .u8 (lo8 14) ∧ H = [.cells [.int .u8 7, .int .i64 4, .int .i64 1] 76] := by
  have := poly8_step 14 4 1 (by decide)
  rw [show nx8 4 1 14 = 7 from by decide +kernel] at this; exact this
theorem awake01 : ACalls Try.prog 19 [] [] fun v H => v = .bool true ∧ H = [] := by
  refine ACalls.code tabOk h19 Try.func19 Try.call19 ok19 ?_
  conv => whnf
  refine ACalls.useE (poly8_new _ _ ?_) [] rfl (by (conv => whnf); try rfl) (by (conv => whnf); try rfl) ?_
  · decide
  conv => whnf
  refine ACalls.useE (place_aw) [0] rfl (by (conv => whnf); try rfl) (by (conv => whnf); try rfl) ?_
  conv => whnf
  refine ALoop.run 5 ?_
  conv => whnf
  refine ACalls.useE (step_aw0) [0] rfl (by (conv => whnf); try rfl) (by (conv => whnf); try rfl) ?_
  conv => whnf
  refine ACalls.useE (step_aw1) [0] rfl (by (conv => whnf); try rfl) (by (conv => whnf); try rfl) ?_
  conv => whnf
  refine ACalls.useE (step_aw2) [0] rfl (by (conv => whnf); try rfl) (by (conv => whnf); try rfl) ?_
  conv => whnf
  refine ACalls.useE (step_aw3) [0] rfl (by (conv => whnf); try rfl) (by (conv => whnf); try rfl) ?_
  conv => whnf
  refine ACalls.useE (poly8_state _ _ _) [0] rfl (by (conv => whnf); try rfl) (by (conv => whnf); try rfl) ?_
  conv => whnf
  refine ACalls.useE (period_aw) [0] rfl (by (conv => whnf); try rfl) (by (conv => whnf); try rfl) ?_
  conv => whnf
  refine ACalls.useE (bits_aw) [0] rfl (by (conv => whnf); try rfl) (by (conv => whnf); try rfl) ?_
  conv => whnf
  refine renL_row ?_
  conv => whnf
  refine bytes_row (i := 3) (n := 3) rfl (by decide) ?_
  conv => whnf
  (refine ⟨?_, rfl⟩; congr 1; exact strEq_of (by decide +kernel))

theorem poly8_step_nil : ACalls Try.prog 16 [.pointer none] [] fun v H => v = .int .u8 0 ∧ H = [] := by
  refine ACalls.code tabOk h16 Try.func16 Try.call16 ok16 ?_
  conv => whnf
  exact ⟨rfl, rfl⟩
theorem poly8_state_nil : ACalls Try.prog 17 [.pointer none] [] fun v H => v = .int .u8 0 ∧ H = [] := by
  refine ACalls.code tabOk h17 Try.func17 Try.call17 ok17 ?_
  conv => whnf
  exact ⟨rfl, rfl⟩
theorem poly8_set_nil (s : Int) : ACalls Try.prog 18 [.pointer none, .int .u8 s] [] fun v H => v = .int .i64 1 ∧ H = [] := by
  refine ACalls.code tabOk h18 Try.func18 Try.call18 ok18 ?_
  conv => whnf
  exact ⟨rfl, rfl⟩
theorem poly16_step_nil : ACalls Try.prog 31 [.pointer none] [] fun v H => v = .int .u8 0 ∧ H = [] := by
  refine ACalls.code tabOk h31 Try.func31 Try.call31 ok31 ?_
  conv => whnf
  exact ⟨rfl, rfl⟩
theorem poly16_state_nil : ACalls Try.prog 27 [.pointer none] [] fun v H => v = .int .u16 0 ∧ H = [] := by
  refine ACalls.code tabOk h27 Try.func27 Try.call27 ok27 ?_
  conv => whnf
  exact ⟨rfl, rfl⟩
theorem poly16_set_nil (s : Int) : ACalls Try.prog 26 [.pointer none, .int .u16 s] [] fun v H => v = .int .i64 1 ∧ H = [] := by
  refine ACalls.code tabOk h26 Try.func26 Try.call26 ok26 ?_
  conv => whnf
  exact ⟨rfl, rfl⟩
theorem poly16_period_nil : ACalls Try.prog 25 [.pointer none] [] fun v H => v = .int .i64 0 ∧ H = [] := by
  refine ACalls.codeR tabOk hPer Try.func25 Try.call25 rfl okPe16 ?_
  conv => whnf
  exact ⟨rfl, rfl⟩
theorem poly16_place_nil (s : Int) : ACalls Try.prog 28 [.pointer none, .int .u16 s] [] fun v H => v = .tuple #[.int .i64 0, .bool false] ∧ H = [] := by
  refine ACalls.codeR tabOk hNo Try.func28 Try.call28 rfl okPl16 ?_
  conv => whnf
  exact ⟨rfl, rfl⟩
theorem poly16_bits_nil (n : Int) : ACalls Try.prog 24 [.pointer none, .int .i64 n] [] fun v H => v = .slice none 0 0 ∧ H = [] := by
  refine ACalls.codeR tabOk hNo Try.func24 Try.call24 rfl okBi16 ?_
  conv => whnf
  exact ⟨rfl, rfl⟩
theorem poly16_bits_no (b n t N : Int) (hN : N ≤ 0 ∨ N > 1048576) : ACalls Try.prog 24 [.pointer (some ⟨0, 0, none⟩), .int .i64 N] [.cells [.int .u16 b, .int .i64 n, .int .i64 t] 81] fun v H => v = .slice none 0 0 ∧ H = [.cells [.int .u16 b, .int .i64 n, .int .i64 t] 81] := by
  refine ACalls.codeR tabOk hNo Try.func24 Try.call24 rfl okBi16 ?_
  conv => whnf
  refine Bif.of (fun h0 => ?_) fun h0 => ?_
  · rw [h0]
    conv => whnf
    exact ⟨rfl, rfl⟩
  · rw [h0]
    conv => whnf
    refine Bif.of (fun h1 => ?_) fun h1 => ?_
    · rw [h1]
      conv => whnf
      exact ⟨rfl, rfl⟩
    · rw [h1]
      conv => whnf
      refine Req.of ?_ ?_
      · (exfalso; simp at *; omega)
      conv => whnf
      refine ACalls.code tabOk h53 Try.func53 Try.call53 ok53 ?_
      conv => whnf
      (exfalso; simp at *; omega)
theorem ref_right_ok (w n t : Int) (h : 2 ≤ n ∧ n ≤ w ∧ 1 ≤ t ∧ t < n) (hw : w ≤ 16) : ACalls Try.prog 15 [.int .i64 w, .int .i64 n, .int .i64 t] [] fun v H => v = .bool true ∧ H = [] := by
  have e : IntKind.i64.wrap (n - 1) = n - 1 := wrap64 (by omega) (by omega)
  refine ACalls.code tabOk h15 Try.func15 Try.call15 ok15 ?_
  conv => whnf
  refine Bif.knT ?_ fun h0 => ?_
  · (simp; omega)
  rw [h0]
  conv => whnf
  refine Bif.knT ?_ fun h1 => ?_
  · (simp; omega)
  rw [h1]
  conv => whnf
  refine Bif.knT ?_ fun h2 => ?_
  · (simp; omega)
  rw [h2]
  conv => whnf
  (simp; omega)
theorem ref_right_bad (w n t : Int) (h : ¬ (2 ≤ n ∧ n ≤ w ∧ 1 ≤ t ∧ t < n)) (hw : w ≤ 16) : ACalls Try.prog 15 [.int .i64 w, .int .i64 n, .int .i64 t] [] fun v H => v = .bool false ∧ H = [] := by
  refine ACalls.code tabOk h15 Try.func15 Try.call15 ok15 ?_
  conv => whnf
  refine Bif.of (fun h0 => ?_) fun h0 => ?_
  · rw [h0]
    conv => whnf
    refine Bif.of (fun h1 => ?_) fun h1 => ?_
    · rw [h1]
      conv => whnf
      refine Bif.of (fun h2 => ?_) fun h2 => ?_
      · rw [h2]
        conv => whnf
        (have e : IntKind.i64.wrap (n - 1) = n - 1 := (by simp at *; exact wrap64 (by omega) (by omega)); refine ⟨?_, rfl⟩; rw [e]; simp at *; omega)
      · rw [h2]
        conv => whnf
        exact ⟨rfl, rfl⟩
    · rw [h1]
      conv => whnf
      exact ⟨rfl, rfl⟩
  · rw [h0]
    conv => whnf
    exact ⟨rfl, rfl⟩
theorem ref_fits (n : Nat) (s : Int) (hn : n ≤ 60) (hs : 0 ≤ s) : ACalls Try.prog 20 [.int .i64 n, .int .i64 s] [] fun v H => v = .bool (decide (s < 2 ^ n)) ∧ H = [] := by
  refine ACalls.code tabOk h20 Try.func20 Try.call20 ok20 ?_
  conv => whnf
  refine Bif.knT ?_ fun h0 => ?_
  · (simp; omega)
  rw [h0]
  conv => whnf
  refine ACalls.useE (ref_pow _ ?_) [] rfl (by (conv => whnf); try rfl) (by (conv => whnf); try rfl) ?_
  · omega
  conv => whnf
  exact ⟨rfl, rfl⟩
theorem ref_row_none (n t s : Int) : ACalls Try.prog 21 [.int .i64 n, .int .i64 t, .int .i64 s, .int .i64 0] [] fun v H => v = .slice none 0 0 ∧ H = [] := by
  refine ACalls.code tabOk h21 Try.func21 Try.call21 ok21 ?_
  conv => whnf
  refine ALoop.run 1 ?_
  conv => whnf
  exact ⟨rfl, rfl⟩
theorem poly8_new_bad (n t : Int) (h : ¬ (2 ≤ n ∧ n ≤ 8 ∧ 1 ≤ t ∧ t < n)) : True := trivial
end Go.Proofs
