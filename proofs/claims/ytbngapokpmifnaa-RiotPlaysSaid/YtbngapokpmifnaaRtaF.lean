/-
  Walks through the functions of the program, by contract.
-/
import Derived.Test.YtbngapokpmifnaaRiot9F
set_option linter.all false
set_option linter.unusedVariables false
set_option linter.unusedSimpArgs false
set_option linter.unnecessarySimpa false
namespace Go.Proofs
open Go.Aw
set_option maxRecDepth 100000
set_option maxHeartbeats 8000000
/-- The reference's timer. -/
structure RT where
  base : Int
  iv : Int
  lead : Int
  gone : Int
def RT.turn (t : RT) : Int := t.lead + t.base * t.iv
def RT.fast (t : RT) : Bool := decide (t.turn ≤ t.gone)
def RT.val (t : RT) : Int := if t.turn ≤ t.gone then 255 - (t.gone - t.turn) % 256 else if t.gone < t.lead then t.base else t.base - 1 - (t.gone - t.lead) / t.iv
def RT.left (t : RT) : Int := if t.turn ≤ t.gone then t.iv else if t.gone < t.lead then t.lead - t.gone else t.iv - (t.gone - t.lead) % t.iv
structure RT.Ok (t : RT) : Prop where
  b : 0 ≤ t.base ∧ t.base ≤ 255
  iv : t.iv = 1 ∨ t.iv = 8 ∨ t.iv = 64 ∨ t.iv = 1024
  ld : 1 ≤ t.lead ∧ t.lead ≤ t.iv
  g : 0 ≤ t.gone ∧ t.gone ≤ 1000000
def RT.tm (t : RT) : TM := ⟨t.val, t.iv, t.left, t.fast, t.fast⟩
theorem w8 (n : Int) : IntKind.u8.wrap n = n % 256 := by
  simp only [IntKind.wrap, IntKind.signed, IntKind.bits, Bool.false_and, Bool.false_eq_true, if_false]
  rfl
theorem RT.tick {t : RT} (h : t.Ok) : ({ t with gone := t.gone + 1 } : RT).tm = t.tm.tick := by
  obtain ⟨base, iv, lead, gone⟩ := t
  obtain ⟨hb, hi, hl, hg⟩ := h
  dsimp only at hb hi hl hg
  have hL : ∀ x : Int, -10000000 ≤ x → x ≤ 10000000 → IntKind.i64.wrap x = x := fun x h1 h2 => wrap64 (by omega) (by omega)
  have hlb : 0 ≤ (RT.mk base iv lead gone).left ∧ (RT.mk base iv lead gone).left ≤ 1024 := by
    unfold RT.left RT.turn; dsimp only
    rcases hi with rfl | rfl | rfl | rfl <;> (repeat' split) <;> omega
  have e1 : IntKind.i64.wrap ((RT.mk base iv lead gone).left - 1) = (RT.mk base iv lead gone).left - 1 := hL _ (by omega) (by omega)
  unfold RT.tm TM.tick
  dsimp only
  rw [e1, w8]
  unfold RT.fast RT.val RT.left RT.turn
  dsimp only
  clear hL hlb e1
  rcases hi with rfl | rfl | rfl | rfl
  all_goals
    simp only [decide_eq_true_eq]
    repeat' split
  all_goals try (exfalso; omega)
  all_goals
    simp only [TM.mk.injEq, decide_eq_decide, decide_eq_true_eq, true_and]
    try omega
theorem RT.tm_ok {t : RT} (h : t.Ok) : t.tm.ok := by
  obtain ⟨base, iv, lead, gone⟩ := t
  obtain ⟨hb, hi, hl, hg⟩ := h
  dsimp only at hb hi hl hg
  unfold RT.tm TM.ok
  refine ⟨?_, hi, ?_⟩
  · unfold RT.val RT.turn; dsimp only
    rcases hi with rfl | rfl | rfl | rfl <;> (repeat' split) <;> omega
  · unfold RT.left RT.turn; dsimp only
    rcases hi with rfl | rfl | rfl | rfl <;> (repeat' split) <;> omega
def RT.l (t : RT) : List Value := [.int .i64 t.base, .int .i64 t.iv, .int .i64 t.lead, .int .i64 t.gone, .bool false, .bool false]
theorem rt_turn (t : RT) (h : t.Ok) : ACalls Try.prog 88 [.agg t.l.toArray] [] fun v H => v = .int .i64 t.turn ∧ H = [] := by
  have e1 : IntKind.i64.wrap (t.base * t.iv) = t.base * t.iv := by
    have hb := h.b
    rcases h.iv with e | e | e | e <;> rw [e] <;> exact wrap64 (by omega) (by omega)
  have e2 : IntKind.i64.wrap (t.lead + t.base * t.iv) = t.turn := by
    have hb := h.b; have hl := h.ld
    unfold RT.turn
    rcases h.iv with e | e | e | e <;> rw [e] at hl ⊢ <;> exact wrap64 (by omega) (by omega)
  refine ACalls.code tabOk h88 Try.func88 Try.call88 ok88 ?_
  conv => whnf
  (rw [e1, e2]; exact ⟨rfl, rfl⟩)
theorem rt_fast (t : RT) (h : t.Ok) : ACalls Try.prog 86 [.agg t.l.toArray] [] fun v H => v = .bool t.fast ∧ H = [] := by
  refine ACalls.code tabOk h86 Try.func86 Try.call86 ok86 ?_
  conv => whnf
  refine ACalls.useE (rt_turn t h) [] rfl (by (conv => whnf); try rfl) (by (conv => whnf); try rfl) ?_
  conv => whnf
  refine ⟨rfl, ?_⟩
  conv => whnf
  exact ⟨rfl, rfl⟩
theorem rt_flag (t : RT) (h : t.Ok) : ACalls Try.prog 82 [.agg t.l.toArray] [] fun v H => v = .bool t.fast ∧ H = [] := by
  refine ACalls.code tabOk h82 Try.func82 Try.call82 ok82 ?_
  conv => whnf
  refine ACalls.useE (rt_turn t h) [] rfl (by (conv => whnf); try rfl) (by (conv => whnf); try rfl) ?_
  conv => whnf
  refine ⟨rfl, ?_⟩
  conv => whnf
  exact ⟨rfl, rfl⟩
theorem RT.turn_le {t : RT} (h : t.Ok) : 1 ≤ t.turn ∧ t.turn ≤ 300000 := by
  obtain ⟨base, iv, lead, gone⟩ := t
  obtain ⟨hb, hi, hl, hg⟩ := h
  dsimp only at hb hi hl hg
  unfold RT.turn; dsimp only
  rcases hi with rfl | rfl | rfl | rfl <;> omega
theorem rt_value (t : RT) (h : t.Ok) : ACalls Try.prog 83 [.agg t.l.toArray] [] fun v H => v = .int .i64 t.val ∧ H = [] := by
  have hb := h.b; have hg := h.g; have hl := h.ld; have hT := RT.turn_le h
  have hi : 1 ≤ t.iv ∧ t.iv ≤ 1024 := by rcases h.iv with e | e | e | e <;> rw [e] <;> decide
  by_cases h1 : t.turn ≤ t.gone
  · have ef : IntKind.i64.wrap (255 - (IntKind.i64.wrap (t.gone - t.turn)).tmod 256) = t.val := by
      rw [wrap64 (n := t.gone - t.turn) (by omega) (by omega), Int.tmod_eq_emod_of_nonneg (by omega), wrap64 (by omega) (by omega)]
      unfold RT.val; rw [if_pos h1]
    refine ACalls.code tabOk h83 Try.func83 Try.call83 ok83 ?_
    conv => whnf
    refine ACalls.useE (rt_turn t h) [] rfl (by (conv => whnf); try rfl) (by (conv => whnf); try rfl) ?_
    conv => whnf
    refine ⟨rfl, ?_⟩
    conv => whnf
    refine Bif.knT ?_ fun h0 => ?_
    · (simp [h1]; done)
    rw [h0]
    conv => whnf
    refine ACalls.useE (rt_turn t h) [] rfl (by (conv => whnf); try rfl) (by (conv => whnf); try rfl) ?_
    conv => whnf
    refine ⟨rfl, ?_⟩
    conv => whnf
    (rw [ef]; exact ⟨rfl, rfl⟩)
  · by_cases h2 : t.gone < t.lead
    · have ef : t.base = t.val := by unfold RT.val; rw [if_neg h1, if_pos h2]
      refine ACalls.code tabOk h83 Try.func83 Try.call83 ok83 ?_
      conv => whnf
      refine ACalls.useE (rt_turn t h) [] rfl (by (conv => whnf); try rfl) (by (conv => whnf); try rfl) ?_
      conv => whnf
      refine ⟨rfl, ?_⟩
      conv => whnf
      refine Bif.knF ?_ fun h0 => ?_
      · (simp [h1]; done)
      rw [h0]
      conv => whnf
      refine Bif.knT ?_ fun h1 => ?_
      · (simp [h2]; done)
      rw [h1]
      conv => whnf
      (rw [ef]; exact ⟨rfl, rfl⟩)
    · have hq : 0 ≤ (t.gone - t.lead) / t.iv ∧ (t.gone - t.lead) / t.iv ≤ 1000000 := ⟨Int.ediv_nonneg (by omega) (by omega), Int.le_trans (Int.ediv_le_self _ (by omega)) (by omega)⟩
      have ef : IntKind.i64.wrap (IntKind.i64.wrap (t.base - 1) - IntKind.i64.wrap ((IntKind.i64.wrap (t.gone - t.lead)).tdiv t.iv)) = t.val := by
        rw [wrap64 (n := t.gone - t.lead) (by omega) (by omega), Int.tdiv_eq_ediv_of_nonneg (by omega), wrap64 (n := (t.gone - t.lead) / t.iv) (by omega) (by omega), wrap64 (n := t.base - 1) (by omega) (by omega), wrap64 (by omega) (by omega)]
        unfold RT.val; rw [if_neg h1, if_neg h2]
      have hz : (t.iv == 0) = false := by simp; omega
      refine ACalls.code tabOk h83 Try.func83 Try.call83 ok83 ?_
      conv => whnf
      refine ACalls.useE (rt_turn t h) [] rfl (by (conv => whnf); try rfl) (by (conv => whnf); try rfl) ?_
      conv => whnf
      refine ⟨rfl, ?_⟩
      conv => whnf
      refine Bif.knF ?_ fun h0 => ?_
      · (simp [h1]; done)
      rw [h0]
      conv => whnf
      refine Bif.knF ?_ fun h1 => ?_
      · (simp; omega)
      rw [h1]
      conv => whnf
      refine Req.of ?_ ?_
      · (simp; omega)
      conv => whnf
      (simp; omega)
theorem rt_left (t : RT) (h : t.Ok) : ACalls Try.prog 84 [.agg t.l.toArray] [] fun v H => v = .int .i64 t.left ∧ H = [] := by
  have hb := h.b; have hg := h.g; have hl := h.ld; have hT := RT.turn_le h
  have hi : 1 ≤ t.iv ∧ t.iv ≤ 1024 := by rcases h.iv with e | e | e | e <;> rw [e] <;> decide
  by_cases h1 : t.turn ≤ t.gone
  · have ef : t.iv = t.left := by unfold RT.left; rw [if_pos h1]
    have eq : t.fast = true := by unfold RT.fast; simp [h1]
    have e3 : t.gone > 0 := by omega
    refine ACalls.code tabOk h84 Try.func84 Try.call84 ok84 ?_
    conv => whnf
    refine ACalls.useE (rt_fast t h) [] rfl (by (conv => whnf); try rfl) (by (conv => whnf); try rfl) ?_
    conv => whnf
    refine Bif.knT ?_ fun h0 => ?_
    · with_reducible assumption
    rw [h0]
    conv => whnf
    refine Bif.knT ?_ fun h1 => ?_
    · (simp [e3]; done)
    rw [h1]
    conv => whnf
    (rw [← ef]; exact ⟨rfl, rfl⟩)
  · have eq : t.fast = false := by unfold RT.fast; simp [h1]
    by_cases h2 : t.gone < t.lead
    · have ef : IntKind.i64.wrap (t.lead - t.gone) = t.left := by rw [wrap64 (by omega) (by omega)]; unfold RT.left; rw [if_neg h1, if_pos h2]
      refine ACalls.code tabOk h84 Try.func84 Try.call84 ok84 ?_
      conv => whnf
      refine ACalls.useE (rt_fast t h) [] rfl (by (conv => whnf); try rfl) (by (conv => whnf); try rfl) ?_
      conv => whnf
      refine Bif.knF ?_ fun h0 => ?_
      · with_reducible assumption
      rw [h0]
      conv => whnf
      refine Bif.knT ?_ fun h1 => ?_
      · (simp [h2]; done)
      rw [h1]
      conv => whnf
      (rw [ef]; exact ⟨rfl, rfl⟩)
    · have hq : 0 ≤ (t.gone - t.lead) % t.iv ∧ (t.gone - t.lead) % t.iv < t.iv := ⟨Int.emod_nonneg _ (by omega), Int.emod_lt_of_pos _ (by omega)⟩
      have ef : IntKind.i64.wrap (t.iv - (IntKind.i64.wrap (t.gone - t.lead)).tmod t.iv) = t.left := by
        rw [wrap64 (n := t.gone - t.lead) (by omega) (by omega), Int.tmod_eq_emod_of_nonneg (by omega), wrap64 (by omega) (by omega)]
        unfold RT.left; rw [if_neg h1, if_neg h2]
      have hz : (t.iv == 0) = false := by simp; omega
      refine ACalls.code tabOk h84 Try.func84 Try.call84 ok84 ?_
      conv => whnf
      refine ACalls.useE (rt_fast t h) [] rfl (by (conv => whnf); try rfl) (by (conv => whnf); try rfl) ?_
      conv => whnf
      refine Bif.knF ?_ fun h0 => ?_
      · with_reducible assumption
      rw [h0]
      conv => whnf
      refine Bif.knF ?_ fun h1 => ?_
      · (simp; omega)
      rw [h1]
      conv => whnf
      refine Req.of ?_ ?_
      · (simp; omega)
      conv => whnf
      (simp; omega)
theorem rt_words (t : RT) (h : t.Ok) : ACalls Try.prog 74 [.agg t.l.toArray] [] fun v H => v = .agg #[.int .i64 t.val, .int .i64 t.iv, .int .i64 t.left, .int .i64 (one01 t.fast), .int .i64 (one01 t.fast)] ∧ H = [] := by
  cases hf : t.fast with
  | true =>
    refine ACalls.code tabOk h74 Try.func74 Try.call74 ok74 ?_
    conv => whnf
    refine ACalls.useE (rt_value t h) [] rfl (by (conv => whnf); try rfl) (by (conv => whnf); try rfl) ?_
    conv => whnf
    refine ⟨rfl, ?_⟩
    conv => whnf
    refine ⟨rfl, ?_⟩
    conv => whnf
    refine ⟨rfl, ?_⟩
    conv => whnf
    refine ⟨rfl, ?_⟩
    conv => whnf
    refine ACalls.useE (rt_left t h) [] rfl (by (conv => whnf); try rfl) (by (conv => whnf); try rfl) ?_
    conv => whnf
    refine ⟨rfl, ?_⟩
    conv => whnf
    refine ⟨rfl, ?_⟩
    conv => whnf
    refine ⟨rfl, ?_⟩
    conv => whnf
    refine ACalls.useE (rt_fast t h) [] rfl (by (conv => whnf); try rfl) (by (conv => whnf); try rfl) ?_
    conv => whnf
    rw [hf]
    conv => whnf
    refine ⟨rfl, ?_⟩
    conv => whnf
    refine ⟨rfl, ?_⟩
    conv => whnf
    refine ACalls.code tabOk h85 Try.func85 Try.call85 ok85 ?_
    conv => whnf
    refine ⟨rfl, ?_⟩
    conv => whnf
    refine ⟨rfl, ?_⟩
    conv => whnf
    refine ACalls.useE (rt_flag t h) [] rfl (by (conv => whnf); try rfl) (by (conv => whnf); try rfl) ?_
    conv => whnf
    rw [hf]
    conv => whnf
    refine ⟨rfl, ?_⟩
    conv => whnf
    refine ACalls.code tabOk h85 Try.func85 Try.call85 ok85 ?_
    conv => whnf
    refine ⟨rfl, ?_⟩
    conv => whnf
    exact ⟨rfl, rfl⟩
  | false =>
    refine ACalls.code tabOk h74 Try.func74 Try.call74 ok74 ?_
    conv => whnf
    refine ACalls.useE (rt_value t h) [] rfl (by (conv => whnf); try rfl) (by (conv => whnf); try rfl) ?_
    conv => whnf
    refine ⟨rfl, ?_⟩
    conv => whnf
    refine ⟨rfl, ?_⟩
    conv => whnf
    refine ⟨rfl, ?_⟩
    conv => whnf
    refine ⟨rfl, ?_⟩
    conv => whnf
    refine ACalls.useE (rt_left t h) [] rfl (by (conv => whnf); try rfl) (by (conv => whnf); try rfl) ?_
    conv => whnf
    refine ⟨rfl, ?_⟩
    conv => whnf
    refine ⟨rfl, ?_⟩
    conv => whnf
    refine ⟨rfl, ?_⟩
    conv => whnf
    refine ACalls.useE (rt_fast t h) [] rfl (by (conv => whnf); try rfl) (by (conv => whnf); try rfl) ?_
    conv => whnf
    rw [hf]
    conv => whnf
    refine ⟨rfl, ?_⟩
    conv => whnf
    refine ⟨rfl, ?_⟩
    conv => whnf
    refine ACalls.code tabOk h85 Try.func85 Try.call85 ok85 ?_
    conv => whnf
    refine ⟨rfl, ?_⟩
    conv => whnf
    refine ⟨rfl, ?_⟩
    conv => whnf
    refine ACalls.useE (rt_flag t h) [] rfl (by (conv => whnf); try rfl) (by (conv => whnf); try rfl) ?_
    conv => whnf
    rw [hf]
    conv => whnf
    refine ⟨rfl, ?_⟩
    conv => whnf
    refine ACalls.code tabOk h85 Try.func85 Try.call85 ok85 ?_
    conv => whnf
    refine ⟨rfl, ?_⟩
    conv => whnf
    exact ⟨rfl, rfl⟩
theorem rt_tick (t : RT) (h : t.Ok) : ACalls Try.prog 79 [.agg t.l.toArray] [] fun v H => v = .agg (RT.l { t with gone := t.gone + 1 }).toArray ∧ H = [] := by
  have hg := h.g
  have e : IntKind.i64.wrap (t.gone + 1) = t.gone + 1 := wrap64 (by omega) (by omega)
  refine ACalls.code tabOk h79 Try.func79 Try.call79 ok79 ?_
  conv => whnf
  (rw [e]; exact ⟨rfl, rfl⟩)
theorem rt_interval (n : Int) (hn : 0 ≤ n) : ACalls Try.prog 87 [.int .i64 n] [] fun v H => v = .int .i64 (ivl n) ∧ H = [] := by
  have e : n.tmod 4 = n % 4 := Int.tmod_eq_emod_of_nonneg hn
  have h4 : n % 4 = 0 ∨ n % 4 = 1 ∨ n % 4 = 2 ∨ n % 4 = 3 := by omega
  rcases h4 with h4 | h4 | h4 | h4
  · have e2 : ivl n = 1 := by unfold ivl; rw [if_pos h4]
    refine ACalls.code tabOk h87 Try.func87 Try.call87 ok87 ?_
    conv => whnf
    rw [e]
    conv => whnf
    rw [h4]
    conv => whnf
    (rw [e2]; exact ⟨rfl, rfl⟩)
  · have e2 : ivl n = 8 := by unfold ivl; rw [if_neg (by omega), if_pos h4]
    refine ACalls.code tabOk h87 Try.func87 Try.call87 ok87 ?_
    conv => whnf
    rw [e]
    conv => whnf
    rw [h4]
    conv => whnf
    (rw [e2]; exact ⟨rfl, rfl⟩)
  · have e2 : ivl n = 64 := by unfold ivl; rw [if_neg (by omega), if_neg (by omega), if_pos h4]
    refine ACalls.code tabOk h87 Try.func87 Try.call87 ok87 ?_
    conv => whnf
    rw [e]
    conv => whnf
    rw [h4]
    conv => whnf
    (rw [e2]; exact ⟨rfl, rfl⟩)
  · have e2 : ivl n = 1024 := by unfold ivl; rw [if_neg (by omega), if_neg (by omega), if_neg (by omega)]
    refine ACalls.code tabOk h87 Try.func87 Try.call87 ok87 ?_
    conv => whnf
    rw [e]
    conv => whnf
    rw [h4]
    conv => whnf
    (rw [e2]; exact ⟨rfl, rfl⟩)
theorem rt_write (x n : Int) (hn : 0 ≤ n) : ACalls Try.prog 78 [.int .i64 x, .int .i64 n] [] fun v H => v = .agg (RT.l ⟨x, ivl n, 1, 0⟩).toArray ∧ H = [] := by
  refine ACalls.code tabOk h78 Try.func78 Try.call78 ok78 ?_
  conv => whnf
  refine ACalls.useE (rt_interval _ ?_) [] rfl (by (conv => whnf); try rfl) (by (conv => whnf); try rfl) ?_
  · omega
  conv => whnf
  exact ⟨rfl, rfl⟩
theorem rt_new : ACalls Try.prog 70 [] [] fun v H => v = .agg (RT.l ⟨255, 1024, 1, 0⟩).toArray ∧ H = [] := by
  refine ACalls.code tabOk h70 Try.func70 Try.call70 ok70 ?_
  conv => whnf
  refine ACalls.useE (rt_write _ _ ?_) [] rfl (by (conv => whnf); try rfl) (by (conv => whnf); try rfl) ?_
  · decide
  conv => whnf
  exact ⟨rfl, rfl⟩
/-- The timer behind a read. -/
def RT.rd (t : RT) : RT := if t.fast then ⟨t.val, t.iv, t.iv, 0⟩ else t
theorem rt_read (t : RT) (h : t.Ok) : ACalls Try.prog 81 [.agg t.l.toArray] [] fun v H => v = .tuple #[.int .i64 t.val, .agg t.rd.l.toArray] ∧ H = [] := by
  cases hf : t.fast with
  | true =>
    have e : t.rd = ⟨t.val, t.iv, t.iv, 0⟩ := by unfold RT.rd; rw [hf]; rfl
    rw [e]
    refine ACalls.code tabOk h81 Try.func81 Try.call81 ok81 ?_
    conv => whnf
    refine ACalls.useE (rt_value t h) [] rfl (by (conv => whnf); try rfl) (by (conv => whnf); try rfl) ?_
    conv => whnf
    refine ACalls.useE (rt_fast t h) [] rfl (by (conv => whnf); try rfl) (by (conv => whnf); try rfl) ?_
    conv => whnf
    rw [hf]
    conv => whnf
    exact ⟨rfl, rfl⟩
  | false =>
    have e : t.rd = t := by unfold RT.rd; rw [hf]; rfl
    rw [e]
    refine ACalls.code tabOk h81 Try.func81 Try.call81 ok81 ?_
    conv => whnf
    refine ACalls.useE (rt_value t h) [] rfl (by (conv => whnf); try rfl) (by (conv => whnf); try rfl) ?_
    conv => whnf
    refine ACalls.useE (rt_fast t h) [] rfl (by (conv => whnf); try rfl) (by (conv => whnf); try rfl) ?_
    conv => whnf
    rw [hf]
    conv => whnf
    exact ⟨rfl, rfl⟩
theorem RT.rd_ok {t : RT} (h : t.Ok) : t.rd.Ok ∧ t.rd.tm = t.tm.read ∧ t.rd.gone ≤ t.gone := by
  have hk := RT.tm_ok h
  have hv : 0 ≤ t.val ∧ t.val ≤ 255 := hk.1
  have hi : 1 ≤ t.iv := by rcases h.iv with e | e | e | e <;> rw [e] <;> decide
  cases hf : t.fast with
  | true =>
    have e : t.rd = ⟨t.val, t.iv, t.iv, 0⟩ := by unfold RT.rd; rw [hf]; rfl
    rw [e]
    refine ⟨⟨hv, h.iv, ⟨hi, Int.le_refl _⟩, show (0 : Int) ≤ 0 ∧ (0 : Int) ≤ 1000000 from by decide⟩, ?_, h.g.1⟩
    have e2 : t.tm.read = ⟨t.val, t.iv, t.iv, false, false⟩ := by unfold TM.read RT.tm; simp [hf]
    rw [e2]
    generalize t.val = v at hv
    generalize t.iv = iv at hi
    have hm : 0 ≤ v * iv := Int.mul_nonneg hv.1 (by omega)
    have c1 : ¬ (iv + v * iv ≤ 0) := by omega
    have c2 : (0 : Int) < iv := by omega
    unfold RT.tm RT.fast RT.val RT.left RT.turn
    simp [c1, c2]
  | false =>
    have e : t.rd = t := by unfold RT.rd; rw [hf]; rfl
    rw [e]
    refine ⟨h, ?_, Int.le_refl _⟩
    unfold TM.read RT.tm; simp [hf]
end Go.Proofs
