/-
  Walks through the functions of the program, by contract.
-/
import Derived.Test.YtmdiokmkokjpiaaGreatZcF
import Derived.Test.YtmdiokmkokjpiaaGreatCoreE
set_option linter.all false
set_option linter.unusedVariables false
set_option linter.unusedSimpArgs false
set_option linter.unnecessarySimpa false
namespace Go.Proofs
open Go.Aw
set_option maxRecDepth 100000
set_option maxHeartbeats 8000000
theorem ret_sound {P : Program} {μ0 : List Nat} {H0 : List Blk} {w0 : World} {K : AK} {μ : List Nat} {ts : List Value} {H : List Blk} {a : Act} {w : World} (hv : SRs μ ts a.tmps.toList) (hr : Rel μ H w) (hx : Ext μ0 H0 w0 μ H w) (hd : a.defers = []) (h : K .ret ts H) : (Code.ret).wp P (OutX μ0 H0 w0 K) a w :=
  wp_ret ⟨μ, ts, H, hv, hr, hx, hd, h⟩
theorem zmem {n : Nat} {v : Value} (h : v ∈ replZ n [.int .i64 0]) : v = .int .i64 0 := by
  unfold replZ at h
  obtain ⟨l, hl, hv⟩ := List.mem_flatten.1 h
  have := (List.mem_replicate.1 hl).2
  subst this
  simpa using hv
theorem zflat {n : Nat} : ∀ v ∈ replZ n [.int .i64 0], flatV v = true := fun v h => by rw [zmem h]; rfl
theorem zall {n : Nat} {f : Value → Bool} (h : ∀ x : Int, f (.int .i64 x) = true) : (replZ n [.int .i64 0]).all f = true := List.all_eq_true.2 fun v hv => by rw [zmem hv]; exact h 0
theorem starts0 (u : Int) (hu : u.tmod 8 = 0) : ACalls Tryz.prog 103 [.int .u8 u] [] fun v H => v = .slice (some ⟨0, 0, none⟩) 1 1 ∧ H = [.cells [.int .i64 0] 3] := by
  refine (ACalls.introW (R := Keep [5] [] _) tabOk Tryz.func103 rfl Tryz.call103 fun μ a w hv hr hd => ?_).keep [5]
  obtain ⟨ts, ets⟩ : ∃ ts, ts = ([.int .u8 u] ++ List.replicate 16 undef : List Value) := ⟨_, rfl⟩
  replace hv : SRs μ ts a.tmps.toList := by rw [ets]; exact hv
  have hl0 := hr.len
  refine wp_seq (wp_mono (code_sound tabOk [] (.region 0 _ false) (fun e ts' H' => e = .normal ∧ ts' = ts.set 2 (.slice none 0 0) ∧ H' = []) ts [] rfl ?_ μ a w hv hr hd) ?_)
  · subst ets; conv => whnf
    exact ⟨rfl, rfl, rfl⟩
  rintro e a1 w1 h1
  cases e <;> try exact h1.elim
  case exit => obtain ⟨_, _, _, _, _, _, _, h, _⟩ := h1; cases h
  case ret => obtain ⟨_, _, _, _, _, _, _, h, _⟩ := h1; cases h
  obtain ⟨μ1, ts1, H1, hv1, hr1, hx1, hd1, _, rfl, rfl⟩ := h1
  subst ets
  refine wp_seq (wp_region ?_)
  have ht : ∀ w, (underlying 147).run Tryz.prog w = .ok (.map 5 39) w := fun w => run_underlying Tryz.underlying147 w
  have hk : ∀ w, (underlying 5).run Tryz.prog w = .ok (.int .u8) w := fun w => tabOk.underlying (t := 5) rfl w
  have hz : ∀ w, (zeroValue 39).run Tryz.prog w = .ok (.slice none 0 0) w := fun w => by rfl
  refine wm_make (kd := .u8) (i := 0) (L := [1, 2, 3, 4, 5, 6, 7, 8, 9, 10, 11, 12]) (μ0 := μ) (H0 := []) (w0 := w) rfl rfl rfl rfl hv1 hr1 hx1 hd1 hl0 (by simp) ?_
  refine wm_step tabOk rfl rfl rfl rfl hl0 ?_
  conv => whnf
  refine wm_insert rfl rfl rfl rfl ht hk (by decide) rfl (by simp [junk]) (by simp) hl0 ?_
  refine wm_step tabOk rfl rfl rfl rfl hl0 ?_
  conv => whnf
  refine wm_insert rfl rfl rfl rfl ht hk (by decide) rfl (by simp [junk]) (by simp) hl0 ?_
  refine wm_step tabOk rfl rfl rfl rfl hl0 ?_
  conv => whnf
  refine wm_insert rfl rfl rfl rfl ht hk (by decide) rfl (by simp [junk]) (by simp) hl0 ?_
  refine wm_step tabOk rfl rfl rfl rfl hl0 ?_
  conv => whnf
  refine wm_insert rfl rfl rfl rfl ht hk (by decide) rfl (by simp [junk]) (by simp) hl0 ?_
  refine wm_step tabOk rfl rfl rfl rfl hl0 ?_
  conv => whnf
  refine wm_insert rfl rfl rfl rfl ht hk (by decide) rfl (by simp [junk]) (by simp) hl0 ?_
  refine wm_move rfl rfl (.inl rfl) rfl (by decide) (by simp) ?_
  refine wm_move rfl rfl (.inr rfl) rfl (by decide) (by simp) ?_
  refine ⟨fun μ2 a2 w2 b hv2 hr2 hx2 hd2 hb hmap hms => ?_⟩
  refine wp_seq (wp_region ?_)
  refine WM.out (kd := .u8) (ops := _) (μ0 := μ) (H0 := []) (w0 := w) (L := [0, 1, 2, 3, 4, 5, 6]) ?_ μ2 a2 w2 b hv2 hr2 hx2 hd2 hb hmap hms
  refine wm_step tabOk rfl rfl rfl rfl hl0 ?_
  conv => whnf
  refine wm_move rfl rfl (.inl rfl) rfl (by decide) (by simp) ?_
  refine wm_step tabOk rfl rfl rfl rfl hl0 ?_
  conv => whnf
  refine wm_step tabOk rfl rfl rfl rfl hl0 ?_
  conv => whnf
  rw [hu]
  refine wm_lookup rfl rfl rfl rfl ht hk hz (fun μ => .slN _ _) (by decide) rfl (by decide) fun v hvl => ?_
  obtain rfl : v = .slice none 0 0 := by
    rcases hvl with ⟨j, hj, _⟩ | ⟨h1, hn⟩
    · rcases j with _ | _ | _ | _ | _ | j <;> simp at hj <;> exact hj.symm
    · first | exact h1 | (exact h1)
  refine wm_step tabOk rfl rfl rfl rfl hl0 ?_
  conv => whnf
  refine wm_step tabOk rfl rfl rfl rfl hl0 ?_
  conv => whnf
  refine ⟨fun μ3 a3 w3 b3 hv3 hr3 hx3 hd3 _ _ _ => ?_⟩
  refine ret_sound hv3 hr3 hx3 hd3 ?_
  conv => whnf
  exact ⟨rfl, rfl⟩
theorem starts1 (u : Int) (hu : u.tmod 8 = 1) : ACalls Tryz.prog 103 [.int .u8 u] [] fun v H => ∃ nc : Nat, 2 ≤ nc ∧ v = .slice (some ⟨0, 0, none⟩) 2 nc ∧ H = [.cells (.int .i64 0 :: .int .i64 16 :: replZ (nc - 2) [.int .i64 0]) 3] := by
  refine (ACalls.introW (R := Keep [6] [] _) tabOk Tryz.func103 rfl Tryz.call103 fun μ a w hv hr hd => ?_).keep [6]
  obtain ⟨ts, ets⟩ : ∃ ts, ts = ([.int .u8 u] ++ List.replicate 16 undef : List Value) := ⟨_, rfl⟩
  replace hv : SRs μ ts a.tmps.toList := by rw [ets]; exact hv
  have hl0 := hr.len
  refine wp_seq (wp_mono (code_sound tabOk [] (.region 0 _ false) (fun e ts' H' => e = .normal ∧ ts' = ts.set 2 (.slice none 0 0) ∧ H' = []) ts [] rfl ?_ μ a w hv hr hd) ?_)
  · subst ets; conv => whnf
    exact ⟨rfl, rfl, rfl⟩
  rintro e a1 w1 h1
  cases e <;> try exact h1.elim
  case exit => obtain ⟨_, _, _, _, _, _, _, h, _⟩ := h1; cases h
  case ret => obtain ⟨_, _, _, _, _, _, _, h, _⟩ := h1; cases h
  obtain ⟨μ1, ts1, H1, hv1, hr1, hx1, hd1, _, rfl, rfl⟩ := h1
  subst ets
  refine wp_seq (wp_region ?_)
  have ht : ∀ w, (underlying 147).run Tryz.prog w = .ok (.map 5 39) w := fun w => run_underlying Tryz.underlying147 w
  have hk : ∀ w, (underlying 5).run Tryz.prog w = .ok (.int .u8) w := fun w => tabOk.underlying (t := 5) rfl w
  have hz : ∀ w, (zeroValue 39).run Tryz.prog w = .ok (.slice none 0 0) w := fun w => by rfl
  refine wm_make (kd := .u8) (i := 0) (L := [1, 2, 3, 4, 5, 6, 7, 8, 9, 10, 11, 12]) (μ0 := μ) (H0 := []) (w0 := w) rfl rfl rfl rfl hv1 hr1 hx1 hd1 hl0 (by simp) ?_
  refine wm_step tabOk rfl rfl rfl rfl hl0 ?_
  conv => whnf
  refine wm_insert rfl rfl rfl rfl ht hk (by decide) rfl (by simp [junk]) (by simp) hl0 ?_
  refine wm_step tabOk rfl rfl rfl rfl hl0 ?_
  conv => whnf
  refine wm_insert rfl rfl rfl rfl ht hk (by decide) rfl (by simp [junk]) (by simp) hl0 ?_
  refine wm_step tabOk rfl rfl rfl rfl hl0 ?_
  conv => whnf
  refine wm_insert rfl rfl rfl rfl ht hk (by decide) rfl (by simp [junk]) (by simp) hl0 ?_
  refine wm_step tabOk rfl rfl rfl rfl hl0 ?_
  conv => whnf
  refine wm_insert rfl rfl rfl rfl ht hk (by decide) rfl (by simp [junk]) (by simp) hl0 ?_
  refine wm_step tabOk rfl rfl rfl rfl hl0 ?_
  conv => whnf
  refine wm_insert rfl rfl rfl rfl ht hk (by decide) rfl (by simp [junk]) (by simp) hl0 ?_
  refine wm_move rfl rfl (.inl rfl) rfl (by decide) (by simp) ?_
  refine wm_move rfl rfl (.inr rfl) rfl (by decide) (by simp) ?_
  refine ⟨fun μ2 a2 w2 b hv2 hr2 hx2 hd2 hb hmap hms => ?_⟩
  refine wp_seq (wp_region ?_)
  refine WM.out (kd := .u8) (ops := _) (μ0 := μ) (H0 := []) (w0 := w) (L := [0, 1, 2, 3, 4, 5, 6]) ?_ μ2 a2 w2 b hv2 hr2 hx2 hd2 hb hmap hms
  refine wm_step tabOk rfl rfl rfl rfl hl0 ?_
  conv => whnf
  refine wm_move rfl rfl (.inl rfl) rfl (by decide) (by simp) ?_
  refine wm_step tabOk rfl rfl rfl rfl hl0 ?_
  conv => whnf
  refine wm_step tabOk rfl rfl rfl rfl hl0 ?_
  conv => whnf
  rw [hu]
  refine wm_lookup rfl rfl rfl rfl ht hk hz (fun μ => .slN _ _) (by decide) rfl (by decide) fun v hvl => ?_
  obtain rfl : v = .slice (some ⟨0, 0, none⟩) 1 1 := by
    rcases hvl with ⟨j, hj, _⟩ | ⟨h1, hn⟩
    · rcases j with _ | _ | _ | _ | _ | j <;> simp at hj <;> exact hj.symm
    · first | exact h1 | (exfalso; exact hn (1, .slice (some ⟨0, 0, none⟩) 1 1) (by simp) rfl)
  refine wm_step tabOk rfl rfl rfl rfl hl0 ?_
  conv => whnf
  intro nc hn1 hn2
  conv => whnf
  refine wm_step tabOk rfl rfl rfl rfl hl0 ?_
  conv => whnf
  refine ⟨fun μ3 a3 w3 b3 hv3 hr3 hx3 hd3 _ _ _ => ?_⟩
  refine ret_sound hv3 hr3 hx3 hd3 ?_
  conv => whnf
  refine renL_flatC zflat ?_
  conv => whnf
  refine Req.of ?_ ?_
  · exact zall fun _ => rfl
  conv => whnf
  exact ⟨nc, hn1, rfl, rfl⟩
theorem starts2 (u : Int) (hu : u.tmod 8 = 2) : ACalls Tryz.prog 103 [.int .u8 u] [] fun v H => ∃ nc : Nat, 2 ≤ nc ∧ v = .slice (some ⟨0, 0, none⟩) 2 nc ∧ H = [.cells (.int .i64 0 :: .int .i64 32 :: replZ (nc - 2) [.int .i64 0]) 3] := by
  refine (ACalls.introW (R := Keep [6] [] _) tabOk Tryz.func103 rfl Tryz.call103 fun μ a w hv hr hd => ?_).keep [6]
  obtain ⟨ts, ets⟩ : ∃ ts, ts = ([.int .u8 u] ++ List.replicate 16 undef : List Value) := ⟨_, rfl⟩
  replace hv : SRs μ ts a.tmps.toList := by rw [ets]; exact hv
  have hl0 := hr.len
  refine wp_seq (wp_mono (code_sound tabOk [] (.region 0 _ false) (fun e ts' H' => e = .normal ∧ ts' = ts.set 2 (.slice none 0 0) ∧ H' = []) ts [] rfl ?_ μ a w hv hr hd) ?_)
  · subst ets; conv => whnf
    exact ⟨rfl, rfl, rfl⟩
  rintro e a1 w1 h1
  cases e <;> try exact h1.elim
  case exit => obtain ⟨_, _, _, _, _, _, _, h, _⟩ := h1; cases h
  case ret => obtain ⟨_, _, _, _, _, _, _, h, _⟩ := h1; cases h
  obtain ⟨μ1, ts1, H1, hv1, hr1, hx1, hd1, _, rfl, rfl⟩ := h1
  subst ets
  refine wp_seq (wp_region ?_)
  have ht : ∀ w, (underlying 147).run Tryz.prog w = .ok (.map 5 39) w := fun w => run_underlying Tryz.underlying147 w
  have hk : ∀ w, (underlying 5).run Tryz.prog w = .ok (.int .u8) w := fun w => tabOk.underlying (t := 5) rfl w
  have hz : ∀ w, (zeroValue 39).run Tryz.prog w = .ok (.slice none 0 0) w := fun w => by rfl
  refine wm_make (kd := .u8) (i := 0) (L := [1, 2, 3, 4, 5, 6, 7, 8, 9, 10, 11, 12]) (μ0 := μ) (H0 := []) (w0 := w) rfl rfl rfl rfl hv1 hr1 hx1 hd1 hl0 (by simp) ?_
  refine wm_step tabOk rfl rfl rfl rfl hl0 ?_
  conv => whnf
  refine wm_insert rfl rfl rfl rfl ht hk (by decide) rfl (by simp [junk]) (by simp) hl0 ?_
  refine wm_step tabOk rfl rfl rfl rfl hl0 ?_
  conv => whnf
  refine wm_insert rfl rfl rfl rfl ht hk (by decide) rfl (by simp [junk]) (by simp) hl0 ?_
  refine wm_step tabOk rfl rfl rfl rfl hl0 ?_
  conv => whnf
  refine wm_insert rfl rfl rfl rfl ht hk (by decide) rfl (by simp [junk]) (by simp) hl0 ?_
  refine wm_step tabOk rfl rfl rfl rfl hl0 ?_
  conv => whnf
  refine wm_insert rfl rfl rfl rfl ht hk (by decide) rfl (by simp [junk]) (by simp) hl0 ?_
  refine wm_step tabOk rfl rfl rfl rfl hl0 ?_
  conv => whnf
  refine wm_insert rfl rfl rfl rfl ht hk (by decide) rfl (by simp [junk]) (by simp) hl0 ?_
  refine wm_move rfl rfl (.inl rfl) rfl (by decide) (by simp) ?_
  refine wm_move rfl rfl (.inr rfl) rfl (by decide) (by simp) ?_
  refine ⟨fun μ2 a2 w2 b hv2 hr2 hx2 hd2 hb hmap hms => ?_⟩
  refine wp_seq (wp_region ?_)
  refine WM.out (kd := .u8) (ops := _) (μ0 := μ) (H0 := []) (w0 := w) (L := [0, 1, 2, 3, 4, 5, 6]) ?_ μ2 a2 w2 b hv2 hr2 hx2 hd2 hb hmap hms
  refine wm_step tabOk rfl rfl rfl rfl hl0 ?_
  conv => whnf
  refine wm_move rfl rfl (.inl rfl) rfl (by decide) (by simp) ?_
  refine wm_step tabOk rfl rfl rfl rfl hl0 ?_
  conv => whnf
  refine wm_step tabOk rfl rfl rfl rfl hl0 ?_
  conv => whnf
  rw [hu]
  refine wm_lookup rfl rfl rfl rfl ht hk hz (fun μ => .slN _ _) (by decide) rfl (by decide) fun v hvl => ?_
  obtain rfl : v = .slice (some ⟨1, 0, none⟩) 1 1 := by
    rcases hvl with ⟨j, hj, _⟩ | ⟨h1, hn⟩
    · rcases j with _ | _ | _ | _ | _ | j <;> simp at hj <;> exact hj.symm
    · first | exact h1 | (exfalso; exact hn (2, .slice (some ⟨1, 0, none⟩) 1 1) (by simp) rfl)
  refine wm_step tabOk rfl rfl rfl rfl hl0 ?_
  conv => whnf
  intro nc hn1 hn2
  conv => whnf
  refine wm_step tabOk rfl rfl rfl rfl hl0 ?_
  conv => whnf
  refine ⟨fun μ3 a3 w3 b3 hv3 hr3 hx3 hd3 _ _ _ => ?_⟩
  refine ret_sound hv3 hr3 hx3 hd3 ?_
  conv => whnf
  refine renL_flatC zflat ?_
  conv => whnf
  refine Req.of ?_ ?_
  · exact zall fun _ => rfl
  conv => whnf
  exact ⟨nc, hn1, rfl, rfl⟩
theorem starts3 (u : Int) (hu : u.tmod 8 = 3) : ACalls Tryz.prog 103 [.int .u8 u] [] fun v H => ∃ nc : Nat, 3 ≤ nc ∧ v = .slice (some ⟨0, 0, none⟩) 3 nc ∧ H = [.cells (.int .i64 0 :: .int .i64 16 :: .int .i64 32 :: replZ (nc - 3) [.int .i64 0]) 3] := by
  refine (ACalls.introW (R := Keep [6] [] _) tabOk Tryz.func103 rfl Tryz.call103 fun μ a w hv hr hd => ?_).keep [6]
  obtain ⟨ts, ets⟩ : ∃ ts, ts = ([.int .u8 u] ++ List.replicate 16 undef : List Value) := ⟨_, rfl⟩
  replace hv : SRs μ ts a.tmps.toList := by rw [ets]; exact hv
  have hl0 := hr.len
  refine wp_seq (wp_mono (code_sound tabOk [] (.region 0 _ false) (fun e ts' H' => e = .normal ∧ ts' = ts.set 2 (.slice none 0 0) ∧ H' = []) ts [] rfl ?_ μ a w hv hr hd) ?_)
  · subst ets; conv => whnf
    exact ⟨rfl, rfl, rfl⟩
  rintro e a1 w1 h1
  cases e <;> try exact h1.elim
  case exit => obtain ⟨_, _, _, _, _, _, _, h, _⟩ := h1; cases h
  case ret => obtain ⟨_, _, _, _, _, _, _, h, _⟩ := h1; cases h
  obtain ⟨μ1, ts1, H1, hv1, hr1, hx1, hd1, _, rfl, rfl⟩ := h1
  subst ets
  refine wp_seq (wp_region ?_)
  have ht : ∀ w, (underlying 147).run Tryz.prog w = .ok (.map 5 39) w := fun w => run_underlying Tryz.underlying147 w
  have hk : ∀ w, (underlying 5).run Tryz.prog w = .ok (.int .u8) w := fun w => tabOk.underlying (t := 5) rfl w
  have hz : ∀ w, (zeroValue 39).run Tryz.prog w = .ok (.slice none 0 0) w := fun w => by rfl
  refine wm_make (kd := .u8) (i := 0) (L := [1, 2, 3, 4, 5, 6, 7, 8, 9, 10, 11, 12]) (μ0 := μ) (H0 := []) (w0 := w) rfl rfl rfl rfl hv1 hr1 hx1 hd1 hl0 (by simp) ?_
  refine wm_step tabOk rfl rfl rfl rfl hl0 ?_
  conv => whnf
  refine wm_insert rfl rfl rfl rfl ht hk (by decide) rfl (by simp [junk]) (by simp) hl0 ?_
  refine wm_step tabOk rfl rfl rfl rfl hl0 ?_
  conv => whnf
  refine wm_insert rfl rfl rfl rfl ht hk (by decide) rfl (by simp [junk]) (by simp) hl0 ?_
  refine wm_step tabOk rfl rfl rfl rfl hl0 ?_
  conv => whnf
  refine wm_insert rfl rfl rfl rfl ht hk (by decide) rfl (by simp [junk]) (by simp) hl0 ?_
  refine wm_step tabOk rfl rfl rfl rfl hl0 ?_
  conv => whnf
  refine wm_insert rfl rfl rfl rfl ht hk (by decide) rfl (by simp [junk]) (by simp) hl0 ?_
  refine wm_step tabOk rfl rfl rfl rfl hl0 ?_
  conv => whnf
  refine wm_insert rfl rfl rfl rfl ht hk (by decide) rfl (by simp [junk]) (by simp) hl0 ?_
  refine wm_move rfl rfl (.inl rfl) rfl (by decide) (by simp) ?_
  refine wm_move rfl rfl (.inr rfl) rfl (by decide) (by simp) ?_
  refine ⟨fun μ2 a2 w2 b hv2 hr2 hx2 hd2 hb hmap hms => ?_⟩
  refine wp_seq (wp_region ?_)
  refine WM.out (kd := .u8) (ops := _) (μ0 := μ) (H0 := []) (w0 := w) (L := [0, 1, 2, 3, 4, 5, 6]) ?_ μ2 a2 w2 b hv2 hr2 hx2 hd2 hb hmap hms
  refine wm_step tabOk rfl rfl rfl rfl hl0 ?_
  conv => whnf
  refine wm_move rfl rfl (.inl rfl) rfl (by decide) (by simp) ?_
  refine wm_step tabOk rfl rfl rfl rfl hl0 ?_
  conv => whnf
  refine wm_step tabOk rfl rfl rfl rfl hl0 ?_
  conv => whnf
  rw [hu]
  refine wm_lookup rfl rfl rfl rfl ht hk hz (fun μ => .slN _ _) (by decide) rfl (by decide) fun v hvl => ?_
  obtain rfl : v = .slice (some ⟨2, 0, none⟩) 2 2 := by
    rcases hvl with ⟨j, hj, _⟩ | ⟨h1, hn⟩
    · rcases j with _ | _ | _ | _ | _ | j <;> simp at hj <;> exact hj.symm
    · first | exact h1 | (exfalso; exact hn (3, .slice (some ⟨2, 0, none⟩) 2 2) (by simp) rfl)
  refine wm_step tabOk rfl rfl rfl rfl hl0 ?_
  conv => whnf
  intro nc hn1 hn2
  conv => whnf
  refine wm_step tabOk rfl rfl rfl rfl hl0 ?_
  conv => whnf
  refine ⟨fun μ3 a3 w3 b3 hv3 hr3 hx3 hd3 _ _ _ => ?_⟩
  refine ret_sound hv3 hr3 hx3 hd3 ?_
  conv => whnf
  refine renL_flatC zflat ?_
  conv => whnf
  refine Req.of ?_ ?_
  · exact zall fun _ => rfl
  conv => whnf
  exact ⟨nc, hn1, rfl, rfl⟩
theorem starts4 (u : Int) (hu : u.tmod 8 = 4) : ACalls Tryz.prog 103 [.int .u8 u] [] fun v H => ∃ nc : Nat, 2 ≤ nc ∧ v = .slice (some ⟨0, 0, none⟩) 2 nc ∧ H = [.cells (.int .i64 0 :: .int .i64 64 :: replZ (nc - 2) [.int .i64 0]) 3] := by
  refine (ACalls.introW (R := Keep [6] [] _) tabOk Tryz.func103 rfl Tryz.call103 fun μ a w hv hr hd => ?_).keep [6]
  obtain ⟨ts, ets⟩ : ∃ ts, ts = ([.int .u8 u] ++ List.replicate 16 undef : List Value) := ⟨_, rfl⟩
  replace hv : SRs μ ts a.tmps.toList := by rw [ets]; exact hv
  have hl0 := hr.len
  refine wp_seq (wp_mono (code_sound tabOk [] (.region 0 _ false) (fun e ts' H' => e = .normal ∧ ts' = ts.set 2 (.slice none 0 0) ∧ H' = []) ts [] rfl ?_ μ a w hv hr hd) ?_)
  · subst ets; conv => whnf
    exact ⟨rfl, rfl, rfl⟩
  rintro e a1 w1 h1
  cases e <;> try exact h1.elim
  case exit => obtain ⟨_, _, _, _, _, _, _, h, _⟩ := h1; cases h
  case ret => obtain ⟨_, _, _, _, _, _, _, h, _⟩ := h1; cases h
  obtain ⟨μ1, ts1, H1, hv1, hr1, hx1, hd1, _, rfl, rfl⟩ := h1
  subst ets
  refine wp_seq (wp_region ?_)
  have ht : ∀ w, (underlying 147).run Tryz.prog w = .ok (.map 5 39) w := fun w => run_underlying Tryz.underlying147 w
  have hk : ∀ w, (underlying 5).run Tryz.prog w = .ok (.int .u8) w := fun w => tabOk.underlying (t := 5) rfl w
  have hz : ∀ w, (zeroValue 39).run Tryz.prog w = .ok (.slice none 0 0) w := fun w => by rfl
  refine wm_make (kd := .u8) (i := 0) (L := [1, 2, 3, 4, 5, 6, 7, 8, 9, 10, 11, 12]) (μ0 := μ) (H0 := []) (w0 := w) rfl rfl rfl rfl hv1 hr1 hx1 hd1 hl0 (by simp) ?_
  refine wm_step tabOk rfl rfl rfl rfl hl0 ?_
  conv => whnf
  refine wm_insert rfl rfl rfl rfl ht hk (by decide) rfl (by simp [junk]) (by simp) hl0 ?_
  refine wm_step tabOk rfl rfl rfl rfl hl0 ?_
  conv => whnf
  refine wm_insert rfl rfl rfl rfl ht hk (by decide) rfl (by simp [junk]) (by simp) hl0 ?_
  refine wm_step tabOk rfl rfl rfl rfl hl0 ?_
  conv => whnf
  refine wm_insert rfl rfl rfl rfl ht hk (by decide) rfl (by simp [junk]) (by simp) hl0 ?_
  refine wm_step tabOk rfl rfl rfl rfl hl0 ?_
  conv => whnf
  refine wm_insert rfl rfl rfl rfl ht hk (by decide) rfl (by simp [junk]) (by simp) hl0 ?_
  refine wm_step tabOk rfl rfl rfl rfl hl0 ?_
  conv => whnf
  refine wm_insert rfl rfl rfl rfl ht hk (by decide) rfl (by simp [junk]) (by simp) hl0 ?_
  refine wm_move rfl rfl (.inl rfl) rfl (by decide) (by simp) ?_
  refine wm_move rfl rfl (.inr rfl) rfl (by decide) (by simp) ?_
  refine ⟨fun μ2 a2 w2 b hv2 hr2 hx2 hd2 hb hmap hms => ?_⟩
  refine wp_seq (wp_region ?_)
  refine WM.out (kd := .u8) (ops := _) (μ0 := μ) (H0 := []) (w0 := w) (L := [0, 1, 2, 3, 4, 5, 6]) ?_ μ2 a2 w2 b hv2 hr2 hx2 hd2 hb hmap hms
  refine wm_step tabOk rfl rfl rfl rfl hl0 ?_
  conv => whnf
  refine wm_move rfl rfl (.inl rfl) rfl (by decide) (by simp) ?_
  refine wm_step tabOk rfl rfl rfl rfl hl0 ?_
  conv => whnf
  refine wm_step tabOk rfl rfl rfl rfl hl0 ?_
  conv => whnf
  rw [hu]
  refine wm_lookup rfl rfl rfl rfl ht hk hz (fun μ => .slN _ _) (by decide) rfl (by decide) fun v hvl => ?_
  obtain rfl : v = .slice (some ⟨3, 0, none⟩) 1 1 := by
    rcases hvl with ⟨j, hj, _⟩ | ⟨h1, hn⟩
    · rcases j with _ | _ | _ | _ | _ | j <;> simp at hj <;> exact hj.symm
    · first | exact h1 | (exfalso; exact hn (4, .slice (some ⟨3, 0, none⟩) 1 1) (by simp) rfl)
  refine wm_step tabOk rfl rfl rfl rfl hl0 ?_
  conv => whnf
  intro nc hn1 hn2
  conv => whnf
  refine wm_step tabOk rfl rfl rfl rfl hl0 ?_
  conv => whnf
  refine ⟨fun μ3 a3 w3 b3 hv3 hr3 hx3 hd3 _ _ _ => ?_⟩
  refine ret_sound hv3 hr3 hx3 hd3 ?_
  conv => whnf
  refine renL_flatC zflat ?_
  conv => whnf
  refine Req.of ?_ ?_
  · exact zall fun _ => rfl
  conv => whnf
  exact ⟨nc, hn1, rfl, rfl⟩
theorem starts5 (u : Int) (hu : u.tmod 8 = 5) : ACalls Tryz.prog 103 [.int .u8 u] [] fun v H => v = .slice (some ⟨0, 0, none⟩) 1 1 ∧ H = [.cells [.int .i64 0] 3] := by
  refine (ACalls.introW (R := Keep [5] [] _) tabOk Tryz.func103 rfl Tryz.call103 fun μ a w hv hr hd => ?_).keep [5]
  obtain ⟨ts, ets⟩ : ∃ ts, ts = ([.int .u8 u] ++ List.replicate 16 undef : List Value) := ⟨_, rfl⟩
  replace hv : SRs μ ts a.tmps.toList := by rw [ets]; exact hv
  have hl0 := hr.len
  refine wp_seq (wp_mono (code_sound tabOk [] (.region 0 _ false) (fun e ts' H' => e = .normal ∧ ts' = ts.set 2 (.slice none 0 0) ∧ H' = []) ts [] rfl ?_ μ a w hv hr hd) ?_)
  · subst ets; conv => whnf
    exact ⟨rfl, rfl, rfl⟩
  rintro e a1 w1 h1
  cases e <;> try exact h1.elim
  case exit => obtain ⟨_, _, _, _, _, _, _, h, _⟩ := h1; cases h
  case ret => obtain ⟨_, _, _, _, _, _, _, h, _⟩ := h1; cases h
  obtain ⟨μ1, ts1, H1, hv1, hr1, hx1, hd1, _, rfl, rfl⟩ := h1
  subst ets
  refine wp_seq (wp_region ?_)
  have ht : ∀ w, (underlying 147).run Tryz.prog w = .ok (.map 5 39) w := fun w => run_underlying Tryz.underlying147 w
  have hk : ∀ w, (underlying 5).run Tryz.prog w = .ok (.int .u8) w := fun w => tabOk.underlying (t := 5) rfl w
  have hz : ∀ w, (zeroValue 39).run Tryz.prog w = .ok (.slice none 0 0) w := fun w => by rfl
  refine wm_make (kd := .u8) (i := 0) (L := [1, 2, 3, 4, 5, 6, 7, 8, 9, 10, 11, 12]) (μ0 := μ) (H0 := []) (w0 := w) rfl rfl rfl rfl hv1 hr1 hx1 hd1 hl0 (by simp) ?_
  refine wm_step tabOk rfl rfl rfl rfl hl0 ?_
  conv => whnf
  refine wm_insert rfl rfl rfl rfl ht hk (by decide) rfl (by simp [junk]) (by simp) hl0 ?_
  refine wm_step tabOk rfl rfl rfl rfl hl0 ?_
  conv => whnf
  refine wm_insert rfl rfl rfl rfl ht hk (by decide) rfl (by simp [junk]) (by simp) hl0 ?_
  refine wm_step tabOk rfl rfl rfl rfl hl0 ?_
  conv => whnf
  refine wm_insert rfl rfl rfl rfl ht hk (by decide) rfl (by simp [junk]) (by simp) hl0 ?_
  refine wm_step tabOk rfl rfl rfl rfl hl0 ?_
  conv => whnf
  refine wm_insert rfl rfl rfl rfl ht hk (by decide) rfl (by simp [junk]) (by simp) hl0 ?_
  refine wm_step tabOk rfl rfl rfl rfl hl0 ?_
  conv => whnf
  refine wm_insert rfl rfl rfl rfl ht hk (by decide) rfl (by simp [junk]) (by simp) hl0 ?_
  refine wm_move rfl rfl (.inl rfl) rfl (by decide) (by simp) ?_
  refine wm_move rfl rfl (.inr rfl) rfl (by decide) (by simp) ?_
  refine ⟨fun μ2 a2 w2 b hv2 hr2 hx2 hd2 hb hmap hms => ?_⟩
  refine wp_seq (wp_region ?_)
  refine WM.out (kd := .u8) (ops := _) (μ0 := μ) (H0 := []) (w0 := w) (L := [0, 1, 2, 3, 4, 5, 6]) ?_ μ2 a2 w2 b hv2 hr2 hx2 hd2 hb hmap hms
  refine wm_step tabOk rfl rfl rfl rfl hl0 ?_
  conv => whnf
  refine wm_move rfl rfl (.inl rfl) rfl (by decide) (by simp) ?_
  refine wm_step tabOk rfl rfl rfl rfl hl0 ?_
  conv => whnf
  refine wm_step tabOk rfl rfl rfl rfl hl0 ?_
  conv => whnf
  rw [hu]
  refine wm_lookup rfl rfl rfl rfl ht hk hz (fun μ => .slN _ _) (by decide) rfl (by decide) fun v hvl => ?_
  obtain rfl : v = .slice none 0 0 := by
    rcases hvl with ⟨j, hj, _⟩ | ⟨h1, hn⟩
    · rcases j with _ | _ | _ | _ | _ | j <;> simp at hj <;> exact hj.symm
    · first | exact h1 | (exact h1)
  refine wm_step tabOk rfl rfl rfl rfl hl0 ?_
  conv => whnf
  refine wm_step tabOk rfl rfl rfl rfl hl0 ?_
  conv => whnf
  refine ⟨fun μ3 a3 w3 b3 hv3 hr3 hx3 hd3 _ _ _ => ?_⟩
  refine ret_sound hv3 hr3 hx3 hd3 ?_
  conv => whnf
  exact ⟨rfl, rfl⟩
theorem starts6 (u : Int) (hu : u.tmod 8 = 6) : ACalls Tryz.prog 103 [.int .u8 u] [] fun v H => ∃ nc : Nat, 3 ≤ nc ∧ v = .slice (some ⟨0, 0, none⟩) 3 nc ∧ H = [.cells (.int .i64 0 :: .int .i64 32 :: .int .i64 64 :: replZ (nc - 3) [.int .i64 0]) 3] := by
  refine (ACalls.introW (R := Keep [6] [] _) tabOk Tryz.func103 rfl Tryz.call103 fun μ a w hv hr hd => ?_).keep [6]
  obtain ⟨ts, ets⟩ : ∃ ts, ts = ([.int .u8 u] ++ List.replicate 16 undef : List Value) := ⟨_, rfl⟩
  replace hv : SRs μ ts a.tmps.toList := by rw [ets]; exact hv
  have hl0 := hr.len
  refine wp_seq (wp_mono (code_sound tabOk [] (.region 0 _ false) (fun e ts' H' => e = .normal ∧ ts' = ts.set 2 (.slice none 0 0) ∧ H' = []) ts [] rfl ?_ μ a w hv hr hd) ?_)
  · subst ets; conv => whnf
    exact ⟨rfl, rfl, rfl⟩
  rintro e a1 w1 h1
  cases e <;> try exact h1.elim
  case exit => obtain ⟨_, _, _, _, _, _, _, h, _⟩ := h1; cases h
  case ret => obtain ⟨_, _, _, _, _, _, _, h, _⟩ := h1; cases h
  obtain ⟨μ1, ts1, H1, hv1, hr1, hx1, hd1, _, rfl, rfl⟩ := h1
  subst ets
  refine wp_seq (wp_region ?_)
  have ht : ∀ w, (underlying 147).run Tryz.prog w = .ok (.map 5 39) w := fun w => run_underlying Tryz.underlying147 w
  have hk : ∀ w, (underlying 5).run Tryz.prog w = .ok (.int .u8) w := fun w => tabOk.underlying (t := 5) rfl w
  have hz : ∀ w, (zeroValue 39).run Tryz.prog w = .ok (.slice none 0 0) w := fun w => by rfl
  refine wm_make (kd := .u8) (i := 0) (L := [1, 2, 3, 4, 5, 6, 7, 8, 9, 10, 11, 12]) (μ0 := μ) (H0 := []) (w0 := w) rfl rfl rfl rfl hv1 hr1 hx1 hd1 hl0 (by simp) ?_
  refine wm_step tabOk rfl rfl rfl rfl hl0 ?_
  conv => whnf
  refine wm_insert rfl rfl rfl rfl ht hk (by decide) rfl (by simp [junk]) (by simp) hl0 ?_
  refine wm_step tabOk rfl rfl rfl rfl hl0 ?_
  conv => whnf
  refine wm_insert rfl rfl rfl rfl ht hk (by decide) rfl (by simp [junk]) (by simp) hl0 ?_
  refine wm_step tabOk rfl rfl rfl rfl hl0 ?_
  conv => whnf
  refine wm_insert rfl rfl rfl rfl ht hk (by decide) rfl (by simp [junk]) (by simp) hl0 ?_
  refine wm_step tabOk rfl rfl rfl rfl hl0 ?_
  conv => whnf
  refine wm_insert rfl rfl rfl rfl ht hk (by decide) rfl (by simp [junk]) (by simp) hl0 ?_
  refine wm_step tabOk rfl rfl rfl rfl hl0 ?_
  conv => whnf
  refine wm_insert rfl rfl rfl rfl ht hk (by decide) rfl (by simp [junk]) (by simp) hl0 ?_
  refine wm_move rfl rfl (.inl rfl) rfl (by decide) (by simp) ?_
  refine wm_move rfl rfl (.inr rfl) rfl (by decide) (by simp) ?_
  refine ⟨fun μ2 a2 w2 b hv2 hr2 hx2 hd2 hb hmap hms => ?_⟩
  refine wp_seq (wp_region ?_)
  refine WM.out (kd := .u8) (ops := _) (μ0 := μ) (H0 := []) (w0 := w) (L := [0, 1, 2, 3, 4, 5, 6]) ?_ μ2 a2 w2 b hv2 hr2 hx2 hd2 hb hmap hms
  refine wm_step tabOk rfl rfl rfl rfl hl0 ?_
  conv => whnf
  refine wm_move rfl rfl (.inl rfl) rfl (by decide) (by simp) ?_
  refine wm_step tabOk rfl rfl rfl rfl hl0 ?_
  conv => whnf
  refine wm_step tabOk rfl rfl rfl rfl hl0 ?_
  conv => whnf
  rw [hu]
  refine wm_lookup rfl rfl rfl rfl ht hk hz (fun μ => .slN _ _) (by decide) rfl (by decide) fun v hvl => ?_
  obtain rfl : v = .slice (some ⟨4, 0, none⟩) 2 2 := by
    rcases hvl with ⟨j, hj, _⟩ | ⟨h1, hn⟩
    · rcases j with _ | _ | _ | _ | _ | j <;> simp at hj <;> exact hj.symm
    · first | exact h1 | (exfalso; exact hn (6, .slice (some ⟨4, 0, none⟩) 2 2) (by simp) rfl)
  refine wm_step tabOk rfl rfl rfl rfl hl0 ?_
  conv => whnf
  intro nc hn1 hn2
  conv => whnf
  refine wm_step tabOk rfl rfl rfl rfl hl0 ?_
  conv => whnf
  refine ⟨fun μ3 a3 w3 b3 hv3 hr3 hx3 hd3 _ _ _ => ?_⟩
  refine ret_sound hv3 hr3 hx3 hd3 ?_
  conv => whnf
  refine renL_flatC zflat ?_
  conv => whnf
  refine Req.of ?_ ?_
  · exact zall fun _ => rfl
  conv => whnf
  exact ⟨nc, hn1, rfl, rfl⟩
theorem starts7 (u : Int) (hu : u.tmod 8 = 7) : ACalls Tryz.prog 103 [.int .u8 u] [] fun v H => v = .slice (some ⟨0, 0, none⟩) 1 1 ∧ H = [.cells [.int .i64 0] 3] := by
  refine (ACalls.introW (R := Keep [5] [] _) tabOk Tryz.func103 rfl Tryz.call103 fun μ a w hv hr hd => ?_).keep [5]
  obtain ⟨ts, ets⟩ : ∃ ts, ts = ([.int .u8 u] ++ List.replicate 16 undef : List Value) := ⟨_, rfl⟩
  replace hv : SRs μ ts a.tmps.toList := by rw [ets]; exact hv
  have hl0 := hr.len
  refine wp_seq (wp_mono (code_sound tabOk [] (.region 0 _ false) (fun e ts' H' => e = .normal ∧ ts' = ts.set 2 (.slice none 0 0) ∧ H' = []) ts [] rfl ?_ μ a w hv hr hd) ?_)
  · subst ets; conv => whnf
    exact ⟨rfl, rfl, rfl⟩
  rintro e a1 w1 h1
  cases e <;> try exact h1.elim
  case exit => obtain ⟨_, _, _, _, _, _, _, h, _⟩ := h1; cases h
  case ret => obtain ⟨_, _, _, _, _, _, _, h, _⟩ := h1; cases h
  obtain ⟨μ1, ts1, H1, hv1, hr1, hx1, hd1, _, rfl, rfl⟩ := h1
  subst ets
  refine wp_seq (wp_region ?_)
  have ht : ∀ w, (underlying 147).run Tryz.prog w = .ok (.map 5 39) w := fun w => run_underlying Tryz.underlying147 w
  have hk : ∀ w, (underlying 5).run Tryz.prog w = .ok (.int .u8) w := fun w => tabOk.underlying (t := 5) rfl w
  have hz : ∀ w, (zeroValue 39).run Tryz.prog w = .ok (.slice none 0 0) w := fun w => by rfl
  refine wm_make (kd := .u8) (i := 0) (L := [1, 2, 3, 4, 5, 6, 7, 8, 9, 10, 11, 12]) (μ0 := μ) (H0 := []) (w0 := w) rfl rfl rfl rfl hv1 hr1 hx1 hd1 hl0 (by simp) ?_
  refine wm_step tabOk rfl rfl rfl rfl hl0 ?_
  conv => whnf
  refine wm_insert rfl rfl rfl rfl ht hk (by decide) rfl (by simp [junk]) (by simp) hl0 ?_
  refine wm_step tabOk rfl rfl rfl rfl hl0 ?_
  conv => whnf
  refine wm_insert rfl rfl rfl rfl ht hk (by decide) rfl (by simp [junk]) (by simp) hl0 ?_
  refine wm_step tabOk rfl rfl rfl rfl hl0 ?_
  conv => whnf
  refine wm_insert rfl rfl rfl rfl ht hk (by decide) rfl (by simp [junk]) (by simp) hl0 ?_
  refine wm_step tabOk rfl rfl rfl rfl hl0 ?_
  conv => whnf
  refine wm_insert rfl rfl rfl rfl ht hk (by decide) rfl (by simp [junk]) (by simp) hl0 ?_
  refine wm_step tabOk rfl rfl rfl rfl hl0 ?_
  conv => whnf
  refine wm_insert rfl rfl rfl rfl ht hk (by decide) rfl (by simp [junk]) (by simp) hl0 ?_
  refine wm_move rfl rfl (.inl rfl) rfl (by decide) (by simp) ?_
  refine wm_move rfl rfl (.inr rfl) rfl (by decide) (by simp) ?_
  refine ⟨fun μ2 a2 w2 b hv2 hr2 hx2 hd2 hb hmap hms => ?_⟩
  refine wp_seq (wp_region ?_)
  refine WM.out (kd := .u8) (ops := _) (μ0 := μ) (H0 := []) (w0 := w) (L := [0, 1, 2, 3, 4, 5, 6]) ?_ μ2 a2 w2 b hv2 hr2 hx2 hd2 hb hmap hms
  refine wm_step tabOk rfl rfl rfl rfl hl0 ?_
  conv => whnf
  refine wm_move rfl rfl (.inl rfl) rfl (by decide) (by simp) ?_
  refine wm_step tabOk rfl rfl rfl rfl hl0 ?_
  conv => whnf
  refine wm_step tabOk rfl rfl rfl rfl hl0 ?_
  conv => whnf
  rw [hu]
  refine wm_lookup rfl rfl rfl rfl ht hk hz (fun μ => .slN _ _) (by decide) rfl (by decide) fun v hvl => ?_
  obtain rfl : v = .slice none 0 0 := by
    rcases hvl with ⟨j, hj, _⟩ | ⟨h1, hn⟩
    · rcases j with _ | _ | _ | _ | _ | j <;> simp at hj <;> exact hj.symm
    · first | exact h1 | (exact h1)
  refine wm_step tabOk rfl rfl rfl rfl hl0 ?_
  conv => whnf
  refine wm_step tabOk rfl rfl rfl rfl hl0 ?_
  conv => whnf
  refine ⟨fun μ3 a3 w3 b3 hv3 hr3 hx3 hd3 _ _ _ => ?_⟩
  refine ret_sound hv3 hr3 hx3 hd3 ?_
  conv => whnf
  exact ⟨rfl, rfl⟩
end Go.Proofs
