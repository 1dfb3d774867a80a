/-
  Walks through the functions of the program, by contract.
-/
import Derived.Test.YtimihamgemboeaaMotion3F
set_option linter.all false
set_option linter.unusedVariables false
set_option linter.unusedSimpArgs false
set_option linter.unnecessarySimpa false
namespace Go.Proofs
open Go.Aw
set_option maxRecDepth 100000
set_option maxHeartbeats 8000000

theorem motion_set (c g m w0 w1 w2 : Int) : ACalls Try.prog 18 [.pointer (some ⟨0, 0, none⟩), .agg #[.int .i64 w0, .int .i64 w1, .int .i64 w2]] [.cells [.int .i64 c, .int .i64 g, .int .u8 m] 54]
    fun r H => r = .int .i64 (bif okM w0 w1 w2 then 0 else 6) ∧ H = [bif okM w0 w1 w2 then (MS.of w0 w1 w2).blk else .cells [.int .i64 c, .int .i64 g, .int .u8 m] 54] := by
  cases h : okM w0 w1 w2 with
  | true => exact motion_set_ok c g m w0 w1 w2 h
  | false => exact motion_set_bad c g m w0 w1 w2 h

def MS.ok (s : MS) : Prop := (0 ≤ s.c ∧ s.c ≤ 16) ∧ (0 ≤ s.g ∧ s.g ≤ 3)
theorem MS.step_ok {s : MS} (h : s.ok) (clk t0 t1 t2 t3 t4 : Int) : (s.step clk t0 t1 t2 t3 t4).ok := by
  obtain ⟨h1, h2⟩ := h
  unfold MS.step
  split
  · exact ⟨h1, h2⟩
  · split
    · exact ⟨h1, by dsimp only; omega⟩
    · split
      · exact ⟨h1, h2⟩
      · split
        · exact ⟨by decide, by decide⟩
        · exact ⟨by dsimp only; omega, h2⟩
theorem MS.ok0 : MS.ok ⟨0, 0, true, true, true, true, true⟩ := ⟨by decide, by decide⟩
theorem MS.of_ok {w0 w1 w2 : Int} (h : okM w0 w1 w2 = true) : (MS.of w0 w1 w2).ok := by
  have := (okM_iff _ _ _).1 h
  exact ⟨by show 0 ≤ w0 ∧ w0 ≤ 16; omega, by show 0 ≤ w1 ∧ w1 ≤ 3; omega⟩

abbrev actKs : List CK := [.int .i64, .int .i64, .int .u8, .int .u8, .int .u8, .int .u8, .int .u8, .int .i64, .int .i64, .int .i64]
theorem act_cells {cs : List Value} (h : FitsAll actKs cs) : ∃ k cl n0 n1 n2 n3 n4 w0 w1 w2 : Int, cs = [.int .i64 k, .int .i64 cl, .int .u8 n0, .int .u8 n1, .int .u8 n2, .int .u8 n3, .int .u8 n4, .int .i64 w0, .int .i64 w1, .int .i64 w2] ∧
    (0 ≤ n0 ∧ n0 ≤ 255) ∧ (0 ≤ n1 ∧ n1 ≤ 255) ∧ (0 ≤ n2 ∧ n2 ≤ 255) ∧ (0 ≤ n3 ∧ n3 ≤ 255) ∧ (0 ≤ n4 ∧ n4 ≤ 255) := by
  obtain ⟨k, _, rfl, _, h⟩ := fits_int h
  obtain ⟨cl, _, rfl, _, h⟩ := fits_int h
  obtain ⟨n0, _, rfl, b0, h⟩ := fits_int h
  obtain ⟨n1, _, rfl, b1, h⟩ := fits_int h
  obtain ⟨n2, _, rfl, b2, h⟩ := fits_int h
  obtain ⟨n3, _, rfl, b3, h⟩ := fits_int h
  obtain ⟨n4, _, rfl, b4, h⟩ := fits_int h
  obtain ⟨w0, _, rfl, _, h⟩ := fits_int h
  obtain ⟨w1, _, rfl, _, h⟩ := fits_int h
  obtain ⟨w2, _, rfl, _, h⟩ := fits_int h
  obtain rfl := fits_nil h
  exact ⟨k, cl, n0, n1, n2, n3, n4, w0, w1, w2, rfl, wf_u8 b0, wf_u8 b1, wf_u8 b2, wf_u8 b3, wf_u8 b4⟩

theorem walk_MotionPlays (off len cap : Nat) (hl : len ≤ maxLen) (E : Nat → List Value) (hE : ∀ i, i < len → FitsAll actKs (E i)) :
    ACalls Try.prog 6 [.slice (some ⟨0, off, none⟩) len cap] [.ro (slc off 10 len E)] fun v _ => v = .bool true := by
  refine ACalls.code tabOk h6 Try.func6 Try.call6 ok6 ?_
  conv => whnf
  refine Bif.of (fun h60 => ?_) fun h60 => ?_
  · conv => whnf
    refine ⟨rfl, ?_⟩
    conv => whnf
  have hl : len ≤ 200 := by simp at h60; omega
  conv => whnf
  refine ACalls.useE (motion_new) [] rfl (by (conv => whnf); try rfl) (by (conv => whnf); try rfl) ?_
  conv => whnf
  refine ACalls.useE (ref17_new) [] rfl (by (conv => whnf); try rfl) (by (conv => whnf); try rfl) ?_
  conv => whnf
  refine ALoop.fd (σ := Nat × MS) (fun s => [.slice (some ⟨0, off, none⟩) len cap, .chan none, .bool false, .pointer (some ⟨1, 0, none⟩), .pointer (some ⟨2, 0, none⟩), .int .i64 s.1, .chan none, .chan none, .chan none, .chan none, .chan none, .chan none, .chan none, .chan none, .chan none, .chan none, .chan none, .chan none, .chan none, .chan none, .chan none, .chan none, .chan none, .chan none, .chan none, .chan none, .chan none, .chan none, .chan none, .chan none, .chan none, .chan none, .chan none, .chan none, .chan none, .chan none, .chan none, .chan none, .chan none, .chan none, .chan none, .chan none, .chan none, .chan none, .chan none, .chan none, .chan none, .chan none, .chan none, .chan none, .chan none, .chan none, .chan none, .chan none, .chan none, .chan none, .chan none, .chan none, .chan none, .chan none, .chan none, .chan none, .chan none, .chan none, .chan none, .chan none, .chan none, .chan none, .chan none, .chan none, .chan none, .chan none, .chan none, .chan none, .chan none, .chan none, .chan none, .chan none, .chan none, .chan none, .chan none, .chan none, .chan none, .chan none, .chan none, .chan none, .chan none, .chan none, .chan none, .chan none, .chan none, .chan none, .chan none, .chan none, .chan none, .chan none, .chan none, .chan none, .chan none, .chan none, .chan none, .chan none, .chan none, .chan none, .chan none, .chan none, .chan none, .chan none, .chan none, .chan none, .chan none, .chan none, .chan none, .chan none]) (fun s => [.ro (slc off 10 len E), s.2.blk, .cells [.int .i64 s.2.c, .int .i64 s.2.g, .bool s.2.m0, .bool s.2.m1, .bool s.2.m2, .bool s.2.m3, .bool s.2.m4] 36])
    (fun s => s.1 ≤ len ∧ s.2.ok) (fun s => len - s.1) (0, ⟨16, 0, false, false, false, false, false⟩) [] rfl rfl ⟨Nat.zero_le _, by decide, by decide⟩ (fun _ => ⟨rfl, rfl, rfl, rfl⟩) ?_
  rintro s ⟨hi, hok⟩ R hR
  have e2 : IntKind.i64.wrap ((s.1 : Int) + 1) = ((s.1 + 1 : Nat) : Int) := by rw [wrap64 (by omega) (by omega)]; rfl
  conv => whnf
  refine Bif.of (fun h0 => ?_) fun h0 => ?_
  · have hlt : s.1 < len := by simp at h0; omega
    obtain ⟨k, cl, n0, n1, n2, n3, n4, w0, w1, w2, hEi, b0, b1, b2, b3, b4⟩ := act_cells (hE s.1 hlt)
    cases ho : okM w0 w1 w2 with
    | true =>
      have hw : 0 ≤ w2 ∧ w2 ≤ 31 := by have := (okM_iff _ _ _).1 ho; omega
      conv => whnf
      refine Req.of ?_ ?_
      · (clear hR; simp; omega)
      conv => whnf
      refine slc_ex s.1 0 hlt (by decide) (by rw [hEi]; rfl) (by first | omega | (simp; done)) ?_
      conv => whnf
      refine Bif.of (fun h0 => ?_) fun h0 => ?_
      · rw [h0]
        conv => whnf
        refine ACalls.useE (motion_strobe _ _ _) [1] rfl (by (conv => whnf); try rfl) (by (conv => whnf); try rfl) ?_
        conv => whnf
        refine ACalls.useE (ref17_strobe) [] rfl (by (conv => whnf); try rfl) (by (conv => whnf); try rfl) ?_
        conv => whnf
        refine ACalls.useE (motion_words _ _ _ _ _ _ _) [1] rfl (by (conv => whnf); try rfl) (by (conv => whnf); try rfl) ?_
        conv => whnf
        refine ⟨rfl, ?_⟩
        conv => whnf
        refine ACalls.useE (ref17_words _ _ _ _ _ _ _) [] rfl (by (conv => whnf); try rfl) (by (conv => whnf); try rfl) ?_
        conv => whnf
        refine Bif.knF ?_ fun h1 => ?_
        · (clear hR; simp; done)
        rw [h1]
        conv => whnf
        refine ACalls.useE (motion_busy _ _ _) [1] rfl (by (conv => whnf); try rfl) (by (conv => whnf); try rfl) ?_
        conv => whnf
        refine ⟨rfl, ?_⟩
        conv => whnf
        (rw [e2]; exact hR (s.1 + 1, ⟨0, 0, true, true, true, true, true⟩) _ _ _ rfl rfl ⟨hlt, MS.ok0⟩ (by show len - (s.1 + 1) < len - s.1; omega))
      · rw [h0]
        conv => whnf
        refine Bif.of (fun h2 => ?_) fun h2 => ?_
        · rw [h2]
          conv => whnf
          refine Req.of ?_ ?_
          · (clear hR; simp; omega)
          conv => whnf
          refine slc_ex s.1 7 hlt (by decide) (by rw [hEi]; rfl) (by first | omega | (simp; done)) ?_
          conv => whnf
          refine slc_ex s.1 8 hlt (by decide) (by rw [hEi]; rfl) (by first | omega | (simp; done)) ?_
          conv => whnf
          refine slc_ex s.1 9 hlt (by decide) (by rw [hEi]; rfl) (by first | omega | (simp; done)) ?_
          conv => whnf
          refine ACalls.useE (motion_set _ _ _ _ _ _) [1] rfl (by (conv => whnf); try rfl) (by (conv => whnf); try rfl) ?_
          conv => whnf
          rw [ho]
          conv => whnf
          refine Req.of ?_ ?_
          · (clear hR; simp; omega)
          conv => whnf
          refine slc_ex s.1 7 hlt (by decide) (by rw [hEi]; rfl) (by first | omega | (simp; done)) ?_
          conv => whnf
          refine slc_ex s.1 8 hlt (by decide) (by rw [hEi]; rfl) (by first | omega | (simp; done)) ?_
          conv => whnf
          refine slc_ex s.1 9 hlt (by decide) (by rw [hEi]; rfl) (by first | omega | (simp; done)) ?_
          conv => whnf
          refine ACalls.useE (ref17_right _ _ _) [] rfl (by (conv => whnf); try rfl) (by (conv => whnf); try rfl) ?_
          conv => whnf
          rw [ho]
          conv => whnf
          refine Req.of ?_ ?_
          · (clear hR; simp; omega)
          conv => whnf
          refine slc_ex s.1 7 hlt (by decide) (by rw [hEi]; rfl) (by first | omega | (simp; done)) ?_
          conv => whnf
          refine slc_ex s.1 8 hlt (by decide) (by rw [hEi]; rfl) (by first | omega | (simp; done)) ?_
          conv => whnf
          refine slc_ex s.1 9 hlt (by decide) (by rw [hEi]; rfl) (by first | omega | (simp; done)) ?_
          conv => whnf
          refine ACalls.useE (ref17_of _ _ _ ?_) [] rfl (by (conv => whnf); try rfl) (by (conv => whnf); try rfl) ?_
          · omega
          conv => whnf
          refine ACalls.useE (motion_words _ _ _ _ _ _ _) [1] rfl (by (conv => whnf); try rfl) (by (conv => whnf); try rfl) ?_
          conv => whnf
          refine ⟨rfl, ?_⟩
          conv => whnf
          refine ACalls.useE (ref17_words _ _ _ _ _ _ _) [] rfl (by (conv => whnf); try rfl) (by (conv => whnf); try rfl) ?_
          conv => whnf
          refine Bif.knF ?_ fun h3 => ?_
          · (clear hR; simp; done)
          rw [h3]
          conv => whnf
          refine ACalls.useE (motion_busy _ _ _) [1] rfl (by (conv => whnf); try rfl) (by (conv => whnf); try rfl) ?_
          conv => whnf
          refine ⟨rfl, ?_⟩
          conv => whnf
          refine Bif.knF ?_ fun h4 => ?_
          · (clear hR; simp; done)
          rw [h4]
          conv => whnf
          (rw [e2]; exact hR (s.1 + 1, MS.of w0 w1 w2) _ _ _ rfl rfl ⟨hlt, MS.of_ok ho⟩ (by show len - (s.1 + 1) < len - s.1; omega))
        · rw [h2]
          conv => whnf
          refine Req.of ?_ ?_
          · (clear hR; simp; omega)
          conv => whnf
          refine slc_ex s.1 1 hlt (by decide) (by rw [hEi]; rfl) (by first | omega | (simp; done)) ?_
          conv => whnf
          refine Req.of ?_ ?_
          · (clear hR; simp; omega)
          conv => whnf
          refine slc_ex s.1 2 hlt (by decide) (by rw [hEi]; rfl) (by first | omega | (simp; done)) ?_
          conv => whnf
          refine slc_ex s.1 3 hlt (by decide) (by rw [hEi]; rfl) (by first | omega | (simp; done)) ?_
          conv => whnf
          refine slc_ex s.1 4 hlt (by decide) (by rw [hEi]; rfl) (by first | omega | (simp; done)) ?_
          conv => whnf
          refine slc_ex s.1 5 hlt (by decide) (by rw [hEi]; rfl) (by first | omega | (simp; done)) ?_
          conv => whnf
          refine slc_ex s.1 6 hlt (by decide) (by rw [hEi]; rfl) (by first | omega | (simp; done)) ?_
          conv => whnf
          refine ACalls.useE (motion_step _ _ _ _ _ _ _ _ _ _ _ _ _ ?_ ?_) [1] rfl (by (conv => whnf); try rfl) (by (conv => whnf); try rfl) ?_
          · exact hok.1
          · exact hok.2
          conv => whnf
          refine Req.of ?_ ?_
          · (clear hR; simp; omega)
          conv => whnf
          refine slc_ex s.1 1 hlt (by decide) (by rw [hEi]; rfl) (by first | omega | (simp; done)) ?_
          conv => whnf
          refine Req.of ?_ ?_
          · (clear hR; simp; omega)
          conv => whnf
          refine slc_ex s.1 2 hlt (by decide) (by rw [hEi]; rfl) (by first | omega | (simp; done)) ?_
          conv => whnf
          refine slc_ex s.1 3 hlt (by decide) (by rw [hEi]; rfl) (by first | omega | (simp; done)) ?_
          conv => whnf
          refine slc_ex s.1 4 hlt (by decide) (by rw [hEi]; rfl) (by first | omega | (simp; done)) ?_
          conv => whnf
          refine slc_ex s.1 5 hlt (by decide) (by rw [hEi]; rfl) (by first | omega | (simp; done)) ?_
          conv => whnf
          refine slc_ex s.1 6 hlt (by decide) (by rw [hEi]; rfl) (by first | omega | (simp; done)) ?_
          conv => whnf
          refine ACalls.useE (ref17_step _ _ _ _ _ _ _ _ _ _ _ _ _ ?_ ?_ ?_ ?_ ?_ ?_ ?_) [] rfl (by (conv => whnf); try rfl) (by (conv => whnf); try rfl) ?_
          · exact hok.1
          · exact hok.2
          · omega
          · omega
          · omega
          · omega
          · omega
          conv => whnf
          refine Bif.knF ?_ fun h5 => ?_
          · (clear hR; simp; done)
          rw [h5]
          conv => whnf
          refine ACalls.useE (motion_words _ _ _ _ _ _ _) [1] rfl (by (conv => whnf); try rfl) (by (conv => whnf); try rfl) ?_
          conv => whnf
          refine ⟨rfl, ?_⟩
          conv => whnf
          refine ACalls.useE (ref17_words _ _ _ _ _ _ _) [] rfl (by (conv => whnf); try rfl) (by (conv => whnf); try rfl) ?_
          conv => whnf
          refine Bif.knF ?_ fun h6 => ?_
          · (clear hR; simp; done)
          rw [h6]
          conv => whnf
          refine ACalls.useE (motion_busy _ _ _) [1] rfl (by (conv => whnf); try rfl) (by (conv => whnf); try rfl) ?_
          conv => whnf
          refine ⟨rfl, ?_⟩
          conv => whnf
          refine Bif.knF ?_ fun h7 => ?_
          · (clear hR; simp; done)
          rw [h7]
          conv => whnf
          (rw [e2]; exact hR (s.1 + 1, s.2.step cl (stopI n0) (stopI n1) (stopI n2) (stopI n3) (stopI n4)) _ _ _ rfl rfl ⟨hlt, MS.step_ok hok ..⟩ (by show len - (s.1 + 1) < len - s.1; omega))
    | false =>
      conv => whnf
      refine Req.of ?_ ?_
      · (clear hR; simp; omega)
      conv => whnf
      refine slc_ex s.1 0 hlt (by decide) (by rw [hEi]; rfl) (by first | omega | (simp; done)) ?_
      conv => whnf
      refine Bif.of (fun h0 => ?_) fun h0 => ?_
      · rw [h0]
        conv => whnf
        refine ACalls.useE (motion_strobe _ _ _) [1] rfl (by (conv => whnf); try rfl) (by (conv => whnf); try rfl) ?_
        conv => whnf
        refine ACalls.useE (ref17_strobe) [] rfl (by (conv => whnf); try rfl) (by (conv => whnf); try rfl) ?_
        conv => whnf
        refine ACalls.useE (motion_words _ _ _ _ _ _ _) [1] rfl (by (conv => whnf); try rfl) (by (conv => whnf); try rfl) ?_
        conv => whnf
        refine ⟨rfl, ?_⟩
        conv => whnf
        refine ACalls.useE (ref17_words _ _ _ _ _ _ _) [] rfl (by (conv => whnf); try rfl) (by (conv => whnf); try rfl) ?_
        conv => whnf
        refine Bif.knF ?_ fun h1 => ?_
        · (clear hR; simp; done)
        rw [h1]
        conv => whnf
        refine ACalls.useE (motion_busy _ _ _) [1] rfl (by (conv => whnf); try rfl) (by (conv => whnf); try rfl) ?_
        conv => whnf
        refine ⟨rfl, ?_⟩
        conv => whnf
        (rw [e2]; exact hR (s.1 + 1, ⟨0, 0, true, true, true, true, true⟩) _ _ _ rfl rfl ⟨hlt, MS.ok0⟩ (by show len - (s.1 + 1) < len - s.1; omega))
      · rw [h0]
        conv => whnf
        refine Bif.of (fun h2 => ?_) fun h2 => ?_
        · rw [h2]
          conv => whnf
          refine Req.of ?_ ?_
          · (clear hR; simp; omega)
          conv => whnf
          refine slc_ex s.1 7 hlt (by decide) (by rw [hEi]; rfl) (by first | omega | (simp; done)) ?_
          conv => whnf
          refine slc_ex s.1 8 hlt (by decide) (by rw [hEi]; rfl) (by first | omega | (simp; done)) ?_
          conv => whnf
          refine slc_ex s.1 9 hlt (by decide) (by rw [hEi]; rfl) (by first | omega | (simp; done)) ?_
          conv => whnf
          refine ACalls.useE (motion_set _ _ _ _ _ _) [1] rfl (by (conv => whnf); try rfl) (by (conv => whnf); try rfl) ?_
          conv => whnf
          rw [ho]
          conv => whnf
          refine Req.of ?_ ?_
          · (clear hR; simp; omega)
          conv => whnf
          refine slc_ex s.1 7 hlt (by decide) (by rw [hEi]; rfl) (by first | omega | (simp; done)) ?_
          conv => whnf
          refine slc_ex s.1 8 hlt (by decide) (by rw [hEi]; rfl) (by first | omega | (simp; done)) ?_
          conv => whnf
          refine slc_ex s.1 9 hlt (by decide) (by rw [hEi]; rfl) (by first | omega | (simp; done)) ?_
          conv => whnf
          refine ACalls.useE (ref17_right _ _ _) [] rfl (by (conv => whnf); try rfl) (by (conv => whnf); try rfl) ?_
          conv => whnf
          rw [ho]
          conv => whnf
          refine ACalls.useE (motion_words _ _ _ _ _ _ _) [1] rfl (by (conv => whnf); try rfl) (by (conv => whnf); try rfl) ?_
          conv => whnf
          refine ⟨rfl, ?_⟩
          conv => whnf
          refine ACalls.useE (ref17_words _ _ _ _ _ _ _) [] rfl (by (conv => whnf); try rfl) (by (conv => whnf); try rfl) ?_
          conv => whnf
          refine Bif.knF ?_ fun h3 => ?_
          · (clear hR; simp; done)
          rw [h3]
          conv => whnf
          refine ACalls.useE (motion_busy _ _ _) [1] rfl (by (conv => whnf); try rfl) (by (conv => whnf); try rfl) ?_
          conv => whnf
          refine ⟨rfl, ?_⟩
          conv => whnf
          refine Bif.knF ?_ fun h4 => ?_
          · (clear hR; simp; done)
          rw [h4]
          conv => whnf
          (rw [e2]; exact hR (s.1 + 1, s.2) _ _ _ rfl rfl ⟨hlt, hok⟩ (by show len - (s.1 + 1) < len - s.1; omega))
        · rw [h2]
          conv => whnf
          refine Req.of ?_ ?_
          · (clear hR; simp; omega)
          conv => whnf
          refine slc_ex s.1 1 hlt (by decide) (by rw [hEi]; rfl) (by first | omega | (simp; done)) ?_
          conv => whnf
          refine Req.of ?_ ?_
          · (clear hR; simp; omega)
          conv => whnf
          refine slc_ex s.1 2 hlt (by decide) (by rw [hEi]; rfl) (by first | omega | (simp; done)) ?_
          conv => whnf
          refine slc_ex s.1 3 hlt (by decide) (by rw [hEi]; rfl) (by first | omega | (simp; done)) ?_
          conv => whnf
          refine slc_ex s.1 4 hlt (by decide) (by rw [hEi]; rfl) (by first | omega | (simp; done)) ?_
          conv => whnf
          refine slc_ex s.1 5 hlt (by decide) (by rw [hEi]; rfl) (by first | omega | (simp; done)) ?_
          conv => whnf
          refine slc_ex s.1 6 hlt (by decide) (by rw [hEi]; rfl) (by first | omega | (simp; done)) ?_
          conv => whnf
          refine ACalls.useE (motion_step _ _ _ _ _ _ _ _ _ _ _ _ _ ?_ ?_) [1] rfl (by (conv => whnf); try rfl) (by (conv => whnf); try rfl) ?_
          · exact hok.1
          · exact hok.2
          conv => whnf
          refine Req.of ?_ ?_
          · (clear hR; simp; omega)
          conv => whnf
          refine slc_ex s.1 1 hlt (by decide) (by rw [hEi]; rfl) (by first | omega | (simp; done)) ?_
          conv => whnf
          refine Req.of ?_ ?_
          · (clear hR; simp; omega)
          conv => whnf
          refine slc_ex s.1 2 hlt (by decide) (by rw [hEi]; rfl) (by first | omega | (simp; done)) ?_
          conv => whnf
          refine slc_ex s.1 3 hlt (by decide) (by rw [hEi]; rfl) (by first | omega | (simp; done)) ?_
          conv => whnf
          refine slc_ex s.1 4 hlt (by decide) (by rw [hEi]; rfl) (by first | omega | (simp; done)) ?_
          conv => whnf
          refine slc_ex s.1 5 hlt (by decide) (by rw [hEi]; rfl) (by first | omega | (simp; done)) ?_
          conv => whnf
          refine slc_ex s.1 6 hlt (by decide) (by rw [hEi]; rfl) (by first | omega | (simp; done)) ?_
          conv => whnf
          refine ACalls.useE (ref17_step _ _ _ _ _ _ _ _ _ _ _ _ _ ?_ ?_ ?_ ?_ ?_ ?_ ?_) [] rfl (by (conv => whnf); try rfl) (by (conv => whnf); try rfl) ?_
          · exact hok.1
          · exact hok.2
          · omega
          · omega
          · omega
          · omega
          · omega
          conv => whnf
          refine Bif.knF ?_ fun h5 => ?_
          · (clear hR; simp; done)
          rw [h5]
          conv => whnf
          refine ACalls.useE (motion_words _ _ _ _ _ _ _) [1] rfl (by (conv => whnf); try rfl) (by (conv => whnf); try rfl) ?_
          conv => whnf
          refine ⟨rfl, ?_⟩
          conv => whnf
          refine ACalls.useE (ref17_words _ _ _ _ _ _ _) [] rfl (by (conv => whnf); try rfl) (by (conv => whnf); try rfl) ?_
          conv => whnf
          refine Bif.knF ?_ fun h6 => ?_
          · (clear hR; simp; done)
          rw [h6]
          conv => whnf
          refine ACalls.useE (motion_busy _ _ _) [1] rfl (by (conv => whnf); try rfl) (by (conv => whnf); try rfl) ?_
          conv => whnf
          refine ⟨rfl, ?_⟩
          conv => whnf
          refine Bif.knF ?_ fun h7 => ?_
          · (clear hR; simp; done)
          rw [h7]
          conv => whnf
          (rw [e2]; exact hR (s.1 + 1, s.2.step cl (stopI n0) (stopI n1) (stopI n2) (stopI n3) (stopI n4)) _ _ _ rfl rfl ⟨hlt, MS.step_ok hok ..⟩ (by show len - (s.1 + 1) < len - s.1; omega))
  · conv => whnf
    refine ACalls.useE (awake17) [] rfl (by (conv => whnf); try rfl) (by (conv => whnf); try rfl) ?_
    conv => whnf
    refine ⟨rfl, ?_⟩
    conv => whnf
theorem walk_MotionPlays_nil : ACalls Try.prog 6 [.slice none 0 0] [] fun v _ => v = .bool true := by
  refine ACalls.code tabOk h6 Try.func6 Try.call6 ok6 ?_
  conv => whnf
  refine ACalls.useE (motion_new) [] rfl (by (conv => whnf); try rfl) (by (conv => whnf); try rfl) ?_
  conv => whnf
  refine ACalls.useE (ref17_new) [] rfl (by (conv => whnf); try rfl) (by (conv => whnf); try rfl) ?_
  conv => whnf
  refine ALoop.run 1 ?_
  conv => whnf
  refine ACalls.useE (awake17) [] rfl (by (conv => whnf); try rfl) (by (conv => whnf); try rfl) ?_
  conv => whnf
end Go.Proofs
