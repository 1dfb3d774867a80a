/-
  Walks through the functions of the program, by contract.
-/
import Derived.Test.YtimihamgemboeaaMplaysF
set_option linter.all false
set_option linter.unusedVariables false
set_option linter.unusedSimpArgs false
set_option linter.unnecessarySimpa false
namespace Go.Proofs
open Go.Aw
set_option maxRecDepth 100000
set_option maxHeartbeats 8000000

theorem bits_enc0 (a b c d e : Bool) : bitI (enc5 a b c d e) 1 = a := by unfold bitI enc5; cases a <;> cases b <;> cases c <;> cases d <;> cases e <;> rfl
theorem bits_enc1 (a b c d e : Bool) : bitI (enc5 a b c d e) 2 = b := by unfold bitI enc5; cases a <;> cases b <;> cases c <;> cases d <;> cases e <;> rfl
theorem bits_enc2 (a b c d e : Bool) : bitI (enc5 a b c d e) 4 = c := by unfold bitI enc5; cases a <;> cases b <;> cases c <;> cases d <;> cases e <;> rfl
theorem bits_enc3 (a b c d e : Bool) : bitI (enc5 a b c d e) 8 = d := by unfold bitI enc5; cases a <;> cases b <;> cases c <;> cases d <;> cases e <;> rfl
theorem bits_enc4 (a b c d e : Bool) : bitI (enc5 a b c d e) 16 = e := by unfold bitI enc5; cases a <;> cases b <;> cases c <;> cases d <;> cases e <;> rfl
def MS.okk (s : MS) : Prop := s.ok ∧ (s.c = 16 → s = ⟨16, 0, false, false, false, false, false⟩)
theorem MS.step_okk {s : MS} (h : s.okk) (clk t0 t1 t2 t3 t4 : Int) : (s.step clk t0 t1 t2 t3 t4).okk := by
  refine ⟨MS.step_ok h.1 .., ?_⟩
  unfold MS.step
  split
  · exact h.2
  · rename_i hc
    split
    · intro e; exact absurd e (by show ¬ s.c = 16; omega)
    · split
      · exact h.2
      · split
        · exact fun _ => rfl
        · intro e; exact absurd e (by show ¬ s.c + 1 = 16; omega)
theorem MS.of_okk {w0 w1 w2 : Int} (h : okM w0 w1 w2 = true) : (MS.of w0 w1 w2).okk := by
  refine ⟨MS.of_ok h, fun e => ?_⟩
  have := (okM_iff _ _ _).1 h
  have e' : w0 = 16 := e
  rcases this with ⟨rfl, rfl, rfl⟩ | h2
  · rfl
  · omega
theorem MS.ok0k : MS.okk ⟨0, 0, true, true, true, true, true⟩ := ⟨MS.ok0, fun e => by cases e⟩
theorem MS.ok16k : MS.okk ⟨16, 0, false, false, false, false, false⟩ := ⟨⟨by decide, by decide⟩, fun _ => rfl⟩
theorem MS.okk_words {s : MS} (h : s.okk) : okM s.c s.g (enc5 s.m0 s.m1 s.m2 s.m3 s.m4) = true := by
  have hb := enc5_bd s.m0 s.m1 s.m2 s.m3 s.m4
  obtain ⟨⟨h1, h2⟩, h3⟩ := h
  rw [okM_iff]
  by_cases hc : s.c = 16
  · left; rw [h3 hc]; exact ⟨rfl, rfl, enc5_none⟩
  · right; omega

theorem MS.of_words (s : MS) : MS.of s.c s.g (enc5 s.m0 s.m1 s.m2 s.m3 s.m4) = s := by
  unfold MS.of; rw [bits_enc0, bits_enc1, bits_enc2, bits_enc3, bits_enc4]
theorem walk_MotionCopies (clock p0 p1 p2 p3 p4 : Int) (_ : (Lit.int .i64 clock).wf = true) (_ : (Lit.int .u8 p0).wf = true) (_ : (Lit.int .u8 p1).wf = true) (_ : (Lit.int .u8 p2).wf = true) (_ : (Lit.int .u8 p3).wf = true) (_ : (Lit.int .u8 p4).wf = true) (off len cap : Nat) (hl : len ≤ maxLen) (E : Nat → List Value) (hE : ∀ i, i < len → FitsAll actKs (E i)) :
    ACalls Try.prog 7 [.slice (some ⟨0, off, none⟩) len cap, .int .i64 clock, .agg #[.int .u8 p0, .int .u8 p1, .int .u8 p2, .int .u8 p3, .int .u8 p4]] [.ro (slc off 10 len E)] fun v _ => v = .bool true := by
  refine ACalls.code tabOk h7 Try.func7 Try.call7 ok7 ?_
  conv => whnf
  refine Bif.of (fun h60 => ?_) fun h60 => ?_
  · conv => whnf
    refine ⟨rfl, ?_⟩
    conv => whnf
  have hl : len ≤ 200 := by simp at h60; omega
  conv => whnf
  refine ACalls.useE (motion_new) [] rfl (by (conv => whnf); try rfl) (by (conv => whnf); try rfl) ?_
  conv => whnf
  refine ALoop.fd (σ := Nat × MS) (fun s => [.slice (some ⟨0, off, none⟩) len cap, .int .i64 clock, .chan none, .chan none, .chan none, .pointer (some ⟨1, 0, none⟩), .bool false, .pointer (some ⟨2, 0, none⟩), .int .i64 s.1, .chan none, .chan none, .chan none, .chan none, .chan none, .chan none, .chan none, .chan none, .chan none, .chan none, .chan none, .chan none, .chan none, .chan none, .chan none, .chan none, .chan none, .chan none, .chan none, .chan none, .chan none, .chan none, .chan none, .chan none, .chan none, .chan none, .chan none, .chan none, .chan none, .chan none, .chan none, .chan none, .chan none, .chan none, .chan none, .chan none, .chan none, .chan none, .chan none, .chan none, .chan none, .chan none, .chan none, .chan none, .chan none, .chan none, .chan none, .chan none, .chan none, .chan none, .chan none, .chan none, .chan none, .chan none, .chan none, .chan none, .chan none, .chan none, .chan none, .chan none, .chan none, .chan none, .chan none, .chan none, .chan none, .chan none, .chan none, .chan none, .chan none, .chan none, .chan none, .chan none, .chan none, .chan none, .chan none, .chan none, .chan none, .chan none, .chan none, .chan none, .chan none, .chan none, .chan none, .chan none, .chan none, .chan none, .chan none, .chan none]) (fun s => [.ro (slc off 10 len E), .cells [.int .u8 p0, .int .u8 p1, .int .u8 p2, .int .u8 p3, .int .u8 p4] 26, s.2.blk])
    (fun s => s.1 ≤ len ∧ s.2.okk) (fun s => len - s.1) (0, ⟨16, 0, false, false, false, false, false⟩) [] rfl rfl ⟨Nat.zero_le _, MS.ok16k⟩ (fun _ => ⟨rfl, rfl, rfl, rfl⟩) ?_
  rintro s ⟨hi, hokk⟩ R hR
  have hok := hokk.1
  have e2 : IntKind.i64.wrap ((s.1 : Int) + 1) = ((s.1 + 1 : Nat) : Int) := by rw [wrap64 (by omega) (by omega)]; rfl
  conv => whnf
  refine Bif.of (fun h0 => ?_) fun h0 => ?_
  · have hlt : s.1 < len := by simp at h0; omega
    obtain ⟨k, cl, n0, n1, n2, n3, n4, w0, w1, w2, hEi, b0, b1, b2, b3, b4⟩ := act_cells (hE s.1 hlt)
    cases ho : okM w0 w1 w2 with
    | true =>
      have hw : 0 ≤ w2 ∧ w2 ≤ 31 := by have := (okM_iff _ _ _).1 ho; omega
      conv => whnf
      refine Req.of ?_ ?_
      · (clear hR; simp; omega)
      conv => whnf
      refine slc_ex s.1 0 hlt (by decide) (by rw [hEi]; rfl) (by first | omega | (simp; done)) ?_
      conv => whnf
      refine Bif.of (fun h0 => ?_) fun h0 => ?_
      · rw [h0]
        conv => whnf
        refine ACalls.useE (motion_strobe _ _ _) [2] rfl (by (conv => whnf); try rfl) (by (conv => whnf); try rfl) ?_
        conv => whnf
        (rw [e2]; exact hR (s.1 + 1, ⟨0, 0, true, true, true, true, true⟩) _ _ _ rfl rfl ⟨hlt, MS.ok0k⟩ (by show len - (s.1 + 1) < len - s.1; omega))
      · rw [h0]
        conv => whnf
        refine Bif.of (fun h1 => ?_) fun h1 => ?_
        · rw [h1]
          conv => whnf
          refine Req.of ?_ ?_
          · (clear hR; simp; omega)
          conv => whnf
          refine slc_ex s.1 7 hlt (by decide) (by rw [hEi]; rfl) (by first | omega | (simp; done)) ?_
          conv => whnf
          refine slc_ex s.1 8 hlt (by decide) (by rw [hEi]; rfl) (by first | omega | (simp; done)) ?_
          conv => whnf
          refine slc_ex s.1 9 hlt (by decide) (by rw [hEi]; rfl) (by first | omega | (simp; done)) ?_
          conv => whnf
          refine ACalls.useE (motion_set _ _ _ _ _ _) [2] rfl (by (conv => whnf); try rfl) (by (conv => whnf); try rfl) ?_
          conv => whnf
          rw [ho]
          conv => whnf
          (rw [e2]; exact hR (s.1 + 1, MS.of w0 w1 w2) _ _ _ rfl rfl ⟨hlt, MS.of_okk ho⟩ (by show len - (s.1 + 1) < len - s.1; omega))
        · rw [h1]
          conv => whnf
          refine Req.of ?_ ?_
          · (clear hR; simp; omega)
          conv => whnf
          refine slc_ex s.1 1 hlt (by decide) (by rw [hEi]; rfl) (by first | omega | (simp; done)) ?_
          conv => whnf
          refine Req.of ?_ ?_
          · (clear hR; simp; omega)
          conv => whnf
          refine slc_ex s.1 2 hlt (by decide) (by rw [hEi]; rfl) (by first | omega | (simp; done)) ?_
          conv => whnf
          refine slc_ex s.1 3 hlt (by decide) (by rw [hEi]; rfl) (by first | omega | (simp; done)) ?_
          conv => whnf
          refine slc_ex s.1 4 hlt (by decide) (by rw [hEi]; rfl) (by first | omega | (simp; done)) ?_
          conv => whnf
          refine slc_ex s.1 5 hlt (by decide) (by rw [hEi]; rfl) (by first | omega | (simp; done)) ?_
          conv => whnf
          refine slc_ex s.1 6 hlt (by decide) (by rw [hEi]; rfl) (by first | omega | (simp; done)) ?_
          conv => whnf
          refine ACalls.useE (motion_step _ _ _ _ _ _ _ _ _ _ _ _ _ ?_ ?_) [2] rfl (by (conv => whnf); try rfl) (by (conv => whnf); try rfl) ?_
          · exact hok.1
          · exact hok.2
          conv => whnf
          (rw [e2]; exact hR (s.1 + 1, s.2.step cl (stopI n0) (stopI n1) (stopI n2) (stopI n3) (stopI n4)) _ _ _ rfl rfl ⟨hlt, MS.step_okk hokk ..⟩ (by show len - (s.1 + 1) < len - s.1; omega))
    | false =>
      conv => whnf
      refine Req.of ?_ ?_
      · (clear hR; simp; omega)
      conv => whnf
      refine slc_ex s.1 0 hlt (by decide) (by rw [hEi]; rfl) (by first | omega | (simp; done)) ?_
      conv => whnf
      refine Bif.of (fun h0 => ?_) fun h0 => ?_
      · rw [h0]
        conv => whnf
        refine ACalls.useE (motion_strobe _ _ _) [2] rfl (by (conv => whnf); try rfl) (by (conv => whnf); try rfl) ?_
        conv => whnf
        (rw [e2]; exact hR (s.1 + 1, ⟨0, 0, true, true, true, true, true⟩) _ _ _ rfl rfl ⟨hlt, MS.ok0k⟩ (by show len - (s.1 + 1) < len - s.1; omega))
      · rw [h0]
        conv => whnf
        refine Bif.of (fun h1 => ?_) fun h1 => ?_
        · rw [h1]
          conv => whnf
          refine Req.of ?_ ?_
          · (clear hR; simp; omega)
          conv => whnf
          refine slc_ex s.1 7 hlt (by decide) (by rw [hEi]; rfl) (by first | omega | (simp; done)) ?_
          conv => whnf
          refine slc_ex s.1 8 hlt (by decide) (by rw [hEi]; rfl) (by first | omega | (simp; done)) ?_
          conv => whnf
          refine slc_ex s.1 9 hlt (by decide) (by rw [hEi]; rfl) (by first | omega | (simp; done)) ?_
          conv => whnf
          refine ACalls.useE (motion_set _ _ _ _ _ _) [2] rfl (by (conv => whnf); try rfl) (by (conv => whnf); try rfl) ?_
          conv => whnf
          rw [ho]
          conv => whnf
          (rw [e2]; exact hR (s.1 + 1, s.2) _ _ _ rfl rfl ⟨hlt, hokk⟩ (by show len - (s.1 + 1) < len - s.1; omega))
        · rw [h1]
          conv => whnf
          refine Req.of ?_ ?_
          · (clear hR; simp; omega)
          conv => whnf
          refine slc_ex s.1 1 hlt (by decide) (by rw [hEi]; rfl) (by first | omega | (simp; done)) ?_
          conv => whnf
          refine Req.of ?_ ?_
          · (clear hR; simp; omega)
          conv => whnf
          refine slc_ex s.1 2 hlt (by decide) (by rw [hEi]; rfl) (by first | omega | (simp; done)) ?_
          conv => whnf
          refine slc_ex s.1 3 hlt (by decide) (by rw [hEi]; rfl) (by first | omega | (simp; done)) ?_
          conv => whnf
          refine slc_ex s.1 4 hlt (by decide) (by rw [hEi]; rfl) (by first | omega | (simp; done)) ?_
          conv => whnf
          refine slc_ex s.1 5 hlt (by decide) (by rw [hEi]; rfl) (by first | omega | (simp; done)) ?_
          conv => whnf
          refine slc_ex s.1 6 hlt (by decide) (by rw [hEi]; rfl) (by first | omega | (simp; done)) ?_
          conv => whnf
          refine ACalls.useE (motion_step _ _ _ _ _ _ _ _ _ _ _ _ _ ?_ ?_) [2] rfl (by (conv => whnf); try rfl) (by (conv => whnf); try rfl) ?_
          · exact hok.1
          · exact hok.2
          conv => whnf
          (rw [e2]; exact hR (s.1 + 1, s.2.step cl (stopI n0) (stopI n1) (stopI n2) (stopI n3) (stopI n4)) _ _ _ rfl rfl ⟨hlt, MS.step_okk hokk ..⟩ (by show len - (s.1 + 1) < len - s.1; omega))
  · have hq := MS.okk_words hokk
    have hof := MS.of_words s.2
    conv => whnf
    clear hR
    refine ACalls.useE (motion_words _ _ _ _ _ _ _) [2] rfl (by (conv => whnf); try rfl) (by (conv => whnf); try rfl) ?_
    conv => whnf
    refine ACalls.useE (motion_copy _ _ _) [2] rfl (by (conv => whnf); try rfl) (by (conv => whnf); try rfl) ?_
    conv => whnf
    refine ACalls.useE (motion_new) [] rfl (by (conv => whnf); try rfl) (by (conv => whnf); try rfl) ?_
    conv => whnf
    refine ACalls.useE (motion_set _ _ _ _ _ _) [5] rfl (by (conv => whnf); try rfl) (by (conv => whnf); try rfl) ?_
    conv => whnf
    rw [hq]
    conv => whnf
    refine ACalls.useE (motion_step _ _ _ _ _ _ _ _ _ _ _ _ _ ?_ ?_) [4] rfl (by (conv => whnf); try rfl) (by (conv => whnf); try rfl) ?_
    · exact hok.1
    · exact hok.2
    conv => whnf
    rw [hof]
    conv => whnf
    refine ⟨rfl, ?_⟩
    conv => whnf
    refine ACalls.useE (motion_step _ _ _ _ _ _ _ _ _ _ _ _ _ ?_ ?_) [5] rfl (by (conv => whnf); try rfl) (by (conv => whnf); try rfl) ?_
    · exact hok.1
    · exact hok.2
    conv => whnf
    refine Bif.knT ?_ fun h0 => ?_
    · (simp; done)
    rw [h0]
    conv => whnf
    refine ACalls.useE (motion_words _ _ _ _ _ _ _) [4] rfl (by (conv => whnf); try rfl) (by (conv => whnf); try rfl) ?_
    conv => whnf
    refine ⟨rfl, ?_⟩
    conv => whnf
    refine ⟨rfl, ?_⟩
    conv => whnf
    refine ACalls.useE (motion_words _ _ _ _ _ _ _) [5] rfl (by (conv => whnf); try rfl) (by (conv => whnf); try rfl) ?_
    conv => whnf
    refine ⟨rfl, ?_⟩
    conv => whnf
    refine ⟨rfl, ?_⟩
    conv => whnf
    refine Bif.knT ?_ fun h1 => ?_
    · (simp; done)
    rw [h1]
    conv => whnf
    refine ACalls.useE (motion_words _ _ _ _ _ _ _) [2] rfl (by (conv => whnf); try rfl) (by (conv => whnf); try rfl) ?_
    conv => whnf
    refine ⟨rfl, ?_⟩
    conv => whnf
    refine ⟨rfl, ?_⟩
    conv => whnf
    refine ⟨rfl, ?_⟩
    conv => whnf
    refine Bif.knT ?_ fun h2 => ?_
    · (simp; done)
    rw [h2]
    conv => whnf
    refine ACalls.useE (awake17) [] rfl (by (conv => whnf); try rfl) (by (conv => whnf); try rfl) ?_
    conv => whnf
    refine ⟨rfl, ?_⟩
    conv => whnf
    refine ⟨rfl, ?_⟩
    conv => whnf
    refine ⟨rfl, ?_⟩
    conv => whnf
    refine ⟨rfl, ?_⟩
    conv => whnf

theorem walk_MotionCopies_nil (clock p0 p1 p2 p3 p4 : Int) (_ : (Lit.int .i64 clock).wf = true) (_ : (Lit.int .u8 p0).wf = true) (_ : (Lit.int .u8 p1).wf = true) (_ : (Lit.int .u8 p2).wf = true) (_ : (Lit.int .u8 p3).wf = true) (_ : (Lit.int .u8 p4).wf = true) :
    ACalls Try.prog 7 [.slice none 0 0, .int .i64 clock, .agg #[.int .u8 p0, .int .u8 p1, .int .u8 p2, .int .u8 p3, .int .u8 p4]] [] fun v _ => v = .bool true := by
  have hq := MS.okk_words MS.ok16k
  have hof := MS.of_words ⟨16, 0, false, false, false, false, false⟩
  have e16 : IntKind.u8.wrap (enc5 false false false false false) = 0 := by rw [enc5_none]; rfl
  refine ACalls.code tabOk h7 Try.func7 Try.call7 ok7 ?_
  conv => whnf
  refine ACalls.useE (motion_new) [] rfl (by (conv => whnf); try rfl) (by (conv => whnf); try rfl) ?_
  conv => whnf
  refine ALoop.run 1 ?_
  conv => whnf
  refine ACalls.useE (motion_words _ _ _ _ _ _ _) [1] rfl (by (conv => whnf); try rfl) (by (conv => whnf); try rfl) ?_
  conv => whnf
  refine ACalls.useE (motion_copy _ _ _) [1] rfl (by (conv => whnf); try rfl) (by (conv => whnf); try rfl) ?_
  conv => whnf
  refine ACalls.useE (motion_new) [] rfl (by (conv => whnf); try rfl) (by (conv => whnf); try rfl) ?_
  conv => whnf
  refine ACalls.useE (motion_set _ _ _ _ _ _) [4] rfl (by (conv => whnf); try rfl) (by (conv => whnf); try rfl) ?_
  conv => whnf
  rw [hq]
  conv => whnf
  refine ACalls.useE (motion_step _ _ _ _ _ _ _ _ _ _ _ _ _ ?_ ?_) [3] rfl (by (conv => whnf); try rfl) (by (conv => whnf); try rfl) ?_
  · decide
  · decide
  conv => whnf
  rw [hof]
  conv => whnf
  refine ⟨rfl, ?_⟩
  conv => whnf
  refine ACalls.useE (motion_step _ _ _ _ _ _ _ _ _ _ _ _ _ ?_ ?_) [4] rfl (by (conv => whnf); try rfl) (by (conv => whnf); try rfl) ?_
  · decide
  · decide
  conv => whnf
  refine ACalls.useE (motion_words _ _ _ _ _ _ _) [3] rfl (by (conv => whnf); try rfl) (by (conv => whnf); try rfl) ?_
  conv => whnf
  refine ⟨rfl, ?_⟩
  conv => whnf
  refine ⟨rfl, ?_⟩
  conv => whnf
  refine ACalls.useE (motion_words _ _ _ _ _ _ _) [4] rfl (by (conv => whnf); try rfl) (by (conv => whnf); try rfl) ?_
  conv => whnf
  refine ⟨rfl, ?_⟩
  conv => whnf
  refine ⟨rfl, ?_⟩
  conv => whnf
  refine Bif.knT ?_ fun h0 => ?_
  · (simp; done)
  rw [h0]
  conv => whnf
  refine ACalls.useE (motion_words _ _ _ _ _ _ _) [1] rfl (by (conv => whnf); try rfl) (by (conv => whnf); try rfl) ?_
  conv => whnf
  refine ⟨rfl, ?_⟩
  conv => whnf
  refine ⟨rfl, ?_⟩
  conv => whnf
  refine ⟨rfl, ?_⟩
  conv => whnf
  refine Bif.knT ?_ fun h1 => ?_
  · (simp; done)
  rw [h1]
  conv => whnf
  refine ACalls.useE (awake17) [] rfl (by (conv => whnf); try rfl) (by (conv => whnf); try rfl) ?_
  conv => whnf
  refine ⟨rfl, ?_⟩
  conv => whnf
  refine ⟨rfl, ?_⟩
  conv => whnf
  refine ⟨rfl, ?_⟩
  conv => whnf
end Go.Proofs
