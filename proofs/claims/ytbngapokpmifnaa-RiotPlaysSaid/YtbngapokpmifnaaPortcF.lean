/-
  Walks through the functions of the program, by contract.
-/
import Derived.Test.YtbngapokpmifnaaPortbF
set_option linter.all false
set_option linter.unusedVariables false
set_option linter.unusedSimpArgs false
set_option linter.unnecessarySimpa false
set_option linter.all false
set_option linter.unusedVariables false
set_option linter.unusedSimpArgs false
set_option linter.unnecessarySimpa false
namespace Go.Proofs
open Go.Aw
set_option maxRecDepth 100000
set_option maxHeartbeats 8000000

def okB (w0 w1 w2 : Int) : Bool := decide (0 ≤ w0) && decide (w0 ≤ 255) && decide (0 ≤ w1) && decide (w1 ≤ 255) && decide (0 ≤ w2) && decide (w2 ≤ 255)
theorem okB_iff (w0 w1 w2 : Int) : okB w0 w1 w2 = true ↔ (0 ≤ w0 ∧ w0 ≤ 255) ∧ (0 ≤ w1 ∧ w1 ≤ 255) ∧ (0 ≤ w2 ∧ w2 ≤ 255) := by unfold okB; simp; omega
theorem ref_bytes (w0 w1 w2 : Int) : ACalls Try.prog 27 [.agg #[.int .i64 w0, .int .i64 w1, .int .i64 w2]] [] fun r H => r = .bool (okB w0 w1 w2) ∧ H = [] := by
  cases h : okB w0 w1 w2 with
  | true =>
    have h' := (okB_iff _ _ _).1 h
    refine ACalls.code tabOk h27 Try.func27 Try.call27 ok27 ?_
    conv => whnf
    refine ALoop.run 4 ?_
    conv => whnf
    refine Bif.knF ?_ fun h0 => ?_
    · (simp; omega)
    rw [h0]
    conv => whnf
    refine Bif.knF ?_ fun h1 => ?_
    · (simp; omega)
    rw [h1]
    conv => whnf
    refine Bif.knF ?_ fun h2 => ?_
    · (simp; omega)
    rw [h2]
    conv => whnf
    refine Bif.knF ?_ fun h3 => ?_
    · (simp; omega)
    rw [h3]
    conv => whnf
    refine Bif.knF ?_ fun h4 => ?_
    · (simp; omega)
    rw [h4]
    conv => whnf
    refine Bif.knF ?_ fun h5 => ?_
    · (simp; omega)
    rw [h5]
    conv => whnf
    exact ⟨rfl, rfl⟩
  | false =>
    have h' : ¬ ((0 ≤ w0 ∧ w0 ≤ 255) ∧ (0 ≤ w1 ∧ w1 ≤ 255) ∧ (0 ≤ w2 ∧ w2 ≤ 255)) := fun k => by rw [(okB_iff _ _ _).2 k] at h; cases h
    refine ACalls.code tabOk h27 Try.func27 Try.call27 ok27 ?_
    conv => whnf
    refine ALoop.run 4 ?_
    conv => whnf
    refine Bif.of (fun h0 => ?_) fun h0 => ?_
    · rw [h0]
      conv => whnf
      exact ⟨rfl, rfl⟩
    · rw [h0]
      conv => whnf
      refine Bif.of (fun h1 => ?_) fun h1 => ?_
      · rw [h1]
        conv => whnf
        exact ⟨rfl, rfl⟩
      · rw [h1]
        conv => whnf
        refine Bif.of (fun h2 => ?_) fun h2 => ?_
        · rw [h2]
          conv => whnf
          exact ⟨rfl, rfl⟩
        · rw [h2]
          conv => whnf
          refine Bif.of (fun h3 => ?_) fun h3 => ?_
          · rw [h3]
            conv => whnf
            exact ⟨rfl, rfl⟩
          · rw [h3]
            conv => whnf
            refine Bif.of (fun h4 => ?_) fun h4 => ?_
            · rw [h4]
              conv => whnf
              exact ⟨rfl, rfl⟩
            · rw [h4]
              conv => whnf
              refine Bif.of (fun h5 => ?_) fun h5 => ?_
              · rw [h5]
                conv => whnf
                exact ⟨rfl, rfl⟩
              · rw [h5]
                conv => whnf
                (exfalso; simp at *; omega)
theorem port_set_ok (i o w w0 w1 w2 : Int) (h : okB w0 w1 w2 = true) : ACalls Try.prog 26 [.pointer (some ⟨0, 0, none⟩), .agg #[.int .i64 w0, .int .i64 w1, .int .i64 w2]] [.cells [.int .u8 i, .int .u8 o, .int .u8 w] 97] fun r H => r = .int .i64 0 ∧ H = [.cells [.int .u8 w0, .int .u8 w1, .int .u8 w2] 97] := by
  have h' := (okB_iff _ _ _).1 h
  have e0 : IntKind.u8.wrap w0 = w0 := wrap8 (by omega) (by omega)
  have e1 : IntKind.u8.wrap w1 = w1 := wrap8 (by omega) (by omega)
  have e2 : IntKind.u8.wrap w2 = w2 := wrap8 (by omega) (by omega)
  refine ACalls.code tabOk h26 Try.func26 Try.call26 ok26 ?_
  conv => whnf
  refine ACalls.code tabOk h64 Try.func64 Try.call64 ok64 ?_
  conv => whnf
  refine ALoop.run 4 ?_
  conv => whnf
  refine ACalls.code tabOk h65 Try.func65 Try.call65 ok65 ?_
  conv => whnf
  refine Bif.knT ?_ fun h0 => ?_
  · (simp; omega)
  rw [h0]
  conv => whnf
  refine Bif.knF ?_ fun h1 => ?_
  · (simp; omega)
  rw [h1]
  conv => whnf
  refine ACalls.code tabOk h65 Try.func65 Try.call65 ok65 ?_
  conv => whnf
  refine Bif.knT ?_ fun h2 => ?_
  · (simp; omega)
  rw [h2]
  conv => whnf
  refine Bif.knF ?_ fun h3 => ?_
  · (simp; omega)
  rw [h3]
  conv => whnf
  refine ACalls.code tabOk h65 Try.func65 Try.call65 ok65 ?_
  conv => whnf
  refine Bif.knT ?_ fun h4 => ?_
  · (simp; omega)
  rw [h4]
  conv => whnf
  refine Bif.knF ?_ fun h5 => ?_
  · (simp; omega)
  rw [h5]
  conv => whnf
  (simp; omega)
theorem port_set_bad (i o w w0 w1 w2 : Int) (h : okB w0 w1 w2 = false) : ACalls Try.prog 26 [.pointer (some ⟨0, 0, none⟩), .agg #[.int .i64 w0, .int .i64 w1, .int .i64 w2]] [.cells [.int .u8 i, .int .u8 o, .int .u8 w] 97] fun r H => r = .int .i64 6 ∧ H = [.cells [.int .u8 i, .int .u8 o, .int .u8 w] 97] := by
  have h' : ¬ ((0 ≤ w0 ∧ w0 ≤ 255) ∧ (0 ≤ w1 ∧ w1 ≤ 255) ∧ (0 ≤ w2 ∧ w2 ≤ 255)) := fun k => by rw [(okB_iff _ _ _).2 k] at h; cases h
  refine ACalls.code tabOk h26 Try.func26 Try.call26 ok26 ?_
  conv => whnf
  refine ACalls.code tabOk h64 Try.func64 Try.call64 ok64 ?_
  conv => whnf
  refine ALoop.run 4 ?_
  conv => whnf
  refine ACalls.code tabOk h65 Try.func65 Try.call65 ok65 ?_
  conv => whnf
  refine Bif.of (fun h0 => ?_) fun h0 => ?_
  · rw [h0]
    conv => whnf
    refine Bif.of (fun h1 => ?_) fun h1 => ?_
    · rw [h1]
      conv => whnf
      exact ⟨rfl, rfl⟩
    · rw [h1]
      conv => whnf
      refine ACalls.code tabOk h65 Try.func65 Try.call65 ok65 ?_
      conv => whnf
      refine Bif.of (fun h2 => ?_) fun h2 => ?_
      · rw [h2]
        conv => whnf
        refine Bif.of (fun h3 => ?_) fun h3 => ?_
        · rw [h3]
          conv => whnf
          exact ⟨rfl, rfl⟩
        · rw [h3]
          conv => whnf
          refine ACalls.code tabOk h65 Try.func65 Try.call65 ok65 ?_
          conv => whnf
          refine Bif.of (fun h4 => ?_) fun h4 => ?_
          · rw [h4]
            conv => whnf
            refine Bif.of (fun h5 => ?_) fun h5 => ?_
            · rw [h5]
              conv => whnf
              exact ⟨rfl, rfl⟩
            · rw [h5]
              conv => whnf
              (exfalso; simp at *; omega)
          · rw [h4]
            conv => whnf
            exact ⟨rfl, rfl⟩
      · rw [h2]
        conv => whnf
        exact ⟨rfl, rfl⟩
  · rw [h0]
    conv => whnf
    exact ⟨rfl, rfl⟩
theorem port_set (i o w w0 w1 w2 : Int) : ACalls Try.prog 26 [.pointer (some ⟨0, 0, none⟩), .agg #[.int .i64 w0, .int .i64 w1, .int .i64 w2]] [.cells [.int .u8 i, .int .u8 o, .int .u8 w] 97]
    fun r H => r = .int .i64 (bif okB w0 w1 w2 then 0 else 6) ∧ H = [.cells [.int .u8 (bif okB w0 w1 w2 then w0 else i), .int .u8 (bif okB w0 w1 w2 then w1 else o), .int .u8 (bif okB w0 w1 w2 then w2 else w)] 97] := by
  cases h : okB w0 w1 w2 with
  | true => exact port_set_ok i o w w0 w1 w2 h
  | false => exact port_set_bad i o w w0 w1 w2 h

theorem port_new (i : Int) : ACalls Try.prog 15 [.int .u8 i] [] fun v H => v = .pointer (some ⟨0, 0, none⟩) ∧ H = [.cells [.int .u8 i, .int .u8 0, .int .u8 0] 97] := by
  refine ACalls.codeN tabOk h15 Try.func15 Try.call15 ok15 [0] ?_
  conv => whnf
  exact ⟨rfl, rfl⟩
theorem edge_new (h : Bool) : ACalls Try.prog 20 [.bool h] [] fun v H => v = .pointer (some ⟨0, 0, none⟩) ∧ H = [.cells [.bool h, .bool false, .bool false] 99] := by
  refine ACalls.codeN tabOk h20 Try.func20 Try.call20 ok20 [0] ?_
  conv => whnf
  exact ⟨rfl, rfl⟩

abbrev pactKs : List CK := [.int .i64, .int .u8, .int .i64, .int .i64, .int .i64]
theorem pact_cells {cs : List Value} (h : FitsAll pactKs cs) : ∃ k v w0 w1 w2 : Int, cs = [.int .i64 k, .int .u8 v, .int .i64 w0, .int .i64 w1, .int .i64 w2] ∧ (0 ≤ v ∧ v ≤ 255) := by
  obtain ⟨k, _, rfl, _, h⟩ := fits_int h
  obtain ⟨v, _, rfl, b1, h⟩ := fits_int h
  obtain ⟨w0, _, rfl, _, h⟩ := fits_int h
  obtain ⟨w1, _, rfl, _, h⟩ := fits_int h
  obtain ⟨w2, _, rfl, _, h⟩ := fits_int h
  obtain rfl := fits_nil h
  exact ⟨k, v, w0, w1, w2, rfl, wf_u8 b1⟩
def byteB (n : Int) : Prop := 0 ≤ n ∧ n ≤ 255
theorem byte0 : byteB 0 := ⟨by decide, by decide⟩

theorem walk_PortPlays (inn : Int) (wi : (Lit.int .u8 inn).wf = true) (off len cap : Nat) (hl : len ≤ maxLen) (E : Nat → List Value) (hE : ∀ i, i < len → FitsAll pactKs (E i)) :
    ACalls Try.prog 5 [.int .u8 inn, .slice (some ⟨0, off, none⟩) len cap] [.ro (slc off 5 len E)] fun v _ => v = .bool true := by
  have hinn := wf_u8 wi
  have einn : IntKind.i64.wrap inn = inn := wrap64 (by omega) (by omega)
  refine ACalls.code tabOk h5 Try.func5 Try.call5 ok5 ?_
  conv => whnf
  refine Bif.of (fun h60 => ?_) fun h60 => ?_
  · conv => whnf
    refine ⟨rfl, ?_⟩
    conv => whnf
  have hl : len ≤ 100 := by simp at h60; omega
  conv => whnf
  refine ACalls.useE (port_new _) [] rfl (by (conv => whnf); try rfl) (by (conv => whnf); try rfl) ?_
  conv => whnf
  refine ALoop.fd (σ := Nat × Int × Int × Int) (fun s => [.int .u8 inn, .slice (some ⟨0, off, none⟩) len cap, .chan none, .chan none, .bool false, .pointer (some ⟨1, 0, none⟩), .pointer (some ⟨2, 0, none⟩), .int .i64 s.1, .chan none, .chan none, .chan none, .chan none, .chan none, .chan none, .chan none, .chan none, .chan none, .chan none, .chan none, .chan none, .chan none, .chan none, .chan none, .chan none, .chan none, .chan none, .chan none, .chan none, .chan none, .chan none, .chan none, .chan none, .chan none, .chan none, .chan none, .chan none, .chan none, .chan none, .chan none, .chan none, .chan none, .chan none, .chan none, .chan none, .chan none, .chan none, .chan none, .chan none, .chan none, .chan none, .chan none, .chan none, .chan none, .chan none, .chan none, .chan none, .chan none, .chan none, .chan none, .chan none, .chan none, .chan none, .chan none, .chan none, .chan none, .chan none, .chan none, .chan none, .chan none, .chan none, .chan none, .chan none, .chan none, .chan none, .chan none, .chan none, .chan none, .chan none, .chan none, .chan none, .chan none, .chan none, .chan none, .chan none, .chan none, .chan none, .chan none, .chan none, .chan none, .chan none, .chan none, .chan none, .chan none, .chan none, .chan none, .chan none, .chan none, .chan none, .chan none, .chan none, .chan none, .chan none, .chan none, .chan none, .chan none, .chan none, .chan none, .chan none, .chan none, .chan none, .chan none, .chan none, .chan none, .chan none, .chan none, .chan none, .chan none, .chan none, .chan none, .chan none, .chan none, .chan none, .chan none, .chan none, .chan none, .chan none, .chan none, .chan none, .chan none, .chan none, .chan none, .chan none, .chan none, .chan none, .chan none, .chan none, .chan none, .chan none, .chan none, .chan none, .chan none, .chan none]) (fun s => [.ro (slc off 5 len E), .cells [.int .u8 s.2.1, .int .u8 s.2.2.1, .int .u8 s.2.2.2] 97, .cells [.int .i64 s.2.1, .int .i64 s.2.2.1, .int .i64 s.2.2.2] 34])
    (fun s => s.1 ≤ len ∧ byteB s.2.1 ∧ byteB s.2.2.1 ∧ byteB s.2.2.2) (fun s => len - s.1) (0, inn, 0, 0) [] rfl (by rw [einn]; rfl) ⟨Nat.zero_le _, hinn, byte0, byte0⟩ (fun _ => ⟨rfl, rfl, rfl, rfl⟩) ?_
  rintro s ⟨hi, b0, b1, b2⟩ R hR
  have e2 : IntKind.i64.wrap ((s.1 : Int) + 1) = ((s.1 + 1 : Nat) : Int) := by rw [wrap64 (by omega) (by omega)]; rfl
  have x0 : IntKind.i64.wrap s.2.1 = s.2.1 := wrap64 (by have := b0.1; omega) (by have := b0.2; omega)
  have x1 : IntKind.i64.wrap s.2.2.1 = s.2.2.1 := wrap64 (by have := b1.1; omega) (by have := b1.2; omega)
  have x2 : IntKind.i64.wrap s.2.2.2 = s.2.2.2 := wrap64 (by have := b2.1; omega) (by have := b2.2; omega)
  conv => whnf
  refine Bif.of (fun h0 => ?_) fun h0 => ?_
  · have hlt : s.1 < len := by simp at h0; omega
    obtain ⟨k, v, w0, w1, w2, hEi, b3⟩ := pact_cells (hE s.1 hlt)
    have ev : IntKind.i64.wrap v = v := wrap64 (by omega) (by omega)
    cases hk : okB w0 w1 w2 with
    | true =>
      have hw := (okB_iff _ _ _).1 hk
      have y0 : IntKind.i64.wrap w0 = w0 := wrap64 (by omega) (by omega)
      have y1 : IntKind.i64.wrap w1 = w1 := wrap64 (by omega) (by omega)
      have y2 : IntKind.i64.wrap w2 = w2 := wrap64 (by omega) (by omega)
      conv => whnf
      refine Req.of ?_ ?_
      · (clear hR; simp; omega)
      conv => whnf
      refine slc_ex s.1 0 hlt (by decide) (by rw [hEi]; rfl) (by first | omega | (simp; done)) ?_
      conv => whnf
      refine Bif.of (fun h0 => ?_) fun h0 => ?_
      · rw [h0]
        conv => whnf
        refine Req.of ?_ ?_
        · (clear hR; simp; omega)
        conv => whnf
        refine slc_ex s.1 1 hlt (by decide) (by rw [hEi]; rfl) (by first | omega | (simp; done)) ?_
        conv => whnf
        refine ACalls.code tabOk h25 Try.func25 Try.call25 ok25 ?_
        conv => whnf
        refine ⟨rfl, ?_⟩
        conv => whnf
        refine Req.of ?_ ?_
        · (clear hR; simp; omega)
        conv => whnf
        refine slc_ex s.1 1 hlt (by decide) (by rw [hEi]; rfl) (by first | omega | (simp; done)) ?_
        conv => whnf
        refine ACalls.useE (port_level _ _ _ ?_ ?_ ?_) [1] rfl (by (conv => whnf); try rfl) (by (conv => whnf); try rfl) ?_
        · omega
        · exact b1
        · exact b2
        conv => whnf
        rw [ev]
        conv => whnf
        refine ⟨rfl, ?_⟩
        conv => whnf
        refine ⟨rfl, ?_⟩
        conv => whnf
        refine ⟨rfl, ?_⟩
        conv => whnf
        refine ACalls.useE (ref_level _ _ _ ?_ ?_ ?_) [] rfl (by (conv => whnf); try rfl) (by (conv => whnf); try rfl) ?_
        · omega
        · exact b1
        · exact b2
        conv => whnf
        rw [lv_wrap]
        conv => whnf
        refine Bif.knF ?_ fun h1 => ?_
        · (clear hR; simp; done)
        rw [h1]
        conv => whnf
        refine ACalls.code tabOk h29 Try.func29 Try.call29 ok29 ?_
        conv => whnf
        refine ⟨rfl, ?_⟩
        conv => whnf
        refine ⟨rfl, ?_⟩
        conv => whnf
        rw [x2]
        conv => whnf
        refine Bif.knF ?_ fun h2 => ?_
        · (clear hR; simp; done)
        rw [h2]
        conv => whnf
        refine ACalls.code tabOk h30 Try.func30 Try.call30 ok30 ?_
        conv => whnf
        rw [ev]
        conv => whnf
        rw [x1]
        conv => whnf
        rw [x2]
        conv => whnf
        refine ⟨rfl, ?_⟩
        conv => whnf
        refine ⟨rfl, ?_⟩
        conv => whnf
        refine ⟨rfl, ?_⟩
        conv => whnf
        refine Bif.knF ?_ fun h3 => ?_
        · (clear hR; simp; done)
        rw [h3]
        conv => whnf
        (rw [e2]; exact hR (s.1 + 1, v, s.2.2.1, s.2.2.2) _ _ _ rfl rfl ⟨hlt, b3, b1, b2⟩ (by show len - (s.1 + 1) < len - s.1; omega))
      · rw [h0]
        conv => whnf
        refine Bif.of (fun h4 => ?_) fun h4 => ?_
        · rw [h4]
          conv => whnf
          refine Req.of ?_ ?_
          · (clear hR; simp; omega)
          conv => whnf
          refine slc_ex s.1 1 hlt (by decide) (by rw [hEi]; rfl) (by first | omega | (simp; done)) ?_
          conv => whnf
          refine ACalls.code tabOk h16 Try.func16 Try.call16 ok16 ?_
          conv => whnf
          refine ⟨rfl, ?_⟩
          conv => whnf
          refine Req.of ?_ ?_
          · (clear hR; simp; omega)
          conv => whnf
          refine slc_ex s.1 1 hlt (by decide) (by rw [hEi]; rfl) (by first | omega | (simp; done)) ?_
          conv => whnf
          refine ACalls.useE (port_level _ _ _ ?_ ?_ ?_) [1] rfl (by (conv => whnf); try rfl) (by (conv => whnf); try rfl) ?_
          · exact b0
          · omega
          · exact b2
          conv => whnf
          rw [ev]
          conv => whnf
          refine ⟨rfl, ?_⟩
          conv => whnf
          refine ⟨rfl, ?_⟩
          conv => whnf
          refine ⟨rfl, ?_⟩
          conv => whnf
          refine ACalls.useE (ref_level _ _ _ ?_ ?_ ?_) [] rfl (by (conv => whnf); try rfl) (by (conv => whnf); try rfl) ?_
          · exact b0
          · omega
          · exact b2
          conv => whnf
          rw [lv_wrap]
          conv => whnf
          refine Bif.knF ?_ fun h5 => ?_
          · (clear hR; simp; done)
          rw [h5]
          conv => whnf
          refine ACalls.code tabOk h29 Try.func29 Try.call29 ok29 ?_
          conv => whnf
          refine ⟨rfl, ?_⟩
          conv => whnf
          refine ⟨rfl, ?_⟩
          conv => whnf
          rw [x2]
          conv => whnf
          refine Bif.knF ?_ fun h6 => ?_
          · (clear hR; simp; done)
          rw [h6]
          conv => whnf
          refine ACalls.code tabOk h30 Try.func30 Try.call30 ok30 ?_
          conv => whnf
          rw [ev]
          conv => whnf
          rw [x0]
          conv => whnf
          rw [x2]
          conv => whnf
          refine ⟨rfl, ?_⟩
          conv => whnf
          refine ⟨rfl, ?_⟩
          conv => whnf
          refine ⟨rfl, ?_⟩
          conv => whnf
          refine Bif.knF ?_ fun h7 => ?_
          · (clear hR; simp; done)
          rw [h7]
          conv => whnf
          (rw [e2]; exact hR (s.1 + 1, s.2.1, v, s.2.2.2) _ _ _ rfl rfl ⟨hlt, b0, b3, b2⟩ (by show len - (s.1 + 1) < len - s.1; omega))
        · rw [h4]
          conv => whnf
          refine Bif.of (fun h8 => ?_) fun h8 => ?_
          · rw [h8]
            conv => whnf
            refine Req.of ?_ ?_
            · (clear hR; simp; omega)
            conv => whnf
            refine slc_ex s.1 1 hlt (by decide) (by rw [hEi]; rfl) (by first | omega | (simp; done)) ?_
            conv => whnf
            refine ACalls.code tabOk h17 Try.func17 Try.call17 ok17 ?_
            conv => whnf
            refine ⟨rfl, ?_⟩
            conv => whnf
            refine Req.of ?_ ?_
            · (clear hR; simp; omega)
            conv => whnf
            refine slc_ex s.1 1 hlt (by decide) (by rw [hEi]; rfl) (by first | omega | (simp; done)) ?_
            conv => whnf
            refine ACalls.useE (port_level _ _ _ ?_ ?_ ?_) [1] rfl (by (conv => whnf); try rfl) (by (conv => whnf); try rfl) ?_
            · exact b0
            · exact b1
            · omega
            conv => whnf
            rw [ev]
            conv => whnf
            refine ⟨rfl, ?_⟩
            conv => whnf
            refine ⟨rfl, ?_⟩
            conv => whnf
            refine ⟨rfl, ?_⟩
            conv => whnf
            refine ACalls.useE (ref_level _ _ _ ?_ ?_ ?_) [] rfl (by (conv => whnf); try rfl) (by (conv => whnf); try rfl) ?_
            · exact b0
            · exact b1
            · omega
            conv => whnf
            rw [lv_wrap]
            conv => whnf
            refine Bif.knF ?_ fun h9 => ?_
            · (clear hR; simp; done)
            rw [h9]
            conv => whnf
            refine ACalls.code tabOk h29 Try.func29 Try.call29 ok29 ?_
            conv => whnf
            refine ⟨rfl, ?_⟩
            conv => whnf
            refine ⟨rfl, ?_⟩
            conv => whnf
            rw [ev]
            conv => whnf
            refine Bif.knF ?_ fun h10 => ?_
            · (clear hR; simp; done)
            rw [h10]
            conv => whnf
            refine ACalls.code tabOk h30 Try.func30 Try.call30 ok30 ?_
            conv => whnf
            rw [ev]
            conv => whnf
            rw [x0]
            conv => whnf
            rw [x1]
            conv => whnf
            refine ⟨rfl, ?_⟩
            conv => whnf
            refine ⟨rfl, ?_⟩
            conv => whnf
            refine ⟨rfl, ?_⟩
            conv => whnf
            refine Bif.knF ?_ fun h11 => ?_
            · (clear hR; simp; done)
            rw [h11]
            conv => whnf
            (rw [e2]; exact hR (s.1 + 1, s.2.1, s.2.2.1, v) _ _ _ rfl rfl ⟨hlt, b0, b1, b3⟩ (by show len - (s.1 + 1) < len - s.1; omega))
          · rw [h8]
            conv => whnf
            refine Req.of ?_ ?_
            · (clear hR; simp; omega)
            conv => whnf
            refine slc_ex s.1 2 hlt (by decide) (by rw [hEi]; rfl) (by first | omega | (simp; done)) ?_
            conv => whnf
            refine slc_ex s.1 3 hlt (by decide) (by rw [hEi]; rfl) (by first | omega | (simp; done)) ?_
            conv => whnf
            refine slc_ex s.1 4 hlt (by decide) (by rw [hEi]; rfl) (by first | omega | (simp; done)) ?_
            conv => whnf
            refine ACalls.useE (port_set _ _ _ _ _ _) [1] rfl (by (conv => whnf); try rfl) (by (conv => whnf); try rfl) ?_
            conv => whnf
            rw [hk]
            conv => whnf
            refine Req.of ?_ ?_
            · (clear hR; simp; omega)
            conv => whnf
            refine slc_ex s.1 2 hlt (by decide) (by rw [hEi]; rfl) (by first | omega | (simp; done)) ?_
            conv => whnf
            refine slc_ex s.1 3 hlt (by decide) (by rw [hEi]; rfl) (by first | omega | (simp; done)) ?_
            conv => whnf
            refine slc_ex s.1 4 hlt (by decide) (by rw [hEi]; rfl) (by first | omega | (simp; done)) ?_
            conv => whnf
            refine ACalls.useE (ref_bytes _ _ _) [] rfl (by (conv => whnf); try rfl) (by (conv => whnf); try rfl) ?_
            conv => whnf
            rw [hk]
            conv => whnf
            refine Req.of ?_ ?_
            · (clear hR; simp; omega)
            conv => whnf
            refine slc_ex s.1 2 hlt (by decide) (by rw [hEi]; rfl) (by first | omega | (simp; done)) ?_
            conv => whnf
            refine slc_ex s.1 3 hlt (by decide) (by rw [hEi]; rfl) (by first | omega | (simp; done)) ?_
            conv => whnf
            refine slc_ex s.1 4 hlt (by decide) (by rw [hEi]; rfl) (by first | omega | (simp; done)) ?_
            conv => whnf
            refine Req.of ?_ ?_
            · (clear hR; simp; omega)
            conv => whnf
            refine slc_ex s.1 2 hlt (by decide) (by rw [hEi]; rfl) (by first | omega | (simp; done)) ?_
            conv => whnf
            refine slc_ex s.1 3 hlt (by decide) (by rw [hEi]; rfl) (by first | omega | (simp; done)) ?_
            conv => whnf
            refine slc_ex s.1 4 hlt (by decide) (by rw [hEi]; rfl) (by first | omega | (simp; done)) ?_
            conv => whnf
            refine ACalls.useE (ref_bytes _ _ _) [] rfl (by (conv => whnf); try rfl) (by (conv => whnf); try rfl) ?_
            conv => whnf
            rw [hk]
            conv => whnf
            refine ACalls.useE (port_level _ _ _ ?_ ?_ ?_) [1] rfl (by (conv => whnf); try rfl) (by (conv => whnf); try rfl) ?_
            · exact hw.1
            · exact hw.2.1
            · exact hw.2.2
            conv => whnf
            refine ⟨rfl, ?_⟩
            conv => whnf
            refine ⟨rfl, ?_⟩
            conv => whnf
            refine ⟨rfl, ?_⟩
            conv => whnf
            refine ACalls.useE (ref_level _ _ _ ?_ ?_ ?_) [] rfl (by (conv => whnf); try rfl) (by (conv => whnf); try rfl) ?_
            · omega
            · omega
            · omega
            conv => whnf
            rw [lv_wrap]
            conv => whnf
            refine Bif.knF ?_ fun h12 => ?_
            · (clear hR; simp; done)
            rw [h12]
            conv => whnf
            refine ACalls.code tabOk h29 Try.func29 Try.call29 ok29 ?_
            conv => whnf
            refine ⟨rfl, ?_⟩
            conv => whnf
            refine ⟨rfl, ?_⟩
            conv => whnf
            refine Bif.knF ?_ fun h13 => ?_
            · (clear hR; simp; omega)
            rw [h13]
            conv => whnf
            refine ACalls.code tabOk h30 Try.func30 Try.call30 ok30 ?_
            conv => whnf
            refine ⟨rfl, ?_⟩
            conv => whnf
            refine ⟨rfl, ?_⟩
            conv => whnf
            refine ⟨rfl, ?_⟩
            conv => whnf
            refine Bif.knF ?_ fun h14 => ?_
            · (clear hR; simp; omega)
            rw [h14]
            conv => whnf
            (rw [e2]; exact hR (s.1 + 1, w0, w1, w2) _ _ _ rfl rfl ⟨hlt, hw.1, hw.2.1, hw.2.2⟩ (by show len - (s.1 + 1) < len - s.1; omega))
    | false =>
      conv => whnf
      refine Req.of ?_ ?_
      · (clear hR; simp; omega)
      conv => whnf
      refine slc_ex s.1 0 hlt (by decide) (by rw [hEi]; rfl) (by first | omega | (simp; done)) ?_
      conv => whnf
      refine Bif.of (fun h0 => ?_) fun h0 => ?_
      · rw [h0]
        conv => whnf
        refine Req.of ?_ ?_
        · (clear hR; simp; omega)
        conv => whnf
        refine slc_ex s.1 1 hlt (by decide) (by rw [hEi]; rfl) (by first | omega | (simp; done)) ?_
        conv => whnf
        refine ACalls.code tabOk h25 Try.func25 Try.call25 ok25 ?_
        conv => whnf
        refine ⟨rfl, ?_⟩
        conv => whnf
        refine Req.of ?_ ?_
        · (clear hR; simp; omega)
        conv => whnf
        refine slc_ex s.1 1 hlt (by decide) (by rw [hEi]; rfl) (by first | omega | (simp; done)) ?_
        conv => whnf
        refine ACalls.useE (port_level _ _ _ ?_ ?_ ?_) [1] rfl (by (conv => whnf); try rfl) (by (conv => whnf); try rfl) ?_
        · omega
        · exact b1
        · exact b2
        conv => whnf
        rw [ev]
        conv => whnf
        refine ⟨rfl, ?_⟩
        conv => whnf
        refine ⟨rfl, ?_⟩
        conv => whnf
        refine ⟨rfl, ?_⟩
        conv => whnf
        refine ACalls.useE (ref_level _ _ _ ?_ ?_ ?_) [] rfl (by (conv => whnf); try rfl) (by (conv => whnf); try rfl) ?_
        · omega
        · exact b1
        · exact b2
        conv => whnf
        rw [lv_wrap]
        conv => whnf
        refine Bif.knF ?_ fun h1 => ?_
        · (clear hR; simp; done)
        rw [h1]
        conv => whnf
        refine ACalls.code tabOk h29 Try.func29 Try.call29 ok29 ?_
        conv => whnf
        refine ⟨rfl, ?_⟩
        conv => whnf
        refine ⟨rfl, ?_⟩
        conv => whnf
        rw [x2]
        conv => whnf
        refine Bif.knF ?_ fun h2 => ?_
        · (clear hR; simp; done)
        rw [h2]
        conv => whnf
        refine ACalls.code tabOk h30 Try.func30 Try.call30 ok30 ?_
        conv => whnf
        rw [ev]
        conv => whnf
        rw [x1]
        conv => whnf
        rw [x2]
        conv => whnf
        refine ⟨rfl, ?_⟩
        conv => whnf
        refine ⟨rfl, ?_⟩
        conv => whnf
        refine ⟨rfl, ?_⟩
        conv => whnf
        refine Bif.knF ?_ fun h3 => ?_
        · (clear hR; simp; done)
        rw [h3]
        conv => whnf
        (rw [e2]; exact hR (s.1 + 1, v, s.2.2.1, s.2.2.2) _ _ _ rfl rfl ⟨hlt, b3, b1, b2⟩ (by show len - (s.1 + 1) < len - s.1; omega))
      · rw [h0]
        conv => whnf
        refine Bif.of (fun h4 => ?_) fun h4 => ?_
        · rw [h4]
          conv => whnf
          refine Req.of ?_ ?_
          · (clear hR; simp; omega)
          conv => whnf
          refine slc_ex s.1 1 hlt (by decide) (by rw [hEi]; rfl) (by first | omega | (simp; done)) ?_
          conv => whnf
          refine ACalls.code tabOk h16 Try.func16 Try.call16 ok16 ?_
          conv => whnf
          refine ⟨rfl, ?_⟩
          conv => whnf
          refine Req.of ?_ ?_
          · (clear hR; simp; omega)
          conv => whnf
          refine slc_ex s.1 1 hlt (by decide) (by rw [hEi]; rfl) (by first | omega | (simp; done)) ?_
          conv => whnf
          refine ACalls.useE (port_level _ _ _ ?_ ?_ ?_) [1] rfl (by (conv => whnf); try rfl) (by (conv => whnf); try rfl) ?_
          · exact b0
          · omega
          · exact b2
          conv => whnf
          rw [ev]
          conv => whnf
          refine ⟨rfl, ?_⟩
          conv => whnf
          refine ⟨rfl, ?_⟩
          conv => whnf
          refine ⟨rfl, ?_⟩
          conv => whnf
          refine ACalls.useE (ref_level _ _ _ ?_ ?_ ?_) [] rfl (by (conv => whnf); try rfl) (by (conv => whnf); try rfl) ?_
          · exact b0
          · omega
          · exact b2
          conv => whnf
          rw [lv_wrap]
          conv => whnf
          refine Bif.knF ?_ fun h5 => ?_
          · (clear hR; simp; done)
          rw [h5]
          conv => whnf
          refine ACalls.code tabOk h29 Try.func29 Try.call29 ok29 ?_
          conv => whnf
          refine ⟨rfl, ?_⟩
          conv => whnf
          refine ⟨rfl, ?_⟩
          conv => whnf
          rw [x2]
          conv => whnf
          refine Bif.knF ?_ fun h6 => ?_
          · (clear hR; simp; done)
          rw [h6]
          conv => whnf
          refine ACalls.code tabOk h30 Try.func30 Try.call30 ok30 ?_
          conv => whnf
          rw [ev]
          conv => whnf
          rw [x0]
          conv => whnf
          rw [x2]
          conv => whnf
          refine ⟨rfl, ?_⟩
          conv => whnf
          refine ⟨rfl, ?_⟩
          conv => whnf
          refine ⟨rfl, ?_⟩
          conv => whnf
          refine Bif.knF ?_ fun h7 => ?_
          · (clear hR; simp; done)
          rw [h7]
          conv => whnf
          (rw [e2]; exact hR (s.1 + 1, s.2.1, v, s.2.2.2) _ _ _ rfl rfl ⟨hlt, b0, b3, b2⟩ (by show len - (s.1 + 1) < len - s.1; omega))
        · rw [h4]
          conv => whnf
          refine Bif.of (fun h8 => ?_) fun h8 => ?_
          · rw [h8]
            conv => whnf
            refine Req.of ?_ ?_
            · (clear hR; simp; omega)
            conv => whnf
            refine slc_ex s.1 1 hlt (by decide) (by rw [hEi]; rfl) (by first | omega | (simp; done)) ?_
            conv => whnf
            refine ACalls.code tabOk h17 Try.func17 Try.call17 ok17 ?_
            conv => whnf
            refine ⟨rfl, ?_⟩
            conv => whnf
            refine Req.of ?_ ?_
            · (clear hR; simp; omega)
            conv => whnf
            refine slc_ex s.1 1 hlt (by decide) (by rw [hEi]; rfl) (by first | omega | (simp; done)) ?_
            conv => whnf
            refine ACalls.useE (port_level _ _ _ ?_ ?_ ?_) [1] rfl (by (conv => whnf); try rfl) (by (conv => whnf); try rfl) ?_
            · exact b0
            · exact b1
            · omega
            conv => whnf
            rw [ev]
            conv => whnf
            refine ⟨rfl, ?_⟩
            conv => whnf
            refine ⟨rfl, ?_⟩
            conv => whnf
            refine ⟨rfl, ?_⟩
            conv => whnf
            refine ACalls.useE (ref_level _ _ _ ?_ ?_ ?_) [] rfl (by (conv => whnf); try rfl) (by (conv => whnf); try rfl) ?_
            · exact b0
            · exact b1
            · omega
            conv => whnf
            rw [lv_wrap]
            conv => whnf
            refine Bif.knF ?_ fun h9 => ?_
            · (clear hR; simp; done)
            rw [h9]
            conv => whnf
            refine ACalls.code tabOk h29 Try.func29 Try.call29 ok29 ?_
            conv => whnf
            refine ⟨rfl, ?_⟩
            conv => whnf
            refine ⟨rfl, ?_⟩
            conv => whnf
            rw [ev]
            conv => whnf
            refine Bif.knF ?_ fun h10 => ?_
            · (clear hR; simp; done)
            rw [h10]
            conv => whnf
            refine ACalls.code tabOk h30 Try.func30 Try.call30 ok30 ?_
            conv => whnf
            rw [ev]
            conv => whnf
            rw [x0]
            conv => whnf
            rw [x1]
            conv => whnf
            refine ⟨rfl, ?_⟩
            conv => whnf
            refine ⟨rfl, ?_⟩
            conv => whnf
            refine ⟨rfl, ?_⟩
            conv => whnf
            refine Bif.knF ?_ fun h11 => ?_
            · (clear hR; simp; done)
            rw [h11]
            conv => whnf
            (rw [e2]; exact hR (s.1 + 1, s.2.1, s.2.2.1, v) _ _ _ rfl rfl ⟨hlt, b0, b1, b3⟩ (by show len - (s.1 + 1) < len - s.1; omega))
          · rw [h8]
            conv => whnf
            refine Req.of ?_ ?_
            · (clear hR; simp; omega)
            conv => whnf
            refine slc_ex s.1 2 hlt (by decide) (by rw [hEi]; rfl) (by first | omega | (simp; done)) ?_
            conv => whnf
            refine slc_ex s.1 3 hlt (by decide) (by rw [hEi]; rfl) (by first | omega | (simp; done)) ?_
            conv => whnf
            refine slc_ex s.1 4 hlt (by decide) (by rw [hEi]; rfl) (by first | omega | (simp; done)) ?_
            conv => whnf
            refine ACalls.useE (port_set _ _ _ _ _ _) [1] rfl (by (conv => whnf); try rfl) (by (conv => whnf); try rfl) ?_
            conv => whnf
            rw [hk]
            conv => whnf
            refine Req.of ?_ ?_
            · (clear hR; simp; omega)
            conv => whnf
            refine slc_ex s.1 2 hlt (by decide) (by rw [hEi]; rfl) (by first | omega | (simp; done)) ?_
            conv => whnf
            refine slc_ex s.1 3 hlt (by decide) (by rw [hEi]; rfl) (by first | omega | (simp; done)) ?_
            conv => whnf
            refine slc_ex s.1 4 hlt (by decide) (by rw [hEi]; rfl) (by first | omega | (simp; done)) ?_
            conv => whnf
            refine ACalls.useE (ref_bytes _ _ _) [] rfl (by (conv => whnf); try rfl) (by (conv => whnf); try rfl) ?_
            conv => whnf
            rw [hk]
            conv => whnf
            refine Req.of ?_ ?_
            · (clear hR; simp; omega)
            conv => whnf
            refine slc_ex s.1 2 hlt (by decide) (by rw [hEi]; rfl) (by first | omega | (simp; done)) ?_
            conv => whnf
            refine slc_ex s.1 3 hlt (by decide) (by rw [hEi]; rfl) (by first | omega | (simp; done)) ?_
            conv => whnf
            refine slc_ex s.1 4 hlt (by decide) (by rw [hEi]; rfl) (by first | omega | (simp; done)) ?_
            conv => whnf
            refine ACalls.useE (ref_bytes _ _ _) [] rfl (by (conv => whnf); try rfl) (by (conv => whnf); try rfl) ?_
            conv => whnf
            rw [hk]
            conv => whnf
            refine ACalls.useE (port_level _ _ _ ?_ ?_ ?_) [1] rfl (by (conv => whnf); try rfl) (by (conv => whnf); try rfl) ?_
            · exact b0
            · exact b1
            · exact b2
            conv => whnf
            refine ⟨rfl, ?_⟩
            conv => whnf
            refine ⟨rfl, ?_⟩
            conv => whnf
            refine ⟨rfl, ?_⟩
            conv => whnf
            refine ACalls.useE (ref_level _ _ _ ?_ ?_ ?_) [] rfl (by (conv => whnf); try rfl) (by (conv => whnf); try rfl) ?_
            · exact b0
            · exact b1
            · exact b2
            conv => whnf
            rw [lv_wrap]
            conv => whnf
            refine Bif.knF ?_ fun h12 => ?_
            · (clear hR; simp; done)
            rw [h12]
            conv => whnf
            refine ACalls.code tabOk h29 Try.func29 Try.call29 ok29 ?_
            conv => whnf
            refine ⟨rfl, ?_⟩
            conv => whnf
            refine ⟨rfl, ?_⟩
            conv => whnf
            refine Bif.knF ?_ fun h13 => ?_
            · (clear hR; simp; omega)
            rw [h13]
            conv => whnf
            refine ACalls.code tabOk h30 Try.func30 Try.call30 ok30 ?_
            conv => whnf
            refine ⟨rfl, ?_⟩
            conv => whnf
            refine ⟨rfl, ?_⟩
            conv => whnf
            refine ⟨rfl, ?_⟩
            conv => whnf
            refine Bif.knF ?_ fun h14 => ?_
            · (clear hR; simp; omega)
            rw [h14]
            conv => whnf
            (rw [e2]; exact hR (s.1 + 1, s.2.1, s.2.2.1, s.2.2.2) _ _ _ rfl rfl ⟨hlt, b0, b1, b2⟩ (by show len - (s.1 + 1) < len - s.1; omega))
  · conv => whnf
    refine ACalls.useE (awake07) [] rfl (by (conv => whnf); try rfl) (by (conv => whnf); try rfl) ?_
    conv => whnf
    refine ⟨rfl, ?_⟩
    conv => whnf
theorem walk_PortPlays_nil (inn : Int) (wi : (Lit.int .u8 inn).wf = true) : ACalls Try.prog 5 [.int .u8 inn, .slice none 0 0] [] fun v _ => v = .bool true := by
  refine ACalls.code tabOk h5 Try.func5 Try.call5 ok5 ?_
  conv => whnf
  refine ACalls.useE (port_new _) [] rfl (by (conv => whnf); try rfl) (by (conv => whnf); try rfl) ?_
  conv => whnf
  refine ALoop.run 1 ?_
  conv => whnf
  refine ACalls.useE (awake07) [] rfl (by (conv => whnf); try rfl) (by (conv => whnf); try rfl) ?_
  conv => whnf

def okE (w0 w1 w2 : Int) : Bool := (decide (w0 = 0) || decide (w0 = 1)) && (decide (w1 = 0) || decide (w1 = 1)) && (decide (w2 = 0) || decide (w2 = 1))
theorem okE_iff (w0 w1 w2 : Int) : okE w0 w1 w2 = true ↔ (w0 = 0 ∨ w0 = 1) ∧ (w1 = 0 ∨ w1 = 1) ∧ (w2 = 0 ∨ w2 = 1) := by unfold okE; simp [and_assoc]
theorem ref_bits (w0 w1 w2 : Int) : ACalls Try.prog 32 [.agg #[.int .i64 w0, .int .i64 w1, .int .i64 w2]] [] fun r H => r = .bool (okE w0 w1 w2) ∧ H = [] := by
  cases h : okE w0 w1 w2 with
  | true =>
    have h' := (okE_iff _ _ _).1 h
    rcases h' with ⟨rfl | rfl, rfl | rfl, rfl | rfl⟩
    · refine ACalls.code tabOk h32 Try.func32 Try.call32 ok32 ?_
      conv => whnf
      refine ALoop.run 4 ?_
      conv => whnf
      exact ⟨rfl, rfl⟩
    · refine ACalls.code tabOk h32 Try.func32 Try.call32 ok32 ?_
      conv => whnf
      refine ALoop.run 4 ?_
      conv => whnf
      exact ⟨rfl, rfl⟩
    · refine ACalls.code tabOk h32 Try.func32 Try.call32 ok32 ?_
      conv => whnf
      refine ALoop.run 4 ?_
      conv => whnf
      exact ⟨rfl, rfl⟩
    · refine ACalls.code tabOk h32 Try.func32 Try.call32 ok32 ?_
      conv => whnf
      refine ALoop.run 4 ?_
      conv => whnf
      exact ⟨rfl, rfl⟩
    · refine ACalls.code tabOk h32 Try.func32 Try.call32 ok32 ?_
      conv => whnf
      refine ALoop.run 4 ?_
      conv => whnf
      exact ⟨rfl, rfl⟩
    · refine ACalls.code tabOk h32 Try.func32 Try.call32 ok32 ?_
      conv => whnf
      refine ALoop.run 4 ?_
      conv => whnf
      exact ⟨rfl, rfl⟩
    · refine ACalls.code tabOk h32 Try.func32 Try.call32 ok32 ?_
      conv => whnf
      refine ALoop.run 4 ?_
      conv => whnf
      exact ⟨rfl, rfl⟩
    · refine ACalls.code tabOk h32 Try.func32 Try.call32 ok32 ?_
      conv => whnf
      refine ALoop.run 4 ?_
      conv => whnf
      exact ⟨rfl, rfl⟩
  | false =>
    have h' : ¬ ((w0 = 0 ∨ w0 = 1) ∧ (w1 = 0 ∨ w1 = 1) ∧ (w2 = 0 ∨ w2 = 1)) := fun k => by rw [(okE_iff _ _ _).2 k] at h; cases h
    refine ACalls.code tabOk h32 Try.func32 Try.call32 ok32 ?_
    conv => whnf
    refine ALoop.run 4 ?_
    conv => whnf
    refine Bif.of (fun h0 => ?_) fun h0 => ?_
    · rw [h0]
      conv => whnf
      refine Bif.of (fun h1 => ?_) fun h1 => ?_
      · rw [h1]
        conv => whnf
        exact ⟨rfl, rfl⟩
      · rw [h1]
        conv => whnf
        refine Bif.of (fun h2 => ?_) fun h2 => ?_
        · rw [h2]
          conv => whnf
          refine Bif.of (fun h3 => ?_) fun h3 => ?_
          · rw [h3]
            conv => whnf
            exact ⟨rfl, rfl⟩
          · rw [h3]
            conv => whnf
            refine Bif.of (fun h4 => ?_) fun h4 => ?_
            · rw [h4]
              conv => whnf
              refine Bif.of (fun h5 => ?_) fun h5 => ?_
              · rw [h5]
                conv => whnf
                exact ⟨rfl, rfl⟩
              · rw [h5]
                conv => whnf
                (exfalso; simp at *; omega)
            · rw [h4]
              conv => whnf
              (exfalso; simp at *; omega)
        · rw [h2]
          conv => whnf
          refine Bif.of (fun h6 => ?_) fun h6 => ?_
          · rw [h6]
            conv => whnf
            refine Bif.of (fun h7 => ?_) fun h7 => ?_
            · rw [h7]
              conv => whnf
              exact ⟨rfl, rfl⟩
            · rw [h7]
              conv => whnf
              (exfalso; simp at *; omega)
          · rw [h6]
            conv => whnf
            (exfalso; simp at *; omega)
    · rw [h0]
      conv => whnf
      refine Bif.of (fun h8 => ?_) fun h8 => ?_
      · rw [h8]
        conv => whnf
        refine Bif.of (fun h9 => ?_) fun h9 => ?_
        · rw [h9]
          conv => whnf
          exact ⟨rfl, rfl⟩
        · rw [h9]
          conv => whnf
          refine Bif.of (fun h10 => ?_) fun h10 => ?_
          · rw [h10]
            conv => whnf
            refine Bif.of (fun h11 => ?_) fun h11 => ?_
            · rw [h11]
              conv => whnf
              exact ⟨rfl, rfl⟩
            · rw [h11]
              conv => whnf
              (exfalso; simp at *; omega)
          · rw [h10]
            conv => whnf
            (exfalso; simp at *; omega)
      · rw [h8]
        conv => whnf
        refine Bif.of (fun h12 => ?_) fun h12 => ?_
        · rw [h12]
          conv => whnf
          refine Bif.of (fun h13 => ?_) fun h13 => ?_
          · rw [h13]
            conv => whnf
            exact ⟨rfl, rfl⟩
          · rw [h13]
            conv => whnf
            (exfalso; simp at *; omega)
        · rw [h12]
          conv => whnf
          (exfalso; simp at *; omega)
theorem edge_set_ok (a b c : Bool) (w0 w1 w2 : Int) (h : okE w0 w1 w2 = true) : ACalls Try.prog 31 [.pointer (some ⟨0, 0, none⟩), .agg #[.int .i64 w0, .int .i64 w1, .int .i64 w2]] [.cells [.bool a, .bool b, .bool c] 99] fun r H => r = .int .i64 0 ∧ H = [.cells [.bool (w0 == 1), .bool (w1 == 1), .bool (w2 == 1)] 99] := by
  have h' := (okE_iff _ _ _).1 h
  rcases h' with ⟨rfl | rfl, rfl | rfl, rfl | rfl⟩
  · refine ACalls.code tabOk h31 Try.func31 Try.call31 ok31 ?_
    conv => whnf
    refine ACalls.code tabOk h64 Try.func64 Try.call64 ok64 ?_
    conv => whnf
    refine ALoop.run 4 ?_
    conv => whnf
    refine ACalls.code tabOk h66 Try.func66 Try.call66 ok66 ?_
    conv => whnf
    refine ACalls.code tabOk h66 Try.func66 Try.call66 ok66 ?_
    conv => whnf
    refine ACalls.code tabOk h66 Try.func66 Try.call66 ok66 ?_
    conv => whnf
    exact ⟨rfl, rfl⟩
  · refine ACalls.code tabOk h31 Try.func31 Try.call31 ok31 ?_
    conv => whnf
    refine ACalls.code tabOk h64 Try.func64 Try.call64 ok64 ?_
    conv => whnf
    refine ALoop.run 4 ?_
    conv => whnf
    refine ACalls.code tabOk h66 Try.func66 Try.call66 ok66 ?_
    conv => whnf
    refine ACalls.code tabOk h66 Try.func66 Try.call66 ok66 ?_
    conv => whnf
    refine ACalls.code tabOk h66 Try.func66 Try.call66 ok66 ?_
    conv => whnf
    exact ⟨rfl, rfl⟩
  · refine ACalls.code tabOk h31 Try.func31 Try.call31 ok31 ?_
    conv => whnf
    refine ACalls.code tabOk h64 Try.func64 Try.call64 ok64 ?_
    conv => whnf
    refine ALoop.run 4 ?_
    conv => whnf
    refine ACalls.code tabOk h66 Try.func66 Try.call66 ok66 ?_
    conv => whnf
    refine ACalls.code tabOk h66 Try.func66 Try.call66 ok66 ?_
    conv => whnf
    refine ACalls.code tabOk h66 Try.func66 Try.call66 ok66 ?_
    conv => whnf
    exact ⟨rfl, rfl⟩
  · refine ACalls.code tabOk h31 Try.func31 Try.call31 ok31 ?_
    conv => whnf
    refine ACalls.code tabOk h64 Try.func64 Try.call64 ok64 ?_
    conv => whnf
    refine ALoop.run 4 ?_
    conv => whnf
    refine ACalls.code tabOk h66 Try.func66 Try.call66 ok66 ?_
    conv => whnf
    refine ACalls.code tabOk h66 Try.func66 Try.call66 ok66 ?_
    conv => whnf
    refine ACalls.code tabOk h66 Try.func66 Try.call66 ok66 ?_
    conv => whnf
    exact ⟨rfl, rfl⟩
  · refine ACalls.code tabOk h31 Try.func31 Try.call31 ok31 ?_
    conv => whnf
    refine ACalls.code tabOk h64 Try.func64 Try.call64 ok64 ?_
    conv => whnf
    refine ALoop.run 4 ?_
    conv => whnf
    refine ACalls.code tabOk h66 Try.func66 Try.call66 ok66 ?_
    conv => whnf
    refine ACalls.code tabOk h66 Try.func66 Try.call66 ok66 ?_
    conv => whnf
    refine ACalls.code tabOk h66 Try.func66 Try.call66 ok66 ?_
    conv => whnf
    exact ⟨rfl, rfl⟩
  · refine ACalls.code tabOk h31 Try.func31 Try.call31 ok31 ?_
    conv => whnf
    refine ACalls.code tabOk h64 Try.func64 Try.call64 ok64 ?_
    conv => whnf
    refine ALoop.run 4 ?_
    conv => whnf
    refine ACalls.code tabOk h66 Try.func66 Try.call66 ok66 ?_
    conv => whnf
    refine ACalls.code tabOk h66 Try.func66 Try.call66 ok66 ?_
    conv => whnf
    refine ACalls.code tabOk h66 Try.func66 Try.call66 ok66 ?_
    conv => whnf
    exact ⟨rfl, rfl⟩
  · refine ACalls.code tabOk h31 Try.func31 Try.call31 ok31 ?_
    conv => whnf
    refine ACalls.code tabOk h64 Try.func64 Try.call64 ok64 ?_
    conv => whnf
    refine ALoop.run 4 ?_
    conv => whnf
    refine ACalls.code tabOk h66 Try.func66 Try.call66 ok66 ?_
    conv => whnf
    refine ACalls.code tabOk h66 Try.func66 Try.call66 ok66 ?_
    conv => whnf
    refine ACalls.code tabOk h66 Try.func66 Try.call66 ok66 ?_
    conv => whnf
    exact ⟨rfl, rfl⟩
  · refine ACalls.code tabOk h31 Try.func31 Try.call31 ok31 ?_
    conv => whnf
    refine ACalls.code tabOk h64 Try.func64 Try.call64 ok64 ?_
    conv => whnf
    refine ALoop.run 4 ?_
    conv => whnf
    refine ACalls.code tabOk h66 Try.func66 Try.call66 ok66 ?_
    conv => whnf
    refine ACalls.code tabOk h66 Try.func66 Try.call66 ok66 ?_
    conv => whnf
    refine ACalls.code tabOk h66 Try.func66 Try.call66 ok66 ?_
    conv => whnf
    exact ⟨rfl, rfl⟩
theorem edge_set_bad (a b c : Bool) (w0 w1 w2 : Int) (h : okE w0 w1 w2 = false) : ACalls Try.prog 31 [.pointer (some ⟨0, 0, none⟩), .agg #[.int .i64 w0, .int .i64 w1, .int .i64 w2]] [.cells [.bool a, .bool b, .bool c] 99] fun r H => r = .int .i64 6 ∧ H = [.cells [.bool a, .bool b, .bool c] 99] := by
  have h' : ¬ ((w0 = 0 ∨ w0 = 1) ∧ (w1 = 0 ∨ w1 = 1) ∧ (w2 = 0 ∨ w2 = 1)) := fun k => by rw [(okE_iff _ _ _).2 k] at h; cases h
  refine ACalls.code tabOk h31 Try.func31 Try.call31 ok31 ?_
  conv => whnf
  refine ACalls.code tabOk h64 Try.func64 Try.call64 ok64 ?_
  conv => whnf
  refine ALoop.run 4 ?_
  conv => whnf
  refine ACalls.code tabOk h66 Try.func66 Try.call66 ok66 ?_
  conv => whnf
  refine Bif.of (fun h0 => ?_) fun h0 => ?_
  · rw [h0]
    conv => whnf
    refine ACalls.code tabOk h66 Try.func66 Try.call66 ok66 ?_
    conv => whnf
    refine Bif.of (fun h1 => ?_) fun h1 => ?_
    · rw [h1]
      conv => whnf
      refine ACalls.code tabOk h66 Try.func66 Try.call66 ok66 ?_
      conv => whnf
      refine Bif.of (fun h2 => ?_) fun h2 => ?_
      · rw [h2]
        conv => whnf
        (exfalso; simp at *; omega)
      · rw [h2]
        conv => whnf
        refine Bif.of (fun h3 => ?_) fun h3 => ?_
        · rw [h3]
          conv => whnf
          exact ⟨rfl, rfl⟩
        · rw [h3]
          conv => whnf
          (exfalso; simp at *; omega)
    · rw [h1]
      conv => whnf
      refine Bif.of (fun h4 => ?_) fun h4 => ?_
      · rw [h4]
        conv => whnf
        exact ⟨rfl, rfl⟩
      · rw [h4]
        conv => whnf
        refine ACalls.code tabOk h66 Try.func66 Try.call66 ok66 ?_
        conv => whnf
        refine Bif.of (fun h5 => ?_) fun h5 => ?_
        · rw [h5]
          conv => whnf
          (exfalso; simp at *; omega)
        · rw [h5]
          conv => whnf
          refine Bif.of (fun h6 => ?_) fun h6 => ?_
          · rw [h6]
            conv => whnf
            exact ⟨rfl, rfl⟩
          · rw [h6]
            conv => whnf
            (exfalso; simp at *; omega)
  · rw [h0]
    conv => whnf
    refine Bif.of (fun h7 => ?_) fun h7 => ?_
    · rw [h7]
      conv => whnf
      exact ⟨rfl, rfl⟩
    · rw [h7]
      conv => whnf
      refine ACalls.code tabOk h66 Try.func66 Try.call66 ok66 ?_
      conv => whnf
      refine Bif.of (fun h8 => ?_) fun h8 => ?_
      · rw [h8]
        conv => whnf
        refine ACalls.code tabOk h66 Try.func66 Try.call66 ok66 ?_
        conv => whnf
        refine Bif.of (fun h9 => ?_) fun h9 => ?_
        · rw [h9]
          conv => whnf
          (exfalso; simp at *; omega)
        · rw [h9]
          conv => whnf
          refine Bif.of (fun h10 => ?_) fun h10 => ?_
          · rw [h10]
            conv => whnf
            exact ⟨rfl, rfl⟩
          · rw [h10]
            conv => whnf
            (exfalso; simp at *; omega)
      · rw [h8]
        conv => whnf
        refine Bif.of (fun h11 => ?_) fun h11 => ?_
        · rw [h11]
          conv => whnf
          exact ⟨rfl, rfl⟩
        · rw [h11]
          conv => whnf
          refine ACalls.code tabOk h66 Try.func66 Try.call66 ok66 ?_
          conv => whnf
          refine Bif.of (fun h12 => ?_) fun h12 => ?_
          · rw [h12]
            conv => whnf
            (exfalso; simp at *; omega)
          · rw [h12]
            conv => whnf
            refine Bif.of (fun h13 => ?_) fun h13 => ?_
            · rw [h13]
              conv => whnf
              exact ⟨rfl, rfl⟩
            · rw [h13]
              conv => whnf
              (exfalso; simp at *; omega)
theorem edge_set (a b c : Bool) (w0 w1 w2 : Int) : ACalls Try.prog 31 [.pointer (some ⟨0, 0, none⟩), .agg #[.int .i64 w0, .int .i64 w1, .int .i64 w2]] [.cells [.bool a, .bool b, .bool c] 99]
    fun r H => r = .int .i64 (bif okE w0 w1 w2 then 0 else 6) ∧ H = [.cells [.bool (bif okE w0 w1 w2 then w0 == 1 else a), .bool (bif okE w0 w1 w2 then w1 == 1 else b), .bool (bif okE w0 w1 w2 then w2 == 1 else c)] 99] := by
  cases h : okE w0 w1 w2 with
  | true => exact edge_set_ok a b c w0 w1 w2 h
  | false => exact edge_set_bad a b c w0 w1 w2 h
def e01 (b : Bool) : Int := if b then 1 else 0
theorem edge_words (a b c : Bool) : ACalls Try.prog 34 [.pointer (some ⟨0, 0, none⟩)] [.cells [.bool a, .bool b, .bool c] 99] fun r H => r = .agg #[.int .i64 (e01 a), .int .i64 (e01 b), .int .i64 (e01 c)] ∧ H = [.cells [.bool a, .bool b, .bool c] 99] := by
  cases a <;> cases b <;> cases c
  · refine ACalls.code tabOk h34 Try.func34 Try.call34 ok34 ?_
    conv => whnf
    refine ACalls.code tabOk h67 Try.func67 Try.call67 ok67 ?_
    conv => whnf
    refine ⟨rfl, ?_⟩
    conv => whnf
    refine ⟨rfl, ?_⟩
    conv => whnf
    refine ACalls.code tabOk h67 Try.func67 Try.call67 ok67 ?_
    conv => whnf
    refine ⟨rfl, ?_⟩
    conv => whnf
    refine ACalls.code tabOk h67 Try.func67 Try.call67 ok67 ?_
    conv => whnf
    exact ⟨rfl, rfl⟩
  · refine ACalls.code tabOk h34 Try.func34 Try.call34 ok34 ?_
    conv => whnf
    refine ACalls.code tabOk h67 Try.func67 Try.call67 ok67 ?_
    conv => whnf
    refine ⟨rfl, ?_⟩
    conv => whnf
    refine ⟨rfl, ?_⟩
    conv => whnf
    refine ACalls.code tabOk h67 Try.func67 Try.call67 ok67 ?_
    conv => whnf
    refine ⟨rfl, ?_⟩
    conv => whnf
    refine ACalls.code tabOk h67 Try.func67 Try.call67 ok67 ?_
    conv => whnf
    exact ⟨rfl, rfl⟩
  · refine ACalls.code tabOk h34 Try.func34 Try.call34 ok34 ?_
    conv => whnf
    refine ACalls.code tabOk h67 Try.func67 Try.call67 ok67 ?_
    conv => whnf
    refine ⟨rfl, ?_⟩
    conv => whnf
    refine ⟨rfl, ?_⟩
    conv => whnf
    refine ACalls.code tabOk h67 Try.func67 Try.call67 ok67 ?_
    conv => whnf
    refine ⟨rfl, ?_⟩
    conv => whnf
    refine ACalls.code tabOk h67 Try.func67 Try.call67 ok67 ?_
    conv => whnf
    exact ⟨rfl, rfl⟩
  · refine ACalls.code tabOk h34 Try.func34 Try.call34 ok34 ?_
    conv => whnf
    refine ACalls.code tabOk h67 Try.func67 Try.call67 ok67 ?_
    conv => whnf
    refine ⟨rfl, ?_⟩
    conv => whnf
    refine ⟨rfl, ?_⟩
    conv => whnf
    refine ACalls.code tabOk h67 Try.func67 Try.call67 ok67 ?_
    conv => whnf
    refine ⟨rfl, ?_⟩
    conv => whnf
    refine ACalls.code tabOk h67 Try.func67 Try.call67 ok67 ?_
    conv => whnf
    exact ⟨rfl, rfl⟩
  · refine ACalls.code tabOk h34 Try.func34 Try.call34 ok34 ?_
    conv => whnf
    refine ACalls.code tabOk h67 Try.func67 Try.call67 ok67 ?_
    conv => whnf
    refine ⟨rfl, ?_⟩
    conv => whnf
    refine ⟨rfl, ?_⟩
    conv => whnf
    refine ACalls.code tabOk h67 Try.func67 Try.call67 ok67 ?_
    conv => whnf
    refine ⟨rfl, ?_⟩
    conv => whnf
    refine ACalls.code tabOk h67 Try.func67 Try.call67 ok67 ?_
    conv => whnf
    exact ⟨rfl, rfl⟩
  · refine ACalls.code tabOk h34 Try.func34 Try.call34 ok34 ?_
    conv => whnf
    refine ACalls.code tabOk h67 Try.func67 Try.call67 ok67 ?_
    conv => whnf
    refine ⟨rfl, ?_⟩
    conv => whnf
    refine ⟨rfl, ?_⟩
    conv => whnf
    refine ACalls.code tabOk h67 Try.func67 Try.call67 ok67 ?_
    conv => whnf
    refine ⟨rfl, ?_⟩
    conv => whnf
    refine ACalls.code tabOk h67 Try.func67 Try.call67 ok67 ?_
    conv => whnf
    exact ⟨rfl, rfl⟩
  · refine ACalls.code tabOk h34 Try.func34 Try.call34 ok34 ?_
    conv => whnf
    refine ACalls.code tabOk h67 Try.func67 Try.call67 ok67 ?_
    conv => whnf
    refine ⟨rfl, ?_⟩
    conv => whnf
    refine ⟨rfl, ?_⟩
    conv => whnf
    refine ACalls.code tabOk h67 Try.func67 Try.call67 ok67 ?_
    conv => whnf
    refine ⟨rfl, ?_⟩
    conv => whnf
    refine ACalls.code tabOk h67 Try.func67 Try.call67 ok67 ?_
    conv => whnf
    exact ⟨rfl, rfl⟩
  · refine ACalls.code tabOk h34 Try.func34 Try.call34 ok34 ?_
    conv => whnf
    refine ACalls.code tabOk h67 Try.func67 Try.call67 ok67 ?_
    conv => whnf
    refine ⟨rfl, ?_⟩
    conv => whnf
    refine ⟨rfl, ?_⟩
    conv => whnf
    refine ACalls.code tabOk h67 Try.func67 Try.call67 ok67 ?_
    conv => whnf
    refine ⟨rfl, ?_⟩
    conv => whnf
    refine ACalls.code tabOk h67 Try.func67 Try.call67 ok67 ?_
    conv => whnf
    exact ⟨rfl, rfl⟩
theorem ref_words (a b c : Bool) : ACalls Try.prog 35 [.agg #[.bool a, .bool b, .bool c]] [] fun r H => r = .agg #[.int .i64 (e01 a), .int .i64 (e01 b), .int .i64 (e01 c)] ∧ H = [] := by
  cases a <;> cases b <;> cases c
  · refine ACalls.code tabOk h35 Try.func35 Try.call35 ok35 ?_
    conv => whnf
    exact ⟨rfl, rfl⟩
  · refine ACalls.code tabOk h35 Try.func35 Try.call35 ok35 ?_
    conv => whnf
    exact ⟨rfl, rfl⟩
  · refine ACalls.code tabOk h35 Try.func35 Try.call35 ok35 ?_
    conv => whnf
    exact ⟨rfl, rfl⟩
  · refine ACalls.code tabOk h35 Try.func35 Try.call35 ok35 ?_
    conv => whnf
    exact ⟨rfl, rfl⟩
  · refine ACalls.code tabOk h35 Try.func35 Try.call35 ok35 ?_
    conv => whnf
    exact ⟨rfl, rfl⟩
  · refine ACalls.code tabOk h35 Try.func35 Try.call35 ok35 ?_
    conv => whnf
    exact ⟨rfl, rfl⟩
  · refine ACalls.code tabOk h35 Try.func35 Try.call35 ok35 ?_
    conv => whnf
    exact ⟨rfl, rfl⟩
  · refine ACalls.code tabOk h35 Try.func35 Try.call35 ok35 ?_
    conv => whnf
    exact ⟨rfl, rfl⟩
def seeB (l r c h : Bool) : Bool := c || ((l != h) && (r == h))
theorem edge_see (l r c h : Bool) : ACalls Try.prog 22 [.pointer (some ⟨0, 0, none⟩), .bool h] [.cells [.bool l, .bool r, .bool c] 99] fun v H => v = .tuple #[] ∧ H = [.cells [.bool h, .bool r, .bool (seeB l r c h)] 99] := by
  cases l <;> cases r <;> cases h <;> cases c
  · refine ACalls.code tabOk h22 Try.func22 Try.call22 ok22 ?_
    conv => whnf
    exact ⟨rfl, rfl⟩
  · refine ACalls.code tabOk h22 Try.func22 Try.call22 ok22 ?_
    conv => whnf
    exact ⟨rfl, rfl⟩
  · refine ACalls.code tabOk h22 Try.func22 Try.call22 ok22 ?_
    conv => whnf
    exact ⟨rfl, rfl⟩
  · refine ACalls.code tabOk h22 Try.func22 Try.call22 ok22 ?_
    conv => whnf
    exact ⟨rfl, rfl⟩
  · refine ACalls.code tabOk h22 Try.func22 Try.call22 ok22 ?_
    conv => whnf
    exact ⟨rfl, rfl⟩
  · refine ACalls.code tabOk h22 Try.func22 Try.call22 ok22 ?_
    conv => whnf
    exact ⟨rfl, rfl⟩
  · refine ACalls.code tabOk h22 Try.func22 Try.call22 ok22 ?_
    conv => whnf
    exact ⟨rfl, rfl⟩
  · refine ACalls.code tabOk h22 Try.func22 Try.call22 ok22 ?_
    conv => whnf
    exact ⟨rfl, rfl⟩
  · refine ACalls.code tabOk h22 Try.func22 Try.call22 ok22 ?_
    conv => whnf
    exact ⟨rfl, rfl⟩
  · refine ACalls.code tabOk h22 Try.func22 Try.call22 ok22 ?_
    conv => whnf
    exact ⟨rfl, rfl⟩
  · refine ACalls.code tabOk h22 Try.func22 Try.call22 ok22 ?_
    conv => whnf
    exact ⟨rfl, rfl⟩
  · refine ACalls.code tabOk h22 Try.func22 Try.call22 ok22 ?_
    conv => whnf
    exact ⟨rfl, rfl⟩
  · refine ACalls.code tabOk h22 Try.func22 Try.call22 ok22 ?_
    conv => whnf
    exact ⟨rfl, rfl⟩
  · refine ACalls.code tabOk h22 Try.func22 Try.call22 ok22 ?_
    conv => whnf
    exact ⟨rfl, rfl⟩
  · refine ACalls.code tabOk h22 Try.func22 Try.call22 ok22 ?_
    conv => whnf
    exact ⟨rfl, rfl⟩
  · refine ACalls.code tabOk h22 Try.func22 Try.call22 ok22 ?_
    conv => whnf
    exact ⟨rfl, rfl⟩
theorem ref_see (l r c h : Bool) : ACalls Try.prog 33 [.agg #[.bool l, .bool r, .bool c], .bool h] [] fun v H => v = .agg #[.bool h, .bool r, .bool (seeB l r c h)] ∧ H = [] := by
  cases l <;> cases r <;> cases h <;> cases c
  · refine ACalls.code tabOk h33 Try.func33 Try.call33 ok33 ?_
    conv => whnf
    exact ⟨rfl, rfl⟩
  · refine ACalls.code tabOk h33 Try.func33 Try.call33 ok33 ?_
    conv => whnf
    exact ⟨rfl, rfl⟩
  · refine ACalls.code tabOk h33 Try.func33 Try.call33 ok33 ?_
    conv => whnf
    exact ⟨rfl, rfl⟩
  · refine ACalls.code tabOk h33 Try.func33 Try.call33 ok33 ?_
    conv => whnf
    exact ⟨rfl, rfl⟩
  · refine ACalls.code tabOk h33 Try.func33 Try.call33 ok33 ?_
    conv => whnf
    exact ⟨rfl, rfl⟩
  · refine ACalls.code tabOk h33 Try.func33 Try.call33 ok33 ?_
    conv => whnf
    exact ⟨rfl, rfl⟩
  · refine ACalls.code tabOk h33 Try.func33 Try.call33 ok33 ?_
    conv => whnf
    exact ⟨rfl, rfl⟩
  · refine ACalls.code tabOk h33 Try.func33 Try.call33 ok33 ?_
    conv => whnf
    exact ⟨rfl, rfl⟩
  · refine ACalls.code tabOk h33 Try.func33 Try.call33 ok33 ?_
    conv => whnf
    exact ⟨rfl, rfl⟩
  · refine ACalls.code tabOk h33 Try.func33 Try.call33 ok33 ?_
    conv => whnf
    exact ⟨rfl, rfl⟩
  · refine ACalls.code tabOk h33 Try.func33 Try.call33 ok33 ?_
    conv => whnf
    exact ⟨rfl, rfl⟩
  · refine ACalls.code tabOk h33 Try.func33 Try.call33 ok33 ?_
    conv => whnf
    exact ⟨rfl, rfl⟩
  · refine ACalls.code tabOk h33 Try.func33 Try.call33 ok33 ?_
    conv => whnf
    exact ⟨rfl, rfl⟩
  · refine ACalls.code tabOk h33 Try.func33 Try.call33 ok33 ?_
    conv => whnf
    exact ⟨rfl, rfl⟩
  · refine ACalls.code tabOk h33 Try.func33 Try.call33 ok33 ?_
    conv => whnf
    exact ⟨rfl, rfl⟩
  · refine ACalls.code tabOk h33 Try.func33 Try.call33 ok33 ?_
    conv => whnf
    exact ⟨rfl, rfl⟩
abbrev psiKs : List CK := [.int .i64, .bool, .int .i64, .int .i64, .int .i64]
theorem psi_cells {cs : List Value} (h : FitsAll psiKs cs) : ∃ (k : Int) (v : Bool) (w0 w1 w2 : Int), cs = [.int .i64 k, .bool v, .int .i64 w0, .int .i64 w1, .int .i64 w2] := by
  obtain ⟨k, _, rfl, _, h⟩ := fits_int h
  obtain ⟨v, _, rfl, h2⟩ := fits_bool h
  obtain ⟨w0, _, rfl, _, h3⟩ := fits_int h2
  obtain ⟨w1, _, rfl, _, h4⟩ := fits_int h3
  obtain ⟨w2, _, rfl, _, h5⟩ := fits_int h4
  obtain rfl := fits_nil h5
  exact ⟨k, v, w0, w1, w2, rfl⟩
end Go.Proofs
