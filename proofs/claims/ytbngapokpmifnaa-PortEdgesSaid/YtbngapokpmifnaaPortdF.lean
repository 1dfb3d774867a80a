/-
  Walks through the functions of the program, by contract.
-/
import Derived.Test.YtbngapokpmifnaaPortcF
set_option linter.all false
set_option linter.unusedVariables false
set_option linter.unusedSimpArgs false
set_option linter.unnecessarySimpa false
namespace Go.Proofs
open Go.Aw
set_option maxRecDepth 100000
set_option maxHeartbeats 8000000
theorem walk_PortEdges (high : Bool) (off len cap : Nat) (hl : len ≤ maxLen) (E : Nat → List Value) (hE : ∀ i, i < len → FitsAll psiKs (E i)) :
    ACalls Try.prog 6 [.bool high, .slice (some ⟨0, off, none⟩) len cap] [.ro (slc off 5 len E)] fun v _ => v = .bool true := by
  refine ACalls.code tabOk h6 Try.func6 Try.call6 ok6 ?_
  conv => whnf
  refine Bif.of (fun h60 => ?_) fun h60 => ?_
  · conv => whnf
    refine ⟨rfl, ?_⟩
    conv => whnf
  have hl : len ≤ 100 := by simp at h60; omega
  conv => whnf
  refine ACalls.useE (edge_new _) [] rfl (by (conv => whnf); try rfl) (by (conv => whnf); try rfl) ?_
  conv => whnf
  refine ALoop.fd (σ := Nat × Bool × Bool × Bool) (fun s => [.bool high, .slice (some ⟨0, off, none⟩) len cap, .chan none, .chan none, .bool false, .pointer (some ⟨1, 0, none⟩), .pointer (some ⟨2, 0, none⟩), .int .i64 s.1, .chan none, .chan none, .chan none, .chan none, .chan none, .chan none, .chan none, .chan none, .chan none, .chan none, .chan none, .chan none, .chan none, .chan none, .chan none, .chan none, .chan none, .chan none, .chan none, .chan none, .chan none, .chan none, .chan none, .chan none, .chan none, .chan none, .chan none, .chan none, .chan none, .chan none, .chan none, .chan none, .chan none, .chan none, .chan none, .chan none, .chan none, .chan none, .chan none, .chan none, .chan none, .chan none, .chan none, .chan none, .chan none, .chan none, .chan none, .chan none, .chan none, .chan none, .chan none, .chan none, .chan none, .chan none, .chan none, .chan none, .chan none, .chan none, .chan none, .chan none, .chan none, .chan none, .chan none, .chan none, .chan none, .chan none, .chan none, .chan none, .chan none, .chan none, .chan none, .chan none, .chan none, .chan none, .chan none, .chan none, .chan none, .chan none, .chan none, .chan none, .chan none, .chan none, .chan none, .chan none, .chan none, .chan none, .chan none, .chan none, .chan none, .chan none, .chan none, .chan none, .chan none, .chan none, .chan none, .chan none, .chan none, .chan none, .chan none, .chan none, .chan none, .chan none, .chan none, .chan none, .chan none, .chan none, .chan none, .chan none, .chan none, .chan none, .chan none, .chan none, .chan none, .chan none, .chan none, .chan none, .chan none, .chan none, .chan none, .chan none, .chan none, .chan none, .chan none, .chan none, .chan none, .chan none, .chan none, .chan none]) (fun s => [.ro (slc off 5 len E), .cells [.bool s.2.1, .bool s.2.2.1, .bool s.2.2.2] 99, .cells [.bool s.2.1, .bool s.2.2.1, .bool s.2.2.2] 45])
    (fun s => s.1 ≤ len) (fun s => len - s.1) (0, high, false, false) [] rfl rfl (Nat.zero_le _) (fun _ => ⟨rfl, rfl, rfl, rfl⟩) ?_
  rintro s hi R hR
  have e2 : IntKind.i64.wrap ((s.1 : Int) + 1) = ((s.1 + 1 : Nat) : Int) := by rw [wrap64 (by omega) (by omega)]; rfl
  conv => whnf
  refine Bif.of (fun h0 => ?_) fun h0 => ?_
  · have hlt : s.1 < len := by simp at h0; omega
    obtain ⟨k, v, w0, w1, w2, hEi⟩ := psi_cells (hE s.1 hlt)
    cases hk : okE w0 w1 w2 with
    | true =>
      conv => whnf
      refine Req.of ?_ ?_
      · (clear hR; simp; omega)
      conv => whnf
      refine slc_ex s.1 0 hlt (by decide) (by rw [hEi]; rfl) (by first | omega | (simp; done)) ?_
      conv => whnf
      refine Bif.of (fun h0 => ?_) fun h0 => ?_
      · conv => whnf
        refine Req.of ?_ ?_
        · (clear hR; simp; omega)
        conv => whnf
        refine slc_ex s.1 1 hlt (by decide) (by rw [hEi]; rfl) (by first | omega | (simp; done)) ?_
        conv => whnf
        refine ACalls.code tabOk h21 Try.func21 Try.call21 ok21 ?_
        conv => whnf
        refine ⟨rfl, ?_⟩
        conv => whnf
        refine Req.of ?_ ?_
        · (clear hR; simp; omega)
        conv => whnf
        refine slc_ex s.1 1 hlt (by decide) (by rw [hEi]; rfl) (by first | omega | (simp; done)) ?_
        conv => whnf
        refine ACalls.code tabOk h23 Try.func23 Try.call23 ok23 ?_
        conv => whnf
        refine ⟨rfl, ?_⟩
        conv => whnf
        refine ⟨rfl, ?_⟩
        conv => whnf
        refine Bif.knF ?_ fun h1 => ?_
        · (clear hR; simp; done)
        conv => whnf
        refine Bif.knF ?_ fun h2 => ?_
        · with_reducible assumption
        conv => whnf
        refine Bif.knF ?_ fun h3 => ?_
        · with_reducible assumption
        conv => whnf
        refine ACalls.useE (edge_words _ _ _) [1] rfl (by (conv => whnf); try rfl) (by (conv => whnf); try rfl) ?_
        conv => whnf
        refine ⟨rfl, ?_⟩
        conv => whnf
        refine Bif.knF ?_ fun h4 => ?_
        · with_reducible assumption
        conv => whnf
        refine ACalls.useE (ref_words _ _ _) [] rfl (by (conv => whnf); try rfl) (by (conv => whnf); try rfl) ?_
        conv => whnf
        refine Bif.knF ?_ fun h5 => ?_
        · with_reducible assumption
        conv => whnf
        refine Bif.knF ?_ fun h6 => ?_
        · with_reducible assumption
        conv => whnf
        refine Bif.knF ?_ fun h7 => ?_
        · (clear hR; simp; done)
        conv => whnf
        (rw [e2]; exact hR (s.1 + 1, s.2.1, v, s.2.2.2) _ _ _ rfl rfl hlt (by show len - (s.1 + 1) < len - s.1; omega))
      · conv => whnf
        refine Bif.of (fun h8 => ?_) fun h8 => ?_
        · conv => whnf
          refine ACalls.code tabOk h24 Try.func24 Try.call24 ok24 ?_
          conv => whnf
          refine ACalls.code tabOk h23 Try.func23 Try.call23 ok23 ?_
          conv => whnf
          refine ⟨rfl, ?_⟩
          conv => whnf
          refine ⟨rfl, ?_⟩
          conv => whnf
          refine ⟨rfl, ?_⟩
          conv => whnf
          refine Bif.knF ?_ fun h9 => ?_
          · (clear hR; simp; done)
          conv => whnf
          refine ACalls.code tabOk h23 Try.func23 Try.call23 ok23 ?_
          conv => whnf
          refine ⟨rfl, ?_⟩
          conv => whnf
          refine ⟨rfl, ?_⟩
          conv => whnf
          refine ACalls.useE (edge_words _ _ _) [1] rfl (by (conv => whnf); try rfl) (by (conv => whnf); try rfl) ?_
          conv => whnf
          refine ⟨rfl, ?_⟩
          conv => whnf
          refine ACalls.useE (ref_words _ _ _) [] rfl (by (conv => whnf); try rfl) (by (conv => whnf); try rfl) ?_
          conv => whnf
          refine Bif.knF ?_ fun h10 => ?_
          · (clear hR; simp; done)
          conv => whnf
          (rw [e2]; exact hR (s.1 + 1, s.2.1, s.2.2.1, false) _ _ _ rfl rfl hlt (by show len - (s.1 + 1) < len - s.1; omega))
        · conv => whnf
          refine Bif.of (fun h11 => ?_) fun h11 => ?_
          · conv => whnf
            refine Req.of ?_ ?_
            · (clear hR; simp; omega)
            conv => whnf
            refine slc_ex s.1 2 hlt (by decide) (by rw [hEi]; rfl) (by first | omega | (simp; done)) ?_
            conv => whnf
            refine slc_ex s.1 3 hlt (by decide) (by rw [hEi]; rfl) (by first | omega | (simp; done)) ?_
            conv => whnf
            refine slc_ex s.1 4 hlt (by decide) (by rw [hEi]; rfl) (by first | omega | (simp; done)) ?_
            conv => whnf
            refine ACalls.useE (edge_set _ _ _ _ _ _) [1] rfl (by (conv => whnf); try rfl) (by (conv => whnf); try rfl) ?_
            conv => whnf
            rw [hk]
            conv => whnf
            refine Req.of ?_ ?_
            · (clear hR; simp; omega)
            conv => whnf
            refine slc_ex s.1 2 hlt (by decide) (by rw [hEi]; rfl) (by first | omega | (simp; done)) ?_
            conv => whnf
            refine slc_ex s.1 3 hlt (by decide) (by rw [hEi]; rfl) (by first | omega | (simp; done)) ?_
            conv => whnf
            refine slc_ex s.1 4 hlt (by decide) (by rw [hEi]; rfl) (by first | omega | (simp; done)) ?_
            conv => whnf
            refine ACalls.useE (ref_bits _ _ _) [] rfl (by (conv => whnf); try rfl) (by (conv => whnf); try rfl) ?_
            conv => whnf
            rw [hk]
            conv => whnf
            refine Req.of ?_ ?_
            · (clear hR; simp; omega)
            conv => whnf
            refine slc_ex s.1 2 hlt (by decide) (by rw [hEi]; rfl) (by first | omega | (simp; done)) ?_
            conv => whnf
            refine Req.of ?_ ?_
            · (clear hR; simp; omega)
            conv => whnf
            refine slc_ex s.1 3 hlt (by decide) (by rw [hEi]; rfl) (by first | omega | (simp; done)) ?_
            conv => whnf
            refine Req.of ?_ ?_
            · (clear hR; simp; omega)
            conv => whnf
            refine slc_ex s.1 4 hlt (by decide) (by rw [hEi]; rfl) (by first | omega | (simp; done)) ?_
            conv => whnf
            refine Req.of ?_ ?_
            · (clear hR; simp; omega)
            conv => whnf
            refine slc_ex s.1 2 hlt (by decide) (by rw [hEi]; rfl) (by first | omega | (simp; done)) ?_
            conv => whnf
            refine slc_ex s.1 3 hlt (by decide) (by rw [hEi]; rfl) (by first | omega | (simp; done)) ?_
            conv => whnf
            refine slc_ex s.1 4 hlt (by decide) (by rw [hEi]; rfl) (by first | omega | (simp; done)) ?_
            conv => whnf
            refine ACalls.useE (ref_bits _ _ _) [] rfl (by (conv => whnf); try rfl) (by (conv => whnf); try rfl) ?_
            conv => whnf
            rw [hk]
            conv => whnf
            refine ACalls.code tabOk h23 Try.func23 Try.call23 ok23 ?_
            conv => whnf
            refine ⟨rfl, ?_⟩
            conv => whnf
            refine ⟨rfl, ?_⟩
            conv => whnf
            refine Bif.knF ?_ fun h12 => ?_
            · (clear hR; simp; done)
            conv => whnf
            refine Bif.knF ?_ fun h13 => ?_
            · with_reducible assumption
            conv => whnf
            refine Bif.knF ?_ fun h14 => ?_
            · with_reducible assumption
            conv => whnf
            refine ACalls.useE (edge_words _ _ _) [1] rfl (by (conv => whnf); try rfl) (by (conv => whnf); try rfl) ?_
            conv => whnf
            refine ⟨rfl, ?_⟩
            conv => whnf
            refine Bif.knF ?_ fun h15 => ?_
            · with_reducible assumption
            conv => whnf
            refine ACalls.useE (ref_words _ _ _) [] rfl (by (conv => whnf); try rfl) (by (conv => whnf); try rfl) ?_
            conv => whnf
            refine Bif.knF ?_ fun h16 => ?_
            · with_reducible assumption
            conv => whnf
            refine Bif.knF ?_ fun h17 => ?_
            · with_reducible assumption
            conv => whnf
            refine Bif.knF ?_ fun h18 => ?_
            · (clear hR; simp; done)
            conv => whnf
            (rw [e2]; exact hR (s.1 + 1, w0 == 1, w1 == 1, w2 == 1) _ _ _ rfl rfl hlt (by show len - (s.1 + 1) < len - s.1; omega))
          · conv => whnf
            refine Req.of ?_ ?_
            · (clear hR; simp; omega)
            conv => whnf
            refine slc_ex s.1 1 hlt (by decide) (by rw [hEi]; rfl) (by first | omega | (simp; done)) ?_
            conv => whnf
            refine ACalls.useE (edge_see _ _ _ _) [1] rfl (by (conv => whnf); try rfl) (by (conv => whnf); try rfl) ?_
            conv => whnf
            refine Req.of ?_ ?_
            · (clear hR; simp; omega)
            conv => whnf
            refine slc_ex s.1 1 hlt (by decide) (by rw [hEi]; rfl) (by first | omega | (simp; done)) ?_
            conv => whnf
            refine ACalls.useE (ref_see _ _ _ _) [] rfl (by (conv => whnf); try rfl) (by (conv => whnf); try rfl) ?_
            conv => whnf
            refine ACalls.code tabOk h23 Try.func23 Try.call23 ok23 ?_
            conv => whnf
            refine ⟨rfl, ?_⟩
            conv => whnf
            refine ⟨rfl, ?_⟩
            conv => whnf
            refine Bif.knF ?_ fun h19 => ?_
            · (clear hR; simp; done)
            conv => whnf
            refine Bif.knF ?_ fun h20 => ?_
            · with_reducible assumption
            conv => whnf
            refine Bif.knF ?_ fun h21 => ?_
            · with_reducible assumption
            conv => whnf
            refine ACalls.useE (edge_words _ _ _) [1] rfl (by (conv => whnf); try rfl) (by (conv => whnf); try rfl) ?_
            conv => whnf
            refine ⟨rfl, ?_⟩
            conv => whnf
            refine Bif.knF ?_ fun h22 => ?_
            · with_reducible assumption
            conv => whnf
            refine ACalls.useE (ref_words _ _ _) [] rfl (by (conv => whnf); try rfl) (by (conv => whnf); try rfl) ?_
            conv => whnf
            refine Bif.knF ?_ fun h23 => ?_
            · with_reducible assumption
            conv => whnf
            refine Bif.knF ?_ fun h24 => ?_
            · with_reducible assumption
            conv => whnf
            refine Bif.knF ?_ fun h25 => ?_
            · (clear hR; simp; done)
            conv => whnf
            (rw [e2]; exact hR (s.1 + 1, v, s.2.2.1, seeB s.2.1 s.2.2.1 s.2.2.2 v) _ _ _ rfl rfl hlt (by show len - (s.1 + 1) < len - s.1; omega))
    | false =>
      conv => whnf
      refine Req.of ?_ ?_
      · (clear hR; simp; omega)
      conv => whnf
      refine slc_ex s.1 0 hlt (by decide) (by rw [hEi]; rfl) (by first | omega | (simp; done)) ?_
      conv => whnf
      refine Bif.of (fun h0 => ?_) fun h0 => ?_
      · conv => whnf
        refine Req.of ?_ ?_
        · (clear hR; simp; omega)
        conv => whnf
        refine slc_ex s.1 1 hlt (by decide) (by rw [hEi]; rfl) (by first | omega | (simp; done)) ?_
        conv => whnf
        refine ACalls.code tabOk h21 Try.func21 Try.call21 ok21 ?_
        conv => whnf
        refine ⟨rfl, ?_⟩
        conv => whnf
        refine Req.of ?_ ?_
        · (clear hR; simp; omega)
        conv => whnf
        refine slc_ex s.1 1 hlt (by decide) (by rw [hEi]; rfl) (by first | omega | (simp; done)) ?_
        conv => whnf
        refine ACalls.code tabOk h23 Try.func23 Try.call23 ok23 ?_
        conv => whnf
        refine ⟨rfl, ?_⟩
        conv => whnf
        refine ⟨rfl, ?_⟩
        conv => whnf
        refine Bif.knF ?_ fun h1 => ?_
        · (clear hR; simp; done)
        conv => whnf
        refine Bif.knF ?_ fun h2 => ?_
        · with_reducible assumption
        conv => whnf
        refine Bif.knF ?_ fun h3 => ?_
        · with_reducible assumption
        conv => whnf
        refine ACalls.useE (edge_words _ _ _) [1] rfl (by (conv => whnf); try rfl) (by (conv => whnf); try rfl) ?_
        conv => whnf
        refine ⟨rfl, ?_⟩
        conv => whnf
        refine Bif.knF ?_ fun h4 => ?_
        · with_reducible assumption
        conv => whnf
        refine ACalls.useE (ref_words _ _ _) [] rfl (by (conv => whnf); try rfl) (by (conv => whnf); try rfl) ?_
        conv => whnf
        refine Bif.knF ?_ fun h5 => ?_
        · with_reducible assumption
        conv => whnf
        refine Bif.knF ?_ fun h6 => ?_
        · with_reducible assumption
        conv => whnf
        refine Bif.knF ?_ fun h7 => ?_
        · (clear hR; simp; done)
        conv => whnf
        (rw [e2]; exact hR (s.1 + 1, s.2.1, v, s.2.2.2) _ _ _ rfl rfl hlt (by show len - (s.1 + 1) < len - s.1; omega))
      · conv => whnf
        refine Bif.of (fun h8 => ?_) fun h8 => ?_
        · conv => whnf
          refine ACalls.code tabOk h24 Try.func24 Try.call24 ok24 ?_
          conv => whnf
          refine ACalls.code tabOk h23 Try.func23 Try.call23 ok23 ?_
          conv => whnf
          refine ⟨rfl, ?_⟩
          conv => whnf
          refine ⟨rfl, ?_⟩
          conv => whnf
          refine ⟨rfl, ?_⟩
          conv => whnf
          refine Bif.knF ?_ fun h9 => ?_
          · (clear hR; simp; done)
          conv => whnf
          refine ACalls.code tabOk h23 Try.func23 Try.call23 ok23 ?_
          conv => whnf
          refine ⟨rfl, ?_⟩
          conv => whnf
          refine ⟨rfl, ?_⟩
          conv => whnf
          refine ACalls.useE (edge_words _ _ _) [1] rfl (by (conv => whnf); try rfl) (by (conv => whnf); try rfl) ?_
          conv => whnf
          refine ⟨rfl, ?_⟩
          conv => whnf
          refine ACalls.useE (ref_words _ _ _) [] rfl (by (conv => whnf); try rfl) (by (conv => whnf); try rfl) ?_
          conv => whnf
          refine Bif.knF ?_ fun h10 => ?_
          · (clear hR; simp; done)
          conv => whnf
          (rw [e2]; exact hR (s.1 + 1, s.2.1, s.2.2.1, false) _ _ _ rfl rfl hlt (by show len - (s.1 + 1) < len - s.1; omega))
        · conv => whnf
          refine Bif.of (fun h11 => ?_) fun h11 => ?_
          · conv => whnf
            refine Req.of ?_ ?_
            · (clear hR; simp; omega)
            conv => whnf
            refine slc_ex s.1 2 hlt (by decide) (by rw [hEi]; rfl) (by first | omega | (simp; done)) ?_
            conv => whnf
            refine slc_ex s.1 3 hlt (by decide) (by rw [hEi]; rfl) (by first | omega | (simp; done)) ?_
            conv => whnf
            refine slc_ex s.1 4 hlt (by decide) (by rw [hEi]; rfl) (by first | omega | (simp; done)) ?_
            conv => whnf
            refine ACalls.useE (edge_set _ _ _ _ _ _) [1] rfl (by (conv => whnf); try rfl) (by (conv => whnf); try rfl) ?_
            conv => whnf
            rw [hk]
            conv => whnf
            refine Req.of ?_ ?_
            · (clear hR; simp; omega)
            conv => whnf
            refine slc_ex s.1 2 hlt (by decide) (by rw [hEi]; rfl) (by first | omega | (simp; done)) ?_
            conv => whnf
            refine slc_ex s.1 3 hlt (by decide) (by rw [hEi]; rfl) (by first | omega | (simp; done)) ?_
            conv => whnf
            refine slc_ex s.1 4 hlt (by decide) (by rw [hEi]; rfl) (by first | omega | (simp; done)) ?_
            conv => whnf
            refine ACalls.useE (ref_bits _ _ _) [] rfl (by (conv => whnf); try rfl) (by (conv => whnf); try rfl) ?_
            conv => whnf
            rw [hk]
            conv => whnf
            refine Req.of ?_ ?_
            · (clear hR; simp; omega)
            conv => whnf
            refine slc_ex s.1 2 hlt (by decide) (by rw [hEi]; rfl) (by first | omega | (simp; done)) ?_
            conv => whnf
            refine slc_ex s.1 3 hlt (by decide) (by rw [hEi]; rfl) (by first | omega | (simp; done)) ?_
            conv => whnf
            refine slc_ex s.1 4 hlt (by decide) (by rw [hEi]; rfl) (by first | omega | (simp; done)) ?_
            conv => whnf
            refine ACalls.useE (ref_bits _ _ _) [] rfl (by (conv => whnf); try rfl) (by (conv => whnf); try rfl) ?_
            conv => whnf
            rw [hk]
            conv => whnf
            refine ACalls.code tabOk h23 Try.func23 Try.call23 ok23 ?_
            conv => whnf
            refine ⟨rfl, ?_⟩
            conv => whnf
            refine ⟨rfl, ?_⟩
            conv => whnf
            refine Bif.knF ?_ fun h12 => ?_
            · (clear hR; simp; done)
            conv => whnf
            refine Bif.knF ?_ fun h13 => ?_
            · with_reducible assumption
            conv => whnf
            refine Bif.knF ?_ fun h14 => ?_
            · with_reducible assumption
            conv => whnf
            refine ACalls.useE (edge_words _ _ _) [1] rfl (by (conv => whnf); try rfl) (by (conv => whnf); try rfl) ?_
            conv => whnf
            refine ⟨rfl, ?_⟩
            conv => whnf
            refine Bif.knF ?_ fun h15 => ?_
            · with_reducible assumption
            conv => whnf
            refine ACalls.useE (ref_words _ _ _) [] rfl (by (conv => whnf); try rfl) (by (conv => whnf); try rfl) ?_
            conv => whnf
            refine Bif.knF ?_ fun h16 => ?_
            · with_reducible assumption
            conv => whnf
            refine Bif.knF ?_ fun h17 => ?_
            · with_reducible assumption
            conv => whnf
            refine Bif.knF ?_ fun h18 => ?_
            · (clear hR; simp; done)
            conv => whnf
            (rw [e2]; exact hR (s.1 + 1, s.2.1, s.2.2.1, s.2.2.2) _ _ _ rfl rfl hlt (by show len - (s.1 + 1) < len - s.1; omega))
          · conv => whnf
            refine Req.of ?_ ?_
            · (clear hR; simp; omega)
            conv => whnf
            refine slc_ex s.1 1 hlt (by decide) (by rw [hEi]; rfl) (by first | omega | (simp; done)) ?_
            conv => whnf
            refine ACalls.useE (edge_see _ _ _ _) [1] rfl (by (conv => whnf); try rfl) (by (conv => whnf); try rfl) ?_
            conv => whnf
            refine Req.of ?_ ?_
            · (clear hR; simp; omega)
            conv => whnf
            refine slc_ex s.1 1 hlt (by decide) (by rw [hEi]; rfl) (by first | omega | (simp; done)) ?_
            conv => whnf
            refine ACalls.useE (ref_see _ _ _ _) [] rfl (by (conv => whnf); try rfl) (by (conv => whnf); try rfl) ?_
            conv => whnf
            refine ACalls.code tabOk h23 Try.func23 Try.call23 ok23 ?_
            conv => whnf
            refine ⟨rfl, ?_⟩
            conv => whnf
            refine ⟨rfl, ?_⟩
            conv => whnf
            refine Bif.knF ?_ fun h19 => ?_
            · (clear hR; simp; done)
            conv => whnf
            refine Bif.knF ?_ fun h20 => ?_
            · with_reducible assumption
            conv => whnf
            refine Bif.knF ?_ fun h21 => ?_
            · with_reducible assumption
            conv => whnf
            refine ACalls.useE (edge_words _ _ _) [1] rfl (by (conv => whnf); try rfl) (by (conv => whnf); try rfl) ?_
            conv => whnf
            refine ⟨rfl, ?_⟩
            conv => whnf
            refine Bif.knF ?_ fun h22 => ?_
            · with_reducible assumption
            conv => whnf
            refine ACalls.useE (ref_words _ _ _) [] rfl (by (conv => whnf); try rfl) (by (conv => whnf); try rfl) ?_
            conv => whnf
            refine Bif.knF ?_ fun h23 => ?_
            · with_reducible assumption
            conv => whnf
            refine Bif.knF ?_ fun h24 => ?_
            · with_reducible assumption
            conv => whnf
            refine Bif.knF ?_ fun h25 => ?_
            · (clear hR; simp; done)
            conv => whnf
            (rw [e2]; exact hR (s.1 + 1, v, s.2.2.1, seeB s.2.1 s.2.2.1 s.2.2.2 v) _ _ _ rfl rfl hlt (by show len - (s.1 + 1) < len - s.1; omega))
  · conv => whnf
    refine ACalls.useE (awake07) [] rfl (by (conv => whnf); try rfl) (by (conv => whnf); try rfl) ?_
    conv => whnf
    refine ⟨rfl, ?_⟩
    conv => whnf
theorem walk_PortEdges_nil (high : Bool) : ACalls Try.prog 6 [.bool high, .slice none 0 0] [] fun v _ => v = .bool true := by
  refine ACalls.code tabOk h6 Try.func6 Try.call6 ok6 ?_
  conv => whnf
  refine ACalls.useE (edge_new _) [] rfl (by (conv => whnf); try rfl) (by (conv => whnf); try rfl) ?_
  conv => whnf
  refine ALoop.run 1 ?_
  conv => whnf
  refine ACalls.useE (awake07) [] rfl (by (conv => whnf); try rfl) (by (conv => whnf); try rfl) ?_
  conv => whnf
end Go.Proofs
