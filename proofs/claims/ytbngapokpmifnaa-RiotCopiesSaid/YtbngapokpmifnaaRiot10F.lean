/-
  Walks through the functions of the program, by contract.
-/
import Derived.Test.YtbngapokpmifnaaRiot9F
set_option linter.all false
set_option linter.unusedVariables false
set_option linter.unusedSimpArgs false
set_option linter.unnecessarySimpa false
namespace Go.Proofs
open Go.Aw
set_option maxRecDepth 100000
set_option maxHeartbeats 8000000
theorem ro_ex {f : Nat → Option Value} {o o' : Nat} {v : Value} {k : Value → Prop} (h : f o' = some v) (ho : o = o') (hk : k v) : ∃ v, f o = some v ∧ k v := ⟨v, by rw [ho]; exact h, hk⟩
theorem riot_new1 : ACalls Try.prog 48 [.agg (.int .u8 1 :: List.replicate 127 (.int .u8 0)).toArray] [] fun v H => ∃ L, Ram L ∧ v = .pointer (some ⟨0, 0, none⟩) ∧ H = rsHeap (rs0 L) := by
  have hR : Ram (.int .u8 1 :: List.replicate 127 (.int .u8 0)) := by
    refine ⟨by simp, fun j hj => ?_⟩
    cases j with
    | zero => exact ⟨1, rfl, by decide, by decide⟩
    | succ j => exact ⟨0, by rw [List.getElem?_cons_succ, List.getElem?_replicate, if_pos (by omega)], by decide, by decide⟩
  exact (riot_newS _ hR).imp fun v H h => ⟨_, hR, h.1, h.2⟩
theorem walk_RiotCopies_nn :
    ACalls Try.prog 13 [.slice none 0 0, .slice none 0 0] [] fun v _ => v = .bool true := by
  refine ACalls.code tabOk h13 Try.func13 Try.call13 ok13 ?_
  conv => whnf
  refine ACalls.useX (riot_new1) [] rfl (by (conv => whnf); try rfl) (by (conv => whnf); try rfl) ?_
  intro nx0 hx0
  conv => whnf
  refine renL_riot (by assumption) rfl ?_
  conv => whnf
  refine ALoop.fd (σ := Nat × {s : RS // s.Ok}) (fun (⟨i, s, _⟩ : Nat × {s : RS // s.Ok}) => [.slice none 0 0, .slice none 0 0, .chan none, .chan none, .bool false, .pointer (some ⟨0, 0, none⟩), .int .i64 i, .chan none, .chan none, .chan none, .chan none, .chan none, .chan none, .chan none, .chan none, .chan none, .chan none, .chan none, .chan none, .chan none, .chan none, .chan none, .chan none, .chan none, .chan none, .chan none, .chan none, .chan none, .chan none, .chan none, .chan none, .chan none, .chan none, .chan none, .chan none, .chan none, .chan none, .chan none, .chan none, .chan none, .chan none, .chan none, .chan none, .chan none, .chan none, .chan none, .chan none, .chan none, .chan none, .chan none, .chan none, .chan none, .chan none, .chan none, .chan none, .chan none, .chan none, .chan none, .chan none, .chan none, .chan none, .chan none, .chan none, .chan none, .chan none]) (fun (⟨i, s, _⟩ : Nat × {s : RS // s.Ok}) => [.cells (riotC s.L (.pointer (some ⟨1, 0, none⟩)) (.pointer (some ⟨2, 0, none⟩)) (.pointer (some ⟨3, 0, none⟩)) (.pointer (some ⟨4, 0, none⟩))) 110, .cells [.int .u8 s.i0, .int .u8 s.o0, .int .u8 s.w0] 97, .cells [.int .u8 s.i1, .int .u8 s.o1, .int .u8 s.w1] 97, s.tm.blk, .cells [.bool s.el, .bool s.er, .bool s.ec] 99]) (fun s => s.1 ≤ 0) (fun s => 0 - s.1) (0, ⟨rs0 nx0, rs0_ok hx0⟩) [] rfl rfl (Nat.zero_le _) ?_ ?_
  · rintro ⟨i, s, hs⟩
    refine ⟨rfl, rfl, ?_, rfl⟩
    simp only [List.all_cons, List.all_nil, Bool.and_true, Bool.and_eq_true]
    exact ⟨riotC_all hs.L (fun _ => rfl) rfl, rfl, rfl, rfl, rfl⟩
  rintro ⟨i, s, hs⟩ hi R hR
  dsimp only at hi
  dsimp only
  have e2 : i ≤ 20 → IntKind.i64.wrap ((i : Int) + 1) = ((i + 1 : Nat) : Int) := fun h => by rw [wrap64 (by omega) (by omega)]; rfl
  · obtain rfl : 0 = i := by omega
    clear hR hi e2
    conv => whnf
    refine ACalls.useE (riot_copy s hs) [0, 1, 2, 3, 4] rfl (by (conv => whnf); first | done | rfl | (refine renL_row ?_; (conv => whnf); refine renL_row ?_; (conv => whnf); first | done | rfl) | (refine renL_riot hs.L rfl ?_; (conv => whnf); first | done | rfl)) (by (conv => whnf); try rfl) ?_
    conv => whnf
    refine renL_riot hs.L rfl ?_
    conv => whnf
    refine renL_riot hs.L rfl ?_
    conv => whnf
    refine ACalls.useX (riot_words s hs) [0, 1, 2, 3, 4] rfl (by (conv => whnf); first | done | rfl | (refine renL_row ?_; (conv => whnf); refine renL_row ?_; (conv => whnf); first | done | rfl) | (refine renL_riot hs.L rfl ?_; (conv => whnf); first | done | rfl)) (by (conv => whnf); try rfl) ?_
    intro nx0 hx0
    conv => whnf
    refine renL_riot hs.L rfl ?_
    conv => whnf
    refine renL_row ?_
    conv => whnf
    refine ACalls.useX (riot_words s hs) [5, 6, 7, 8, 9] rfl (by (conv => whnf); first | done | rfl | (refine renL_row ?_; (conv => whnf); refine renL_row ?_; (conv => whnf); first | done | rfl) | (refine renL_riot hs.L rfl ?_; (conv => whnf); first | done | rfl)) (by (conv => whnf); try rfl) ?_
    intro nx1 hx1
    conv => whnf
    refine renL_riot hs.L rfl ?_
    conv => whnf
    refine renL_row ?_
    conv => whnf
    refine ACalls.useE (ref_same (wdS s) (wdS s) 142 nx1 nx0 (by decide) hx1 hx0 (fun _ _ => rfl)) [11, 10] rfl (by (conv => whnf); first | done | rfl | (refine renL_row ?_; (conv => whnf); refine renL_row ?_; (conv => whnf); first | done | rfl) | (refine renL_riot hs.L rfl ?_; (conv => whnf); first | done | rfl)) (by (conv => whnf); try rfl) ?_
    conv => whnf
    refine renL_row ?_
    conv => whnf
    refine renL_row ?_
    conv => whnf
    refine ALoop.fd (σ := Nat × {s : RS // s.Ok}) (fun (⟨i, z, _⟩ : Nat × {s : RS // s.Ok}) => let nw := nx0; [.slice none 0 0, .slice none 0 0, .chan none, .chan none, .bool false, .pointer (some ⟨0, 0, none⟩), .chan none, .pointer (some ⟨5, 0, none⟩), .slice (some ⟨10, 0, none⟩) 142 nw, .int .i64 i, .chan none, .chan none, .chan none, .chan none, .chan none, .chan none, .chan none, .chan none, .chan none, .chan none, .chan none, .chan none, .chan none, .chan none, .chan none, .chan none, .chan none, .chan none, .chan none, .chan none, .chan none, .chan none, .chan none, .chan none, .chan none, .chan none, .chan none, .chan none, .chan none, .chan none, .chan none, .chan none, .chan none, .chan none, .chan none, .chan none, .chan none, .chan none, .chan none, .chan none, .chan none, .chan none, .chan none, .chan none, .chan none, .chan none, .chan none, .chan none, .chan none, .chan none, .chan none, .chan none, .chan none, .chan none, .chan none]) (fun (⟨i, z, _⟩ : Nat × {s : RS // s.Ok}) => [.cells (riotC s.L (.pointer (some ⟨1, 0, none⟩)) (.pointer (some ⟨2, 0, none⟩)) (.pointer (some ⟨3, 0, none⟩)) (.pointer (some ⟨4, 0, none⟩))) 110, .cells [.int .u8 s.i0, .int .u8 s.o0, .int .u8 s.w0] 97, .cells [.int .u8 s.i1, .int .u8 s.o1, .int .u8 s.w1] 97, s.tm.blk, .cells [.bool s.el, .bool s.er, .bool s.ec] 99, .cells (riotC z.L (.pointer (some ⟨6, 0, none⟩)) (.pointer (some ⟨7, 0, none⟩)) (.pointer (some ⟨8, 0, none⟩)) (.pointer (some ⟨9, 0, none⟩))) 110, .cells [.int .u8 z.i0, .int .u8 z.o0, .int .u8 z.w0] 97, .cells [.int .u8 z.i1, .int .u8 z.o1, .int .u8 z.w1] 97, z.tm.blk, .cells [.bool z.el, .bool z.er, .bool z.ec] 99, .cells (rowI .i64 (wdS s) 142 nx0) 3, .cells (rowI .i64 (wdS s) 142 nx1) 3]) (fun s => s.1 ≤ 0) (fun s => 0 - s.1) (0, ⟨s, hs⟩) [] rfl rfl (Nat.zero_le _) ?_ ?_
    · rintro ⟨i, z, hz⟩
      refine ⟨rfl, rfl, ?_, rfl⟩
      simp only [List.all_cons, List.all_nil, Bool.and_true, Bool.and_eq_true]
      exact ⟨riotC_all hs.L (fun _ => rfl) rfl, rfl, rfl, rfl, rfl, riotC_all hz.L (fun _ => rfl) rfl, rfl, rfl, rfl, rfl, row_all fun _ => rfl, row_all fun _ => rfl⟩
    rintro ⟨i, z, hz⟩ hi R hR
    dsimp only at hi
    dsimp only
    have e2 : i ≤ 20 → IntKind.i64.wrap ((i : Int) + 1) = ((i + 1 : Nat) : Int) := fun h => by rw [wrap64 (by omega) (by omega)]; rfl
    · obtain rfl : 0 = i := by omega
      clear hR hi e2
      conv => whnf
      refine ACalls.useX (riot_words s hs) [0, 1, 2, 3, 4] rfl (by (conv => whnf); first | done | rfl | (refine renL_row ?_; (conv => whnf); refine renL_row ?_; (conv => whnf); first | done | rfl) | (refine renL_riot hs.L rfl ?_; (conv => whnf); first | done | rfl)) (by (conv => whnf); try rfl) ?_
      intro nx5 hx5
      conv => whnf
      refine renL_riot hs.L rfl ?_
      conv => whnf
      refine renL_row ?_
      conv => whnf
      refine ACalls.useE (ref_same (wdS s) (wdS s) 142 nx5 nx0 (by decide) hx5 hx0 (fun _ _ => rfl)) [12, 10] rfl (by (conv => whnf); first | done | rfl | (refine renL_row ?_; (conv => whnf); refine renL_row ?_; (conv => whnf); first | done | rfl) | (refine renL_riot hs.L rfl ?_; (conv => whnf); first | done | rfl)) (by (conv => whnf); try rfl) ?_
      conv => whnf
      refine renL_row ?_
      conv => whnf
      refine renL_row ?_
      conv => whnf
      refine ACalls.useE (awake08) [] rfl (by (conv => whnf); first | done | rfl | (refine renL_row ?_; (conv => whnf); refine renL_row ?_; (conv => whnf); first | done | rfl) | (refine renL_riot hs.L rfl ?_; (conv => whnf); first | done | rfl)) (by (conv => whnf); try rfl) ?_
      conv => whnf
theorem walk_RiotCopies_ns (off1 len1 cap1 : Nat) (hl1 : len1 ≤ maxLen) (E1 : Nat → List Value) (hE1 : ∀ i, i < len1 → FitsAll raKs (E1 i)) (f : Nat → Option Value) (hg : ∀ i, i < len1 → ∀ m x, (E1 i)[m]? = some x → f (off1 + i * 5 + m) = some x) :
    ACalls Try.prog 13 [.slice none 0 0, .slice (some ⟨0, off1, none⟩) len1 cap1] [.ro f] fun v _ => v = .bool true := by
  refine ACalls.code tabOk h13 Try.func13 Try.call13 ok13 ?_
  conv => whnf
  by_cases hkb : len1 ≤ 20
  rotate_left
  · refine Bif.knT ?_ fun h0 => ?_
    · (simp; omega)
    rw [h0]
    conv => whnf
    refine ⟨rfl, ?_⟩
    conv => whnf
  refine Bif.knF ?_ fun h0 => ?_
  · (simp; omega)
  rw [h0]
  conv => whnf
  refine ACalls.useX (riot_new1) [] rfl (by (conv => whnf); try rfl) (by (conv => whnf); try rfl) ?_
  intro nx1 hx1
  conv => whnf
  refine renL_riot (by assumption) rfl ?_
  conv => whnf
  refine ALoop.fd (σ := Nat × {s : RS // s.Ok}) (fun (⟨i, s, _⟩ : Nat × {s : RS // s.Ok}) => [.slice none 0 0, .slice (some ⟨0, off1, none⟩) len1 cap1, .chan none, .chan none, .bool false, .pointer (some ⟨1, 0, none⟩), .int .i64 i, .chan none, .chan none, .chan none, .chan none, .chan none, .chan none, .chan none, .chan none, .chan none, .chan none, .chan none, .chan none, .chan none, .chan none, .chan none, .chan none, .chan none, .chan none, .chan none, .chan none, .chan none, .chan none, .chan none, .chan none, .chan none, .chan none, .chan none, .chan none, .chan none, .chan none, .chan none, .chan none, .chan none, .chan none, .chan none, .chan none, .chan none, .chan none, .chan none, .chan none, .chan none, .chan none, .chan none, .chan none, .chan none, .chan none, .chan none, .chan none, .chan none, .chan none, .chan none, .chan none, .chan none, .chan none, .chan none, .chan none, .chan none, .chan none]) (fun (⟨i, s, _⟩ : Nat × {s : RS // s.Ok}) => [.ro f, .cells (riotC s.L (.pointer (some ⟨2, 0, none⟩)) (.pointer (some ⟨3, 0, none⟩)) (.pointer (some ⟨4, 0, none⟩)) (.pointer (some ⟨5, 0, none⟩))) 110, .cells [.int .u8 s.i0, .int .u8 s.o0, .int .u8 s.w0] 97, .cells [.int .u8 s.i1, .int .u8 s.o1, .int .u8 s.w1] 97, s.tm.blk, .cells [.bool s.el, .bool s.er, .bool s.ec] 99]) (fun s => s.1 ≤ 0) (fun s => 0 - s.1) (0, ⟨rs0 nx1, rs0_ok hx1⟩) [] rfl rfl (Nat.zero_le _) ?_ ?_
  · rintro ⟨i, s, hs⟩
    refine ⟨rfl, rfl, ?_, rfl⟩
    simp only [List.all_cons, List.all_nil, Bool.and_true, Bool.and_eq_true]
    exact ⟨rfl, riotC_all hs.L (fun _ => rfl) rfl, rfl, rfl, rfl, rfl⟩
  rintro ⟨i, s, hs⟩ hi R hR
  dsimp only at hi
  dsimp only
  have e2 : i ≤ 20 → IntKind.i64.wrap ((i : Int) + 1) = ((i + 1 : Nat) : Int) := fun h => by rw [wrap64 (by omega) (by omega)]; rfl
  · obtain rfl : 0 = i := by omega
    clear hR hi e2
    conv => whnf
    refine ACalls.useE (riot_copy s hs) [1, 2, 3, 4, 5] rfl (by (conv => whnf); first | done | rfl | (refine renL_row ?_; (conv => whnf); refine renL_row ?_; (conv => whnf); first | done | rfl) | (refine renL_riot hs.L rfl ?_; (conv => whnf); first | done | rfl)) (by (conv => whnf); try rfl) ?_
    conv => whnf
    refine renL_riot hs.L rfl ?_
    conv => whnf
    refine renL_riot hs.L rfl ?_
    conv => whnf
    refine ACalls.useX (riot_words s hs) [1, 2, 3, 4, 5] rfl (by (conv => whnf); first | done | rfl | (refine renL_row ?_; (conv => whnf); refine renL_row ?_; (conv => whnf); first | done | rfl) | (refine renL_riot hs.L rfl ?_; (conv => whnf); first | done | rfl)) (by (conv => whnf); try rfl) ?_
    intro nx0 hx0
    conv => whnf
    refine renL_riot hs.L rfl ?_
    conv => whnf
    refine renL_row ?_
    conv => whnf
    refine ACalls.useX (riot_words s hs) [6, 7, 8, 9, 10] rfl (by (conv => whnf); first | done | rfl | (refine renL_row ?_; (conv => whnf); refine renL_row ?_; (conv => whnf); first | done | rfl) | (refine renL_riot hs.L rfl ?_; (conv => whnf); first | done | rfl)) (by (conv => whnf); try rfl) ?_
    intro nx1 hx1
    conv => whnf
    refine renL_riot hs.L rfl ?_
    conv => whnf
    refine renL_row ?_
    conv => whnf
    refine ACalls.useE (ref_same (wdS s) (wdS s) 142 nx1 nx0 (by decide) hx1 hx0 (fun _ _ => rfl)) [12, 11] rfl (by (conv => whnf); first | done | rfl | (refine renL_row ?_; (conv => whnf); refine renL_row ?_; (conv => whnf); first | done | rfl) | (refine renL_riot hs.L rfl ?_; (conv => whnf); first | done | rfl)) (by (conv => whnf); try rfl) ?_
    conv => whnf
    refine renL_row ?_
    conv => whnf
    refine renL_row ?_
    conv => whnf
    refine ALoop.fd (σ := Nat × {s : RS // s.Ok}) (fun (⟨i, z, _⟩ : Nat × {s : RS // s.Ok}) => let nw := nx0; [.slice none 0 0, .slice (some ⟨0, off1, none⟩) len1 cap1, .chan none, .chan none, .bool false, .pointer (some ⟨1, 0, none⟩), .chan none, .pointer (some ⟨6, 0, none⟩), .slice (some ⟨11, 0, none⟩) 142 nw, .int .i64 i, .chan none, .chan none, .chan none, .chan none, .chan none, .chan none, .chan none, .chan none, .chan none, .chan none, .chan none, .chan none, .chan none, .chan none, .chan none, .chan none, .chan none, .chan none, .chan none, .chan none, .chan none, .chan none, .chan none, .chan none, .chan none, .chan none, .chan none, .chan none, .chan none, .chan none, .chan none, .chan none, .chan none, .chan none, .chan none, .chan none, .chan none, .chan none, .chan none, .chan none, .chan none, .chan none, .chan none, .chan none, .chan none, .chan none, .chan none, .chan none, .chan none, .chan none, .chan none, .chan none, .chan none, .chan none, .chan none]) (fun (⟨i, z, _⟩ : Nat × {s : RS // s.Ok}) => [.ro f, .cells (riotC s.L (.pointer (some ⟨2, 0, none⟩)) (.pointer (some ⟨3, 0, none⟩)) (.pointer (some ⟨4, 0, none⟩)) (.pointer (some ⟨5, 0, none⟩))) 110, .cells [.int .u8 s.i0, .int .u8 s.o0, .int .u8 s.w0] 97, .cells [.int .u8 s.i1, .int .u8 s.o1, .int .u8 s.w1] 97, s.tm.blk, .cells [.bool s.el, .bool s.er, .bool s.ec] 99, .cells (riotC z.L (.pointer (some ⟨7, 0, none⟩)) (.pointer (some ⟨8, 0, none⟩)) (.pointer (some ⟨9, 0, none⟩)) (.pointer (some ⟨10, 0, none⟩))) 110, .cells [.int .u8 z.i0, .int .u8 z.o0, .int .u8 z.w0] 97, .cells [.int .u8 z.i1, .int .u8 z.o1, .int .u8 z.w1] 97, z.tm.blk, .cells [.bool z.el, .bool z.er, .bool z.ec] 99, .cells (rowI .i64 (wdS s) 142 nx0) 3, .cells (rowI .i64 (wdS s) 142 nx1) 3]) (fun s => s.1 ≤ len1) (fun s => len1 - s.1) (0, ⟨s, hs⟩) [] rfl rfl (Nat.zero_le _) ?_ ?_
    · rintro ⟨i, z, hz⟩
      refine ⟨rfl, rfl, ?_, rfl⟩
      simp only [List.all_cons, List.all_nil, Bool.and_true, Bool.and_eq_true]
      exact ⟨rfl, riotC_all hs.L (fun _ => rfl) rfl, rfl, rfl, rfl, rfl, riotC_all hz.L (fun _ => rfl) rfl, rfl, rfl, rfl, rfl, row_all fun _ => rfl, row_all fun _ => rfl⟩
    rintro ⟨i, z, hz⟩ hi R hR
    dsimp only at hi
    dsimp only
    have e2 : i ≤ 20 → IntKind.i64.wrap ((i : Int) + 1) = ((i + 1 : Nat) : Int) := fun h => by rw [wrap64 (by omega) (by omega)]; rfl
    by_cases hlt : i < len1
    · obtain ⟨kd, cy, ad, v, u, hEi, b1, b2, b3, b4⟩ := ra_cells (hE1 i hlt)
      have hN := hz.act ((IntKind.i64.wrap (kd.tmod 6 + 6)).tmod 6) (cy % 300) (ad % 1024) b3 b4
      obtain ⟨s2, hs2⟩ : ∃ s2, s2 = rsDo z ((IntKind.i64.wrap (kd.tmod 6 + 6)).tmod 6) (cy % 300) (ad % 1024) v u := ⟨_, rfl⟩
      rw [← hs2] at hN
      have e3 := e2 (by omega)
      conv => whnf
      refine Bif.knT ?_ fun h0 => ?_
      · (clear hR; simp; omega)
      conv => whnf
      refine Req.of ?_ ?_
      · (clear hR; simp; omega)
      conv => whnf
      refine ro_ex (hg i hlt 0 _ (by rw [hEi]; rfl)) (by first | omega | (simp; done)) ?_
      conv => whnf
      refine ro_ex (hg i hlt 1 _ (by rw [hEi]; rfl)) (by first | omega | (simp; done)) ?_
      conv => whnf
      refine ro_ex (hg i hlt 2 _ (by rw [hEi]; rfl)) (by first | omega | (simp; done)) ?_
      conv => whnf
      refine ro_ex (hg i hlt 3 _ (by rw [hEi]; rfl)) (by first | omega | (simp; done)) ?_
      conv => whnf
      refine ro_ex (hg i hlt 4 _ (by rw [hEi]; rfl)) (by first | omega | (simp; done)) ?_
      conv => whnf
      refine ACalls.useE (didS z hz _ _ _ _ _ b1 b2 b3 b4) [6, 7, 8, 9, 10] rfl (by (conv => whnf); first | done | rfl | (refine renL_row ?_; (conv => whnf); refine renL_row ?_; (conv => whnf); first | done | rfl) | (refine renL_riot hz.L rfl ?_; (conv => whnf); first | done | rfl)) (by (conv => whnf); try rfl) ?_
      conv => whnf
      rw [← hs2]
      conv => whnf
      refine renL_riot hN.L rfl ?_
      conv => whnf
      (rw [e3]; exact hR (i + 1, ⟨s2, hN⟩) _ _ _ rfl rfl hlt (by show len1 - (i + 1) < len1 - i; omega))
    · obtain rfl : len1 = i := by omega
      clear hR hi e2 hlt
      conv => whnf
      refine Bif.knF ?_ fun h5 => ?_
      · (simp; done)
      rw [h5]
      conv => whnf
      refine ACalls.useX (riot_words s hs) [1, 2, 3, 4, 5] rfl (by (conv => whnf); first | done | rfl | (refine renL_row ?_; (conv => whnf); refine renL_row ?_; (conv => whnf); first | done | rfl) | (refine renL_riot hs.L rfl ?_; (conv => whnf); first | done | rfl)) (by (conv => whnf); try rfl) ?_
      intro nx6 hx6
      conv => whnf
      refine renL_riot hs.L rfl ?_
      conv => whnf
      refine renL_row ?_
      conv => whnf
      refine ACalls.useE (ref_same (wdS s) (wdS s) 142 nx6 nx0 (by decide) hx6 hx0 (fun _ _ => rfl)) [13, 11] rfl (by (conv => whnf); first | done | rfl | (refine renL_row ?_; (conv => whnf); refine renL_row ?_; (conv => whnf); first | done | rfl) | (refine renL_riot hs.L rfl ?_; (conv => whnf); first | done | rfl)) (by (conv => whnf); try rfl) ?_
      conv => whnf
      refine renL_row ?_
      conv => whnf
      refine renL_row ?_
      conv => whnf
      refine ACalls.useE (awake08) [] rfl (by (conv => whnf); first | done | rfl | (refine renL_row ?_; (conv => whnf); refine renL_row ?_; (conv => whnf); first | done | rfl) | (refine renL_riot hs.L rfl ?_; (conv => whnf); first | done | rfl)) (by (conv => whnf); try rfl) ?_
      conv => whnf
      refine ⟨rfl, ?_⟩
      conv => whnf
theorem walk_RiotCopies_sn (off0 len0 cap0 : Nat) (hl0 : len0 ≤ maxLen) (E0 : Nat → List Value) (hE0 : ∀ i, i < len0 → FitsAll raKs (E0 i)) (f : Nat → Option Value) (hf : ∀ i, i < len0 → ∀ m x, (E0 i)[m]? = some x → f (off0 + i * 5 + m) = some x) :
    ACalls Try.prog 13 [.slice (some ⟨0, off0, none⟩) len0 cap0, .slice none 0 0] [.ro f] fun v _ => v = .bool true := by
  refine ACalls.code tabOk h13 Try.func13 Try.call13 ok13 ?_
  conv => whnf
  by_cases hka : len0 ≤ 20
  rotate_left
  · refine Bif.knT ?_ fun h0 => ?_
    · (simp; omega)
    rw [h0]
    conv => whnf
    refine ⟨rfl, ?_⟩
    conv => whnf
  refine Bif.knF ?_ fun h0 => ?_
  · (simp; omega)
  rw [h0]
  conv => whnf
  refine ACalls.useX (riot_new1) [] rfl (by (conv => whnf); try rfl) (by (conv => whnf); try rfl) ?_
  intro nx1 hx1
  conv => whnf
  refine renL_riot (by assumption) rfl ?_
  conv => whnf
  refine ALoop.fd (σ := Nat × {s : RS // s.Ok}) (fun (⟨i, s, _⟩ : Nat × {s : RS // s.Ok}) => [.slice (some ⟨0, off0, none⟩) len0 cap0, .slice none 0 0, .chan none, .chan none, .bool false, .pointer (some ⟨1, 0, none⟩), .int .i64 i, .chan none, .chan none, .chan none, .chan none, .chan none, .chan none, .chan none, .chan none, .chan none, .chan none, .chan none, .chan none, .chan none, .chan none, .chan none, .chan none, .chan none, .chan none, .chan none, .chan none, .chan none, .chan none, .chan none, .chan none, .chan none, .chan none, .chan none, .chan none, .chan none, .chan none, .chan none, .chan none, .chan none, .chan none, .chan none, .chan none, .chan none, .chan none, .chan none, .chan none, .chan none, .chan none, .chan none, .chan none, .chan none, .chan none, .chan none, .chan none, .chan none, .chan none, .chan none, .chan none, .chan none, .chan none, .chan none, .chan none, .chan none, .chan none]) (fun (⟨i, s, _⟩ : Nat × {s : RS // s.Ok}) => [.ro f, .cells (riotC s.L (.pointer (some ⟨2, 0, none⟩)) (.pointer (some ⟨3, 0, none⟩)) (.pointer (some ⟨4, 0, none⟩)) (.pointer (some ⟨5, 0, none⟩))) 110, .cells [.int .u8 s.i0, .int .u8 s.o0, .int .u8 s.w0] 97, .cells [.int .u8 s.i1, .int .u8 s.o1, .int .u8 s.w1] 97, s.tm.blk, .cells [.bool s.el, .bool s.er, .bool s.ec] 99]) (fun s => s.1 ≤ len0) (fun s => len0 - s.1) (0, ⟨rs0 nx1, rs0_ok hx1⟩) [] rfl rfl (Nat.zero_le _) ?_ ?_
  · rintro ⟨i, s, hs⟩
    refine ⟨rfl, rfl, ?_, rfl⟩
    simp only [List.all_cons, List.all_nil, Bool.and_true, Bool.and_eq_true]
    exact ⟨rfl, riotC_all hs.L (fun _ => rfl) rfl, rfl, rfl, rfl, rfl⟩
  rintro ⟨i, s, hs⟩ hi R hR
  dsimp only at hi
  dsimp only
  have e2 : i ≤ 20 → IntKind.i64.wrap ((i : Int) + 1) = ((i + 1 : Nat) : Int) := fun h => by rw [wrap64 (by omega) (by omega)]; rfl
  by_cases hlt : i < len0
  · obtain ⟨kd, cy, ad, v, u, hEi, b1, b2, b3, b4⟩ := ra_cells (hE0 i hlt)
    have hN := hs.act ((IntKind.i64.wrap (kd.tmod 6 + 6)).tmod 6) (cy % 300) (ad % 1024) b3 b4
    obtain ⟨s2, hs2⟩ : ∃ s2, s2 = rsDo s ((IntKind.i64.wrap (kd.tmod 6 + 6)).tmod 6) (cy % 300) (ad % 1024) v u := ⟨_, rfl⟩
    rw [← hs2] at hN
    have e3 := e2 (by omega)
    conv => whnf
    refine Bif.knT ?_ fun h0 => ?_
    · (clear hR; simp; omega)
    conv => whnf
    refine Req.of ?_ ?_
    · (clear hR; simp; omega)
    conv => whnf
    refine ro_ex (hf i hlt 0 _ (by rw [hEi]; rfl)) (by first | omega | (simp; done)) ?_
    conv => whnf
    refine ro_ex (hf i hlt 1 _ (by rw [hEi]; rfl)) (by first | omega | (simp; done)) ?_
    conv => whnf
    refine ro_ex (hf i hlt 2 _ (by rw [hEi]; rfl)) (by first | omega | (simp; done)) ?_
    conv => whnf
    refine ro_ex (hf i hlt 3 _ (by rw [hEi]; rfl)) (by first | omega | (simp; done)) ?_
    conv => whnf
    refine ro_ex (hf i hlt 4 _ (by rw [hEi]; rfl)) (by first | omega | (simp; done)) ?_
    conv => whnf
    refine ACalls.useE (didS s hs _ _ _ _ _ b1 b2 b3 b4) [1, 2, 3, 4, 5] rfl (by (conv => whnf); first | done | rfl | (refine renL_row ?_; (conv => whnf); refine renL_row ?_; (conv => whnf); first | done | rfl) | (refine renL_riot hs.L rfl ?_; (conv => whnf); first | done | rfl)) (by (conv => whnf); try rfl) ?_
    conv => whnf
    rw [← hs2]
    conv => whnf
    refine renL_riot hN.L rfl ?_
    conv => whnf
    (rw [e3]; exact hR (i + 1, ⟨s2, hN⟩) _ _ _ rfl rfl hlt (by show len0 - (i + 1) < len0 - i; omega))
  · obtain rfl : len0 = i := by omega
    clear hR hi e2 hlt
    conv => whnf
    refine Bif.knF ?_ fun h0 => ?_
    · (simp; done)
    rw [h0]
    conv => whnf
    refine ACalls.useE (riot_copy s hs) [1, 2, 3, 4, 5] rfl (by (conv => whnf); first | done | rfl | (refine renL_row ?_; (conv => whnf); refine renL_row ?_; (conv => whnf); first | done | rfl) | (refine renL_riot hs.L rfl ?_; (conv => whnf); first | done | rfl)) (by (conv => whnf); try rfl) ?_
    conv => whnf
    refine renL_riot hs.L rfl ?_
    conv => whnf
    refine renL_riot hs.L rfl ?_
    conv => whnf
    refine ACalls.useX (riot_words s hs) [1, 2, 3, 4, 5] rfl (by (conv => whnf); first | done | rfl | (refine renL_row ?_; (conv => whnf); refine renL_row ?_; (conv => whnf); first | done | rfl) | (refine renL_riot hs.L rfl ?_; (conv => whnf); first | done | rfl)) (by (conv => whnf); try rfl) ?_
    intro nx1 hx1
    conv => whnf
    refine renL_riot hs.L rfl ?_
    conv => whnf
    refine renL_row ?_
    conv => whnf
    refine ACalls.useX (riot_words s hs) [6, 7, 8, 9, 10] rfl (by (conv => whnf); first | done | rfl | (refine renL_row ?_; (conv => whnf); refine renL_row ?_; (conv => whnf); first | done | rfl) | (refine renL_riot hs.L rfl ?_; (conv => whnf); first | done | rfl)) (by (conv => whnf); try rfl) ?_
    intro nx2 hx2
    conv => whnf
    refine renL_riot hs.L rfl ?_
    conv => whnf
    refine renL_row ?_
    conv => whnf
    refine ACalls.useE (ref_same (wdS s) (wdS s) 142 nx2 nx1 (by decide) hx2 hx1 (fun _ _ => rfl)) [12, 11] rfl (by (conv => whnf); first | done | rfl | (refine renL_row ?_; (conv => whnf); refine renL_row ?_; (conv => whnf); first | done | rfl) | (refine renL_riot hs.L rfl ?_; (conv => whnf); first | done | rfl)) (by (conv => whnf); try rfl) ?_
    conv => whnf
    refine renL_row ?_
    conv => whnf
    refine renL_row ?_
    conv => whnf
    refine ALoop.fd (σ := Nat × {s : RS // s.Ok}) (fun (⟨i, z, _⟩ : Nat × {s : RS // s.Ok}) => let nw := nx1; [.slice (some ⟨0, off0, none⟩) len0 cap0, .slice none 0 0, .chan none, .chan none, .bool false, .pointer (some ⟨1, 0, none⟩), .chan none, .pointer (some ⟨6, 0, none⟩), .slice (some ⟨11, 0, none⟩) 142 nw, .int .i64 i, .chan none, .chan none, .chan none, .chan none, .chan none, .chan none, .chan none, .chan none, .chan none, .chan none, .chan none, .chan none, .chan none, .chan none, .chan none, .chan none, .chan none, .chan none, .chan none, .chan none, .chan none, .chan none, .chan none, .chan none, .chan none, .chan none, .chan none, .chan none, .chan none, .chan none, .chan none, .chan none, .chan none, .chan none, .chan none, .chan none, .chan none, .chan none, .chan none, .chan none, .chan none, .chan none, .chan none, .chan none, .chan none, .chan none, .chan none, .chan none, .chan none, .chan none, .chan none, .chan none, .chan none, .chan none, .chan none]) (fun (⟨i, z, _⟩ : Nat × {s : RS // s.Ok}) => [.ro f, .cells (riotC s.L (.pointer (some ⟨2, 0, none⟩)) (.pointer (some ⟨3, 0, none⟩)) (.pointer (some ⟨4, 0, none⟩)) (.pointer (some ⟨5, 0, none⟩))) 110, .cells [.int .u8 s.i0, .int .u8 s.o0, .int .u8 s.w0] 97, .cells [.int .u8 s.i1, .int .u8 s.o1, .int .u8 s.w1] 97, s.tm.blk, .cells [.bool s.el, .bool s.er, .bool s.ec] 99, .cells (riotC z.L (.pointer (some ⟨7, 0, none⟩)) (.pointer (some ⟨8, 0, none⟩)) (.pointer (some ⟨9, 0, none⟩)) (.pointer (some ⟨10, 0, none⟩))) 110, .cells [.int .u8 z.i0, .int .u8 z.o0, .int .u8 z.w0] 97, .cells [.int .u8 z.i1, .int .u8 z.o1, .int .u8 z.w1] 97, z.tm.blk, .cells [.bool z.el, .bool z.er, .bool z.ec] 99, .cells (rowI .i64 (wdS s) 142 nx1) 3, .cells (rowI .i64 (wdS s) 142 nx2) 3]) (fun s => s.1 ≤ 0) (fun s => 0 - s.1) (0, ⟨s, hs⟩) [] rfl rfl (Nat.zero_le _) ?_ ?_
    · rintro ⟨i, z, hz⟩
      refine ⟨rfl, rfl, ?_, rfl⟩
      simp only [List.all_cons, List.all_nil, Bool.and_true, Bool.and_eq_true]
      exact ⟨rfl, riotC_all hs.L (fun _ => rfl) rfl, rfl, rfl, rfl, rfl, riotC_all hz.L (fun _ => rfl) rfl, rfl, rfl, rfl, rfl, row_all fun _ => rfl, row_all fun _ => rfl⟩
    rintro ⟨i, z, hz⟩ hi R hR
    dsimp only at hi
    dsimp only
    have e2 : i ≤ 20 → IntKind.i64.wrap ((i : Int) + 1) = ((i + 1 : Nat) : Int) := fun h => by rw [wrap64 (by omega) (by omega)]; rfl
    · obtain rfl : 0 = i := by omega
      clear hR hi e2
      conv => whnf
      refine ACalls.useX (riot_words s hs) [1, 2, 3, 4, 5] rfl (by (conv => whnf); first | done | rfl | (refine renL_row ?_; (conv => whnf); refine renL_row ?_; (conv => whnf); first | done | rfl) | (refine renL_riot hs.L rfl ?_; (conv => whnf); first | done | rfl)) (by (conv => whnf); try rfl) ?_
      intro nx5 hx5
      conv => whnf
      refine renL_riot hs.L rfl ?_
      conv => whnf
      refine renL_row ?_
      conv => whnf
      refine ACalls.useE (ref_same (wdS s) (wdS s) 142 nx5 nx1 (by decide) hx5 hx1 (fun _ _ => rfl)) [13, 11] rfl (by (conv => whnf); first | done | rfl | (refine renL_row ?_; (conv => whnf); refine renL_row ?_; (conv => whnf); first | done | rfl) | (refine renL_riot hs.L rfl ?_; (conv => whnf); first | done | rfl)) (by (conv => whnf); try rfl) ?_
      conv => whnf
      refine renL_row ?_
      conv => whnf
      refine renL_row ?_
      conv => whnf
      refine ACalls.useE (awake08) [] rfl (by (conv => whnf); first | done | rfl | (refine renL_row ?_; (conv => whnf); refine renL_row ?_; (conv => whnf); first | done | rfl) | (refine renL_riot hs.L rfl ?_; (conv => whnf); first | done | rfl)) (by (conv => whnf); try rfl) ?_
      conv => whnf
      refine ⟨rfl, ?_⟩
      conv => whnf
theorem walk_RiotCopies_ss (off0 len0 cap0 : Nat) (hl0 : len0 ≤ maxLen) (E0 : Nat → List Value) (hE0 : ∀ i, i < len0 → FitsAll raKs (E0 i)) (off1 len1 cap1 : Nat) (hl1 : len1 ≤ maxLen) (E1 : Nat → List Value) (hE1 : ∀ i, i < len1 → FitsAll raKs (E1 i)) (f : Nat → Option Value) (g : Nat → Option Value) (hf : ∀ i, i < len0 → ∀ m x, (E0 i)[m]? = some x → f (off0 + i * 5 + m) = some x) (hg : ∀ i, i < len1 → ∀ m x, (E1 i)[m]? = some x → g (off1 + i * 5 + m) = some x) :
    ACalls Try.prog 13 [.slice (some ⟨0, off0, none⟩) len0 cap0, .slice (some ⟨1, off1, none⟩) len1 cap1] [.ro f, .ro g] fun v _ => v = .bool true := by
  refine ACalls.code tabOk h13 Try.func13 Try.call13 ok13 ?_
  conv => whnf
  by_cases hka : len0 ≤ 20
  rotate_left
  · refine Bif.knT ?_ fun h0 => ?_
    · (simp; omega)
    rw [h0]
    conv => whnf
    refine ⟨rfl, ?_⟩
    conv => whnf
    refine ⟨rfl, ?_⟩
    conv => whnf
  by_cases hkb : len1 ≤ 20
  rotate_left
  · refine Bif.knF ?_ fun h0 => ?_
    · (simp; omega)
    rw [h0]
    conv => whnf
    refine Bif.knT ?_ fun h1 => ?_
    · (simp; omega)
    rw [h1]
    conv => whnf
    refine ⟨rfl, ?_⟩
    conv => whnf
    refine ⟨rfl, ?_⟩
    conv => whnf
  refine Bif.knF ?_ fun h0 => ?_
  · (simp; omega)
  rw [h0]
  conv => whnf
  refine Bif.knF ?_ fun h1 => ?_
  · (simp; omega)
  rw [h1]
  conv => whnf
  refine ACalls.useX (riot_new1) [] rfl (by (conv => whnf); try rfl) (by (conv => whnf); try rfl) ?_
  intro nx2 hx2
  conv => whnf
  refine renL_riot (by assumption) rfl ?_
  conv => whnf
  refine ALoop.fd (σ := Nat × {s : RS // s.Ok}) (fun (⟨i, s, _⟩ : Nat × {s : RS // s.Ok}) => [.slice (some ⟨0, off0, none⟩) len0 cap0, .slice (some ⟨1, off1, none⟩) len1 cap1, .chan none, .chan none, .bool false, .pointer (some ⟨2, 0, none⟩), .int .i64 i, .chan none, .chan none, .chan none, .chan none, .chan none, .chan none, .chan none, .chan none, .chan none, .chan none, .chan none, .chan none, .chan none, .chan none, .chan none, .chan none, .chan none, .chan none, .chan none, .chan none, .chan none, .chan none, .chan none, .chan none, .chan none, .chan none, .chan none, .chan none, .chan none, .chan none, .chan none, .chan none, .chan none, .chan none, .chan none, .chan none, .chan none, .chan none, .chan none, .chan none, .chan none, .chan none, .chan none, .chan none, .chan none, .chan none, .chan none, .chan none, .chan none, .chan none, .chan none, .chan none, .chan none, .chan none, .chan none, .chan none, .chan none, .chan none]) (fun (⟨i, s, _⟩ : Nat × {s : RS // s.Ok}) => [.ro f, .ro g, .cells (riotC s.L (.pointer (some ⟨3, 0, none⟩)) (.pointer (some ⟨4, 0, none⟩)) (.pointer (some ⟨5, 0, none⟩)) (.pointer (some ⟨6, 0, none⟩))) 110, .cells [.int .u8 s.i0, .int .u8 s.o0, .int .u8 s.w0] 97, .cells [.int .u8 s.i1, .int .u8 s.o1, .int .u8 s.w1] 97, s.tm.blk, .cells [.bool s.el, .bool s.er, .bool s.ec] 99]) (fun s => s.1 ≤ len0) (fun s => len0 - s.1) (0, ⟨rs0 nx2, rs0_ok hx2⟩) [] rfl rfl (Nat.zero_le _) ?_ ?_
  · rintro ⟨i, s, hs⟩
    refine ⟨rfl, rfl, ?_, rfl⟩
    simp only [List.all_cons, List.all_nil, Bool.and_true, Bool.and_eq_true]
    exact ⟨rfl, rfl, riotC_all hs.L (fun _ => rfl) rfl, rfl, rfl, rfl, rfl⟩
  rintro ⟨i, s, hs⟩ hi R hR
  dsimp only at hi
  dsimp only
  have e2 : i ≤ 20 → IntKind.i64.wrap ((i : Int) + 1) = ((i + 1 : Nat) : Int) := fun h => by rw [wrap64 (by omega) (by omega)]; rfl
  by_cases hlt : i < len0
  · obtain ⟨kd, cy, ad, v, u, hEi, b1, b2, b3, b4⟩ := ra_cells (hE0 i hlt)
    have hN := hs.act ((IntKind.i64.wrap (kd.tmod 6 + 6)).tmod 6) (cy % 300) (ad % 1024) b3 b4
    obtain ⟨s2, hs2⟩ : ∃ s2, s2 = rsDo s ((IntKind.i64.wrap (kd.tmod 6 + 6)).tmod 6) (cy % 300) (ad % 1024) v u := ⟨_, rfl⟩
    rw [← hs2] at hN
    have e3 := e2 (by omega)
    conv => whnf
    refine Bif.knT ?_ fun h0 => ?_
    · (clear hR; simp; omega)
    conv => whnf
    refine Req.of ?_ ?_
    · (clear hR; simp; omega)
    conv => whnf
    refine ro_ex (hf i hlt 0 _ (by rw [hEi]; rfl)) (by first | omega | (simp; done)) ?_
    conv => whnf
    refine ro_ex (hf i hlt 1 _ (by rw [hEi]; rfl)) (by first | omega | (simp; done)) ?_
    conv => whnf
    refine ro_ex (hf i hlt 2 _ (by rw [hEi]; rfl)) (by first | omega | (simp; done)) ?_
    conv => whnf
    refine ro_ex (hf i hlt 3 _ (by rw [hEi]; rfl)) (by first | omega | (simp; done)) ?_
    conv => whnf
    refine ro_ex (hf i hlt 4 _ (by rw [hEi]; rfl)) (by first | omega | (simp; done)) ?_
    conv => whnf
    refine ACalls.useE (didS s hs _ _ _ _ _ b1 b2 b3 b4) [2, 3, 4, 5, 6] rfl (by (conv => whnf); first | done | rfl | (refine renL_row ?_; (conv => whnf); refine renL_row ?_; (conv => whnf); first | done | rfl) | (refine renL_riot hs.L rfl ?_; (conv => whnf); first | done | rfl)) (by (conv => whnf); try rfl) ?_
    conv => whnf
    rw [← hs2]
    conv => whnf
    refine renL_riot hN.L rfl ?_
    conv => whnf
    (rw [e3]; exact hR (i + 1, ⟨s2, hN⟩) _ _ _ rfl rfl hlt (by show len0 - (i + 1) < len0 - i; omega))
  · obtain rfl : len0 = i := by omega
    clear hR hi e2 hlt
    conv => whnf
    refine Bif.knF ?_ fun h0 => ?_
    · (simp; done)
    rw [h0]
    conv => whnf
    refine ACalls.useE (riot_copy s hs) [2, 3, 4, 5, 6] rfl (by (conv => whnf); first | done | rfl | (refine renL_row ?_; (conv => whnf); refine renL_row ?_; (conv => whnf); first | done | rfl) | (refine renL_riot hs.L rfl ?_; (conv => whnf); first | done | rfl)) (by (conv => whnf); try rfl) ?_
    conv => whnf
    refine renL_riot hs.L rfl ?_
    conv => whnf
    refine renL_riot hs.L rfl ?_
    conv => whnf
    refine ACalls.useX (riot_words s hs) [2, 3, 4, 5, 6] rfl (by (conv => whnf); first | done | rfl | (refine renL_row ?_; (conv => whnf); refine renL_row ?_; (conv => whnf); first | done | rfl) | (refine renL_riot hs.L rfl ?_; (conv => whnf); first | done | rfl)) (by (conv => whnf); try rfl) ?_
    intro nx1 hx1
    conv => whnf
    refine renL_riot hs.L rfl ?_
    conv => whnf
    refine renL_row ?_
    conv => whnf
    refine ACalls.useX (riot_words s hs) [7, 8, 9, 10, 11] rfl (by (conv => whnf); first | done | rfl | (refine renL_row ?_; (conv => whnf); refine renL_row ?_; (conv => whnf); first | done | rfl) | (refine renL_riot hs.L rfl ?_; (conv => whnf); first | done | rfl)) (by (conv => whnf); try rfl) ?_
    intro nx2 hx2
    conv => whnf
    refine renL_riot hs.L rfl ?_
    conv => whnf
    refine renL_row ?_
    conv => whnf
    refine ACalls.useE (ref_same (wdS s) (wdS s) 142 nx2 nx1 (by decide) hx2 hx1 (fun _ _ => rfl)) [13, 12] rfl (by (conv => whnf); first | done | rfl | (refine renL_row ?_; (conv => whnf); refine renL_row ?_; (conv => whnf); first | done | rfl) | (refine renL_riot hs.L rfl ?_; (conv => whnf); first | done | rfl)) (by (conv => whnf); try rfl) ?_
    conv => whnf
    refine renL_row ?_
    conv => whnf
    refine renL_row ?_
    conv => whnf
    refine ALoop.fd (σ := Nat × {s : RS // s.Ok}) (fun (⟨i, z, _⟩ : Nat × {s : RS // s.Ok}) => let nw := nx1; [.slice (some ⟨0, off0, none⟩) len0 cap0, .slice (some ⟨1, off1, none⟩) len1 cap1, .chan none, .chan none, .bool false, .pointer (some ⟨2, 0, none⟩), .chan none, .pointer (some ⟨7, 0, none⟩), .slice (some ⟨12, 0, none⟩) 142 nw, .int .i64 i, .chan none, .chan none, .chan none, .chan none, .chan none, .chan none, .chan none, .chan none, .chan none, .chan none, .chan none, .chan none, .chan none, .chan none, .chan none, .chan none, .chan none, .chan none, .chan none, .chan none, .chan none, .chan none, .chan none, .chan none, .chan none, .chan none, .chan none, .chan none, .chan none, .chan none, .chan none, .chan none, .chan none, .chan none, .chan none, .chan none, .chan none, .chan none, .chan none, .chan none, .chan none, .chan none, .chan none, .chan none, .chan none, .chan none, .chan none, .chan none, .chan none, .chan none, .chan none, .chan none, .chan none, .chan none, .chan none]) (fun (⟨i, z, _⟩ : Nat × {s : RS // s.Ok}) => [.ro f, .ro g, .cells (riotC s.L (.pointer (some ⟨3, 0, none⟩)) (.pointer (some ⟨4, 0, none⟩)) (.pointer (some ⟨5, 0, none⟩)) (.pointer (some ⟨6, 0, none⟩))) 110, .cells [.int .u8 s.i0, .int .u8 s.o0, .int .u8 s.w0] 97, .cells [.int .u8 s.i1, .int .u8 s.o1, .int .u8 s.w1] 97, s.tm.blk, .cells [.bool s.el, .bool s.er, .bool s.ec] 99, .cells (riotC z.L (.pointer (some ⟨8, 0, none⟩)) (.pointer (some ⟨9, 0, none⟩)) (.pointer (some ⟨10, 0, none⟩)) (.pointer (some ⟨11, 0, none⟩))) 110, .cells [.int .u8 z.i0, .int .u8 z.o0, .int .u8 z.w0] 97, .cells [.int .u8 z.i1, .int .u8 z.o1, .int .u8 z.w1] 97, z.tm.blk, .cells [.bool z.el, .bool z.er, .bool z.ec] 99, .cells (rowI .i64 (wdS s) 142 nx1) 3, .cells (rowI .i64 (wdS s) 142 nx2) 3]) (fun s => s.1 ≤ len1) (fun s => len1 - s.1) (0, ⟨s, hs⟩) [] rfl rfl (Nat.zero_le _) ?_ ?_
    · rintro ⟨i, z, hz⟩
      refine ⟨rfl, rfl, ?_, rfl⟩
      simp only [List.all_cons, List.all_nil, Bool.and_true, Bool.and_eq_true]
      exact ⟨rfl, rfl, riotC_all hs.L (fun _ => rfl) rfl, rfl, rfl, rfl, rfl, riotC_all hz.L (fun _ => rfl) rfl, rfl, rfl, rfl, rfl, row_all fun _ => rfl, row_all fun _ => rfl⟩
    rintro ⟨i, z, hz⟩ hi R hR
    dsimp only at hi
    dsimp only
    have e2 : i ≤ 20 → IntKind.i64.wrap ((i : Int) + 1) = ((i + 1 : Nat) : Int) := fun h => by rw [wrap64 (by omega) (by omega)]; rfl
    by_cases hlt : i < len1
    · obtain ⟨kd, cy, ad, v, u, hEi, b1, b2, b3, b4⟩ := ra_cells (hE1 i hlt)
      have hN := hz.act ((IntKind.i64.wrap (kd.tmod 6 + 6)).tmod 6) (cy % 300) (ad % 1024) b3 b4
      obtain ⟨s2, hs2⟩ : ∃ s2, s2 = rsDo z ((IntKind.i64.wrap (kd.tmod 6 + 6)).tmod 6) (cy % 300) (ad % 1024) v u := ⟨_, rfl⟩
      rw [← hs2] at hN
      have e3 := e2 (by omega)
      conv => whnf
      refine Bif.knT ?_ fun h0 => ?_
      · (clear hR; simp; omega)
      conv => whnf
      refine Req.of ?_ ?_
      · (clear hR; simp; omega)
      conv => whnf
      refine ro_ex (hg i hlt 0 _ (by rw [hEi]; rfl)) (by first | omega | (simp; done)) ?_
      conv => whnf
      refine ro_ex (hg i hlt 1 _ (by rw [hEi]; rfl)) (by first | omega | (simp; done)) ?_
      conv => whnf
      refine ro_ex (hg i hlt 2 _ (by rw [hEi]; rfl)) (by first | omega | (simp; done)) ?_
      conv => whnf
      refine ro_ex (hg i hlt 3 _ (by rw [hEi]; rfl)) (by first | omega | (simp; done)) ?_
      conv => whnf
      refine ro_ex (hg i hlt 4 _ (by rw [hEi]; rfl)) (by first | omega | (simp; done)) ?_
      conv => whnf
      refine ACalls.useE (didS z hz _ _ _ _ _ b1 b2 b3 b4) [7, 8, 9, 10, 11] rfl (by (conv => whnf); first | done | rfl | (refine renL_row ?_; (conv => whnf); refine renL_row ?_; (conv => whnf); first | done | rfl) | (refine renL_riot hz.L rfl ?_; (conv => whnf); first | done | rfl)) (by (conv => whnf); try rfl) ?_
      conv => whnf
      rw [← hs2]
      conv => whnf
      refine renL_riot hN.L rfl ?_
      conv => whnf
      (rw [e3]; exact hR (i + 1, ⟨s2, hN⟩) _ _ _ rfl rfl hlt (by show len1 - (i + 1) < len1 - i; omega))
    · obtain rfl : len1 = i := by omega
      clear hR hi e2 hlt
      conv => whnf
      refine Bif.knF ?_ fun h5 => ?_
      · (simp; done)
      rw [h5]
      conv => whnf
      refine ACalls.useX (riot_words s hs) [2, 3, 4, 5, 6] rfl (by (conv => whnf); first | done | rfl | (refine renL_row ?_; (conv => whnf); refine renL_row ?_; (conv => whnf); first | done | rfl) | (refine renL_riot hs.L rfl ?_; (conv => whnf); first | done | rfl)) (by (conv => whnf); try rfl) ?_
      intro nx6 hx6
      conv => whnf
      refine renL_riot hs.L rfl ?_
      conv => whnf
      refine renL_row ?_
      conv => whnf
      refine ACalls.useE (ref_same (wdS s) (wdS s) 142 nx6 nx1 (by decide) hx6 hx1 (fun _ _ => rfl)) [14, 12] rfl (by (conv => whnf); first | done | rfl | (refine renL_row ?_; (conv => whnf); refine renL_row ?_; (conv => whnf); first | done | rfl) | (refine renL_riot hs.L rfl ?_; (conv => whnf); first | done | rfl)) (by (conv => whnf); try rfl) ?_
      conv => whnf
      refine renL_row ?_
      conv => whnf
      refine renL_row ?_
      conv => whnf
      refine ACalls.useE (awake08) [] rfl (by (conv => whnf); first | done | rfl | (refine renL_row ?_; (conv => whnf); refine renL_row ?_; (conv => whnf); first | done | rfl) | (refine renL_riot hs.L rfl ?_; (conv => whnf); first | done | rfl)) (by (conv => whnf); try rfl) ?_
      conv => whnf
      refine ⟨rfl, ?_⟩
      conv => whnf
      refine ⟨rfl, ?_⟩
      conv => whnf
theorem walk_RiotCopies_sb (off0 len0 cap0 : Nat) (hl0 : len0 ≤ maxLen) (E0 : Nat → List Value) (hE0 : ∀ i, i < len0 → FitsAll raKs (E0 i)) (off1 len1 cap1 : Nat) (hl1 : len1 ≤ maxLen) (E1 : Nat → List Value) (hE1 : ∀ i, i < len1 → FitsAll raKs (E1 i)) (f : Nat → Option Value) (hf : ∀ i, i < len0 → ∀ m x, (E0 i)[m]? = some x → f (off0 + i * 5 + m) = some x) (hg : ∀ i, i < len1 → ∀ m x, (E1 i)[m]? = some x → f (off1 + i * 5 + m) = some x) :
    ACalls Try.prog 13 [.slice (some ⟨0, off0, none⟩) len0 cap0, .slice (some ⟨0, off1, none⟩) len1 cap1] [.ro f] fun v _ => v = .bool true := by
  refine ACalls.code tabOk h13 Try.func13 Try.call13 ok13 ?_
  conv => whnf
  by_cases hka : len0 ≤ 20
  rotate_left
  · refine Bif.knT ?_ fun h0 => ?_
    · (simp; omega)
    rw [h0]
    conv => whnf
    refine ⟨rfl, ?_⟩
    conv => whnf
  by_cases hkb : len1 ≤ 20
  rotate_left
  · refine Bif.knF ?_ fun h0 => ?_
    · (simp; omega)
    rw [h0]
    conv => whnf
    refine Bif.knT ?_ fun h1 => ?_
    · (simp; omega)
    rw [h1]
    conv => whnf
    refine ⟨rfl, ?_⟩
    conv => whnf
  refine Bif.knF ?_ fun h0 => ?_
  · (simp; omega)
  rw [h0]
  conv => whnf
  refine Bif.knF ?_ fun h1 => ?_
  · (simp; omega)
  rw [h1]
  conv => whnf
  refine ACalls.useX (riot_new1) [] rfl (by (conv => whnf); try rfl) (by (conv => whnf); try rfl) ?_
  intro nx2 hx2
  conv => whnf
  refine renL_riot (by assumption) rfl ?_
  conv => whnf
  refine ALoop.fd (σ := Nat × {s : RS // s.Ok}) (fun (⟨i, s, _⟩ : Nat × {s : RS // s.Ok}) => [.slice (some ⟨0, off0, none⟩) len0 cap0, .slice (some ⟨0, off1, none⟩) len1 cap1, .chan none, .chan none, .bool false, .pointer (some ⟨1, 0, none⟩), .int .i64 i, .chan none, .chan none, .chan none, .chan none, .chan none, .chan none, .chan none, .chan none, .chan none, .chan none, .chan none, .chan none, .chan none, .chan none, .chan none, .chan none, .chan none, .chan none, .chan none, .chan none, .chan none, .chan none, .chan none, .chan none, .chan none, .chan none, .chan none, .chan none, .chan none, .chan none, .chan none, .chan none, .chan none, .chan none, .chan none, .chan none, .chan none, .chan none, .chan none, .chan none, .chan none, .chan none, .chan none, .chan none, .chan none, .chan none, .chan none, .chan none, .chan none, .chan none, .chan none, .chan none, .chan none, .chan none, .chan none, .chan none, .chan none, .chan none]) (fun (⟨i, s, _⟩ : Nat × {s : RS // s.Ok}) => [.ro f, .cells (riotC s.L (.pointer (some ⟨2, 0, none⟩)) (.pointer (some ⟨3, 0, none⟩)) (.pointer (some ⟨4, 0, none⟩)) (.pointer (some ⟨5, 0, none⟩))) 110, .cells [.int .u8 s.i0, .int .u8 s.o0, .int .u8 s.w0] 97, .cells [.int .u8 s.i1, .int .u8 s.o1, .int .u8 s.w1] 97, s.tm.blk, .cells [.bool s.el, .bool s.er, .bool s.ec] 99]) (fun s => s.1 ≤ len0) (fun s => len0 - s.1) (0, ⟨rs0 nx2, rs0_ok hx2⟩) [] rfl rfl (Nat.zero_le _) ?_ ?_
  · rintro ⟨i, s, hs⟩
    refine ⟨rfl, rfl, ?_, rfl⟩
    simp only [List.all_cons, List.all_nil, Bool.and_true, Bool.and_eq_true]
    exact ⟨rfl, riotC_all hs.L (fun _ => rfl) rfl, rfl, rfl, rfl, rfl⟩
  rintro ⟨i, s, hs⟩ hi R hR
  dsimp only at hi
  dsimp only
  have e2 : i ≤ 20 → IntKind.i64.wrap ((i : Int) + 1) = ((i + 1 : Nat) : Int) := fun h => by rw [wrap64 (by omega) (by omega)]; rfl
  by_cases hlt : i < len0
  · obtain ⟨kd, cy, ad, v, u, hEi, b1, b2, b3, b4⟩ := ra_cells (hE0 i hlt)
    have hN := hs.act ((IntKind.i64.wrap (kd.tmod 6 + 6)).tmod 6) (cy % 300) (ad % 1024) b3 b4
    obtain ⟨s2, hs2⟩ : ∃ s2, s2 = rsDo s ((IntKind.i64.wrap (kd.tmod 6 + 6)).tmod 6) (cy % 300) (ad % 1024) v u := ⟨_, rfl⟩
    rw [← hs2] at hN
    have e3 := e2 (by omega)
    conv => whnf
    refine Bif.knT ?_ fun h0 => ?_
    · (clear hR; simp; omega)
    conv => whnf
    refine Req.of ?_ ?_
    · (clear hR; simp; omega)
    conv => whnf
    refine ro_ex (hf i hlt 0 _ (by rw [hEi]; rfl)) (by first | omega | (simp; done)) ?_
    conv => whnf
    refine ro_ex (hf i hlt 1 _ (by rw [hEi]; rfl)) (by first | omega | (simp; done)) ?_
    conv => whnf
    refine ro_ex (hf i hlt 2 _ (by rw [hEi]; rfl)) (by first | omega | (simp; done)) ?_
    conv => whnf
    refine ro_ex (hf i hlt 3 _ (by rw [hEi]; rfl)) (by first | omega | (simp; done)) ?_
    conv => whnf
    refine ro_ex (hf i hlt 4 _ (by rw [hEi]; rfl)) (by first | omega | (simp; done)) ?_
    conv => whnf
    refine ACalls.useE (didS s hs _ _ _ _ _ b1 b2 b3 b4) [1, 2, 3, 4, 5] rfl (by (conv => whnf); first | done | rfl | (refine renL_row ?_; (conv => whnf); refine renL_row ?_; (conv => whnf); first | done | rfl) | (refine renL_riot hs.L rfl ?_; (conv => whnf); first | done | rfl)) (by (conv => whnf); try rfl) ?_
    conv => whnf
    rw [← hs2]
    conv => whnf
    refine renL_riot hN.L rfl ?_
    conv => whnf
    (rw [e3]; exact hR (i + 1, ⟨s2, hN⟩) _ _ _ rfl rfl hlt (by show len0 - (i + 1) < len0 - i; omega))
  · obtain rfl : len0 = i := by omega
    clear hR hi e2 hlt
    conv => whnf
    refine Bif.knF ?_ fun h0 => ?_
    · (simp; done)
    rw [h0]
    conv => whnf
    refine ACalls.useE (riot_copy s hs) [1, 2, 3, 4, 5] rfl (by (conv => whnf); first | done | rfl | (refine renL_row ?_; (conv => whnf); refine renL_row ?_; (conv => whnf); first | done | rfl) | (refine renL_riot hs.L rfl ?_; (conv => whnf); first | done | rfl)) (by (conv => whnf); try rfl) ?_
    conv => whnf
    refine renL_riot hs.L rfl ?_
    conv => whnf
    refine renL_riot hs.L rfl ?_
    conv => whnf
    refine ACalls.useX (riot_words s hs) [1, 2, 3, 4, 5] rfl (by (conv => whnf); first | done | rfl | (refine renL_row ?_; (conv => whnf); refine renL_row ?_; (conv => whnf); first | done | rfl) | (refine renL_riot hs.L rfl ?_; (conv => whnf); first | done | rfl)) (by (conv => whnf); try rfl) ?_
    intro nx1 hx1
    conv => whnf
    refine renL_riot hs.L rfl ?_
    conv => whnf
    refine renL_row ?_
    conv => whnf
    refine ACalls.useX (riot_words s hs) [6, 7, 8, 9, 10] rfl (by (conv => whnf); first | done | rfl | (refine renL_row ?_; (conv => whnf); refine renL_row ?_; (conv => whnf); first | done | rfl) | (refine renL_riot hs.L rfl ?_; (conv => whnf); first | done | rfl)) (by (conv => whnf); try rfl) ?_
    intro nx2 hx2
    conv => whnf
    refine renL_riot hs.L rfl ?_
    conv => whnf
    refine renL_row ?_
    conv => whnf
    refine ACalls.useE (ref_same (wdS s) (wdS s) 142 nx2 nx1 (by decide) hx2 hx1 (fun _ _ => rfl)) [12, 11] rfl (by (conv => whnf); first | done | rfl | (refine renL_row ?_; (conv => whnf); refine renL_row ?_; (conv => whnf); first | done | rfl) | (refine renL_riot hs.L rfl ?_; (conv => whnf); first | done | rfl)) (by (conv => whnf); try rfl) ?_
    conv => whnf
    refine renL_row ?_
    conv => whnf
    refine renL_row ?_
    conv => whnf
    refine ALoop.fd (σ := Nat × {s : RS // s.Ok}) (fun (⟨i, z, _⟩ : Nat × {s : RS // s.Ok}) => let nw := nx1; [.slice (some ⟨0, off0, none⟩) len0 cap0, .slice (some ⟨0, off1, none⟩) len1 cap1, .chan none, .chan none, .bool false, .pointer (some ⟨1, 0, none⟩), .chan none, .pointer (some ⟨6, 0, none⟩), .slice (some ⟨11, 0, none⟩) 142 nw, .int .i64 i, .chan none, .chan none, .chan none, .chan none, .chan none, .chan none, .chan none, .chan none, .chan none, .chan none, .chan none, .chan none, .chan none, .chan none, .chan none, .chan none, .chan none, .chan none, .chan none, .chan none, .chan none, .chan none, .chan none, .chan none, .chan none, .chan none, .chan none, .chan none, .chan none, .chan none, .chan none, .chan none, .chan none, .chan none, .chan none, .chan none, .chan none, .chan none, .chan none, .chan none, .chan none, .chan none, .chan none, .chan none, .chan none, .chan none, .chan none, .chan none, .chan none, .chan none, .chan none, .chan none, .chan none, .chan none, .chan none]) (fun (⟨i, z, _⟩ : Nat × {s : RS // s.Ok}) => [.ro f, .cells (riotC s.L (.pointer (some ⟨2, 0, none⟩)) (.pointer (some ⟨3, 0, none⟩)) (.pointer (some ⟨4, 0, none⟩)) (.pointer (some ⟨5, 0, none⟩))) 110, .cells [.int .u8 s.i0, .int .u8 s.o0, .int .u8 s.w0] 97, .cells [.int .u8 s.i1, .int .u8 s.o1, .int .u8 s.w1] 97, s.tm.blk, .cells [.bool s.el, .bool s.er, .bool s.ec] 99, .cells (riotC z.L (.pointer (some ⟨7, 0, none⟩)) (.pointer (some ⟨8, 0, none⟩)) (.pointer (some ⟨9, 0, none⟩)) (.pointer (some ⟨10, 0, none⟩))) 110, .cells [.int .u8 z.i0, .int .u8 z.o0, .int .u8 z.w0] 97, .cells [.int .u8 z.i1, .int .u8 z.o1, .int .u8 z.w1] 97, z.tm.blk, .cells [.bool z.el, .bool z.er, .bool z.ec] 99, .cells (rowI .i64 (wdS s) 142 nx1) 3, .cells (rowI .i64 (wdS s) 142 nx2) 3]) (fun s => s.1 ≤ len1) (fun s => len1 - s.1) (0, ⟨s, hs⟩) [] rfl rfl (Nat.zero_le _) ?_ ?_
    · rintro ⟨i, z, hz⟩
      refine ⟨rfl, rfl, ?_, rfl⟩
      simp only [List.all_cons, List.all_nil, Bool.and_true, Bool.and_eq_true]
      exact ⟨rfl, riotC_all hs.L (fun _ => rfl) rfl, rfl, rfl, rfl, rfl, riotC_all hz.L (fun _ => rfl) rfl, rfl, rfl, rfl, rfl, row_all fun _ => rfl, row_all fun _ => rfl⟩
    rintro ⟨i, z, hz⟩ hi R hR
    dsimp only at hi
    dsimp only
    have e2 : i ≤ 20 → IntKind.i64.wrap ((i : Int) + 1) = ((i + 1 : Nat) : Int) := fun h => by rw [wrap64 (by omega) (by omega)]; rfl
    by_cases hlt : i < len1
    · obtain ⟨kd, cy, ad, v, u, hEi, b1, b2, b3, b4⟩ := ra_cells (hE1 i hlt)
      have hN := hz.act ((IntKind.i64.wrap (kd.tmod 6 + 6)).tmod 6) (cy % 300) (ad % 1024) b3 b4
      obtain ⟨s2, hs2⟩ : ∃ s2, s2 = rsDo z ((IntKind.i64.wrap (kd.tmod 6 + 6)).tmod 6) (cy % 300) (ad % 1024) v u := ⟨_, rfl⟩
      rw [← hs2] at hN
      have e3 := e2 (by omega)
      conv => whnf
      refine Bif.knT ?_ fun h0 => ?_
      · (clear hR; simp; omega)
      conv => whnf
      refine Req.of ?_ ?_
      · (clear hR; simp; omega)
      conv => whnf
      refine ro_ex (hg i hlt 0 _ (by rw [hEi]; rfl)) (by first | omega | (simp; done)) ?_
      conv => whnf
      refine ro_ex (hg i hlt 1 _ (by rw [hEi]; rfl)) (by first | omega | (simp; done)) ?_
      conv => whnf
      refine ro_ex (hg i hlt 2 _ (by rw [hEi]; rfl)) (by first | omega | (simp; done)) ?_
      conv => whnf
      refine ro_ex (hg i hlt 3 _ (by rw [hEi]; rfl)) (by first | omega | (simp; done)) ?_
      conv => whnf
      refine ro_ex (hg i hlt 4 _ (by rw [hEi]; rfl)) (by first | omega | (simp; done)) ?_
      conv => whnf
      refine ACalls.useE (didS z hz _ _ _ _ _ b1 b2 b3 b4) [6, 7, 8, 9, 10] rfl (by (conv => whnf); first | done | rfl | (refine renL_row ?_; (conv => whnf); refine renL_row ?_; (conv => whnf); first | done | rfl) | (refine renL_riot hz.L rfl ?_; (conv => whnf); first | done | rfl)) (by (conv => whnf); try rfl) ?_
      conv => whnf
      rw [← hs2]
      conv => whnf
      refine renL_riot hN.L rfl ?_
      conv => whnf
      (rw [e3]; exact hR (i + 1, ⟨s2, hN⟩) _ _ _ rfl rfl hlt (by show len1 - (i + 1) < len1 - i; omega))
    · obtain rfl : len1 = i := by omega
      clear hR hi e2 hlt
      conv => whnf
      refine Bif.knF ?_ fun h5 => ?_
      · (simp; done)
      rw [h5]
      conv => whnf
      refine ACalls.useX (riot_words s hs) [1, 2, 3, 4, 5] rfl (by (conv => whnf); first | done | rfl | (refine renL_row ?_; (conv => whnf); refine renL_row ?_; (conv => whnf); first | done | rfl) | (refine renL_riot hs.L rfl ?_; (conv => whnf); first | done | rfl)) (by (conv => whnf); try rfl) ?_
      intro nx6 hx6
      conv => whnf
      refine renL_riot hs.L rfl ?_
      conv => whnf
      refine renL_row ?_
      conv => whnf
      refine ACalls.useE (ref_same (wdS s) (wdS s) 142 nx6 nx1 (by decide) hx6 hx1 (fun _ _ => rfl)) [13, 11] rfl (by (conv => whnf); first | done | rfl | (refine renL_row ?_; (conv => whnf); refine renL_row ?_; (conv => whnf); first | done | rfl) | (refine renL_riot hs.L rfl ?_; (conv => whnf); first | done | rfl)) (by (conv => whnf); try rfl) ?_
      conv => whnf
      refine renL_row ?_
      conv => whnf
      refine renL_row ?_
      conv => whnf
      refine ACalls.useE (awake08) [] rfl (by (conv => whnf); first | done | rfl | (refine renL_row ?_; (conv => whnf); refine renL_row ?_; (conv => whnf); first | done | rfl) | (refine renL_riot hs.L rfl ?_; (conv => whnf); first | done | rfl)) (by (conv => whnf); try rfl) ?_
      conv => whnf
      refine ⟨rfl, ?_⟩
      conv => whnf
end Go.Proofs
