/-
  Walks through the functions of the program, by contract.
-/
import Derived.Test.YtbngapokpmifnaaRteF
import Derived.Test.YtbngapokpmifnaaRiot9F
set_option linter.all false
set_option linter.unusedVariables false
set_option linter.unusedSimpArgs false
set_option linter.unnecessarySimpa false
namespace Go.Proofs
open Go.Aw
set_option maxRecDepth 100000
set_option maxHeartbeats 8000000
theorem ro_exA {f : Nat → Option Value} {o o' : Nat} {v : Value} {k : Value → Prop} (h : f o' = some v) (ho : o = o') (hk : k v) : ∃ v, f o = some v ∧ k v := ⟨v, by rw [ho]; exact h, hk⟩
theorem rt0_tm : rt0.tm = ⟨255, 1024, 1, false, false⟩ := by
  simp [RT.tm, rt0, RT.val, RT.left, RT.fast, RT.turn]
theorem eqRow_self {L : List Value} (h : Ram L) : eqRow L L = true := by
  unfold eqRow
  have key : ∀ l : List Value, (∀ v ∈ l, ∃ x : Int, v = .int .u8 x) → eqInts l l = true := by
    intro l
    induction l with
    | nil => intro _; rfl
    | cons v l ih =>
      intro hl
      obtain ⟨x, rfl⟩ := hl v (List.mem_cons_self ..)
      unfold eqInts
      rw [ih fun v hv => hl v (List.mem_cons_of_mem _ hv)]
      simp
  refine key L fun v hv => ?_
  obtain ⟨i, hi⟩ := List.mem_iff_getElem?.1 hv
  have hl : i < 128 := by have := (List.getElem?_eq_some_iff.1 hi).1; rwa [h.len] at this
  rw [h.at hl] at hi
  cases hi; exact ⟨_, rfl⟩
theorem riot_ram (s : RS) (hs : s.Ok) : ACalls Try.prog 55 [.pointer (some ⟨0, 0, none⟩)] (rsHeap s) fun v H => v = .agg s.L.toArray ∧ H = rsHeap s := by
  have hL := hs.L
  refine ACalls.code tabOk h55 Try.func55 Try.call55 ok55 ?_
  conv => whnf
  refine dropF_zero ?_
  conv => whnf
  refine takeF_rr hL rfl ?_
  conv => whnf
  refine Req.of ?_ ?_
  · (show (Nat.beq s.L.length 128 && s.L.all one) = true; rw [hL.len, hL.all fun _ => rfl]; rfl)
  conv => whnf
  refine putF_whole_ram hL rfl ?_
  conv => whnf
  refine dropF_zero ?_
  conv => whnf
  refine takeF_ram hL rfl ?_
  conv => whnf
  refine Req.of ?_ ?_
  · exact hL.all fun _ => rfl
  conv => whnf
  refine Req.of ?_ ?_
  · exact riotC_all hL (fun _ => rfl) rfl
  conv => whnf
  exact ⟨rfl, rfl⟩
theorem riot_timer (s : RS) (hs : s.Ok) : ACalls Try.prog 57 [.pointer (some ⟨0, 0, none⟩)] (rsHeap s) fun v H => v = .int .u8 s.tm.v ∧ H = rsHeap s := by
  have hL := hs.L
  refine ACalls.code tabOk h57 Try.func57 Try.call57 ok57 ?_
  conv => whnf
  refine getF_c hL rfl ?_
  conv => whnf
  refine ACalls.useE (timer_value _ _ _ _ _) [3] rfl (by (conv => whnf); try rfl) (by (conv => whnf); try rfl) ?_
  conv => whnf
  refine Req.of ?_ ?_
  · exact riotC_all hL (fun _ => rfl) rfl
  conv => whnf
  exact ⟨rfl, rfl⟩
theorem ram_of {c : List Value} (h : FitsAll (List.replicate 128 (.int .u8)) c) : Ram c := by
  have hl : c.length = 128 := by have := h.1; simpa using this
  refine ⟨hl, fun j hj => ?_⟩
  obtain ⟨v, hv⟩ : ∃ v, c[j]? = some v := ⟨_, List.getElem?_eq_getElem (by omega)⟩
  obtain ⟨x, rfl, hx⟩ := h.2 j (.int .u8) v (by rw [List.getElem?_replicate, if_pos hj]) hv
  exact ⟨x, hv, wf_u8 hx⟩
theorem wd134 (s : RS) (h : 0 ≤ s.tm.v ∧ s.tm.v ≤ 255) : (IntKind.i64.wrap s.tm.v != wdS s 134) = false := by
  rw [wrap64 (by omega) (by omega)]
  have : wdS s 134 = s.tm.v := by unfold wdS; rfl
  rw [this]; simp
theorem walk_RiotPlays_nil (c : List Value) (fc : FitsAll (List.replicate 128 (.int .u8)) c) : ACalls Try.prog 12 [.agg c.toArray, .slice none 0 0] [] fun v _ => v = .bool true := by
  have hc := ram_of fc
  have hq0 := rs0_ok hc
  have ht0 : rt0.Ok := ⟨by decide, .inr (.inr (.inr rfl)), by decide, by decide⟩
  have hr0 : rt0.tm = (rs0 c).tm := rt0_tm
  refine ACalls.code tabOk h12 Try.func12 Try.call12 ok12 ?_
  conv => whnf
  refine dropF_zero ?_
  conv => whnf
  refine takeF_ram hc rfl ?_
  conv => whnf
  refine dropF_zero ?_
  conv => whnf
  refine takeF_ram hc rfl ?_
  conv => whnf
  refine ACalls.useE (riot_newS _ hc) [] rfl (by (conv => whnf); first | done | rfl | (refine renL_row ?_; (conv => whnf); first | done | rfl) | (refine renL_row ?_; (conv => whnf); refine renL_row ?_; (conv => whnf); first | done | rfl) | (refine renL_riot hc rfl ?_; (conv => whnf); first | done | rfl)) (by (conv => whnf); first | done | rfl | (refine renL_ram hc ?_; (conv => whnf); first | done | rfl) | (refine renL_ramD hc ?_; (conv => whnf); first | done | rfl) | (refine renL_rec hc.flat ?_; (conv => whnf); first | done | rfl)) ?_
  conv => whnf
  refine renL_riot hc rfl ?_
  conv => whnf
  refine dropF_zero ?_
  conv => whnf
  refine takeF_ram hc rfl ?_
  conv => whnf
  refine ⟨rfl, ?_⟩
  conv => whnf
  refine ACalls.useE (rf_new _ hc) [] rfl (by (conv => whnf); first | done | rfl | (refine renL_row ?_; (conv => whnf); first | done | rfl) | (refine renL_row ?_; (conv => whnf); refine renL_row ?_; (conv => whnf); first | done | rfl) | (refine renL_riot hc rfl ?_; (conv => whnf); first | done | rfl)) (by (conv => whnf); first | done | rfl | (refine renL_ram hc ?_; (conv => whnf); first | done | rfl) | (refine renL_ramD hc ?_; (conv => whnf); first | done | rfl) | (refine renL_rec hc.flat ?_; (conv => whnf); first | done | rfl)) ?_
  conv => whnf
  refine renL_rec hc.flat ?_
  conv => whnf
  refine Req.of ?_ ?_
  · exact rec_fits hc.len rfl rfl (hc.all fun _ => rfl) rfl
  conv => whnf
  refine putF_wholeRL hc.len rfl ?_
  conv => whnf
  refine ALoop.fd (σ := Nat × {q : RS // q.Ok} × RT) (fun (⟨i, _, _⟩ : Nat × {q : RS // q.Ok} × RT) => [.chan none, .slice none 0 0, .pointer (some ⟨0, 0, none⟩), .chan none, .bool false, .pointer (some ⟨1, 0, none⟩), .pointer (some ⟨6, 0, none⟩), .int .i64 i, .chan none, .chan none, .chan none, .chan none, .chan none, .chan none, .chan none, .chan none, .chan none, .chan none, .chan none, .chan none, .chan none, .chan none, .chan none, .chan none, .chan none, .chan none, .chan none, .chan none, .chan none, .chan none, .chan none, .chan none, .chan none, .chan none, .chan none, .chan none, .chan none, .chan none, .chan none, .chan none, .chan none, .chan none, .chan none, .chan none, .chan none, .chan none, .chan none, .chan none, .chan none, .chan none, .chan none, .chan none, .chan none, .chan none, .chan none, .chan none, .chan none, .chan none, .chan none, .chan none, .chan none, .chan none]) (fun (⟨_, ⟨q, _⟩, u⟩ : Nat × {q : RS // q.Ok} × RT) => [.cells c 70, .cells (riotC q.L (.pointer (some ⟨2, 0, none⟩)) (.pointer (some ⟨3, 0, none⟩)) (.pointer (some ⟨4, 0, none⟩)) (.pointer (some ⟨5, 0, none⟩))) 110, .cells [.int .u8 q.i0, .int .u8 q.o0, .int .u8 q.w0] 97, .cells [.int .u8 q.i1, .int .u8 q.o1, .int .u8 q.w1] 97, q.tm.blk, .cells [.bool q.el, .bool q.er, .bool q.ec] 99, .cells (recC [] q.L (rfR q u)) 82]) (fun st => st.1 ≤ 0 ∧ st.2.2.Ok ∧ st.2.2.tm = st.2.1.1.tm ∧ st.2.2.gone ≤ 300 * st.1) (fun st => 0 - st.1) (0, ⟨rs0 c, hq0⟩, rt0) [] rfl rfl ⟨Nat.zero_le _, ht0, hr0, by simp [rt0]⟩ ?_ ?_
  · rintro ⟨i, ⟨q, hq⟩, u⟩
    refine ⟨rfl, rfl, ?_, rfl⟩
    simp only [List.all_cons, List.all_nil, Bool.and_true, Bool.and_eq_true]
    exact ⟨hc.all fun _ => rfl, riotC_all hq.L (fun _ => rfl) rfl, rfl, rfl, rfl, rfl, recC_all rfl (hq.L.all fun _ => rfl) rfl⟩
  rintro ⟨i, ⟨q, hq⟩, u⟩ ⟨hi, hu, hur, hug⟩ R hR
  dsimp only at hi hu hur hug
  dsimp only
  have hqL := hq.L
  obtain rfl : 0 = i := by omega
  clear hR
  conv => whnf
  refine ACalls.useE (awake08) [] rfl (by (conv => whnf); try rfl) (by (conv => whnf); try rfl) ?_
  conv => whnf
theorem walk_RiotPlays (c : List Value) (fc : FitsAll (List.replicate 128 (.int .u8)) c) (off len cap : Nat) (hl : len ≤ maxLen) (E : Nat → List Value) (hE : ∀ i, i < len → FitsAll raKs (E i)) : ACalls Try.prog 12 [.agg c.toArray, .slice (some ⟨0, off, none⟩) len cap] [.ro (slc off 5 len E)] fun v _ => v = .bool true := by
  have hc := ram_of fc
  have hq0 := rs0_ok hc
  have ht0 : rt0.Ok := ⟨by decide, .inr (.inr (.inr rfl)), by decide, by decide⟩
  have hr0 : rt0.tm = (rs0 c).tm := rt0_tm
  by_cases h40 : len ≤ 40
  rotate_left
  · refine ACalls.code tabOk h12 Try.func12 Try.call12 ok12 ?_
    conv => whnf
    refine Bif.knT ?_ fun h0 => ?_
    · (simp; omega)
    rw [h0]
    conv => whnf
    refine ⟨rfl, ?_⟩
    conv => whnf
  refine ACalls.code tabOk h12 Try.func12 Try.call12 ok12 ?_
  conv => whnf
  refine Bif.knF ?_ fun h0 => ?_
  · (simp; omega)
  rw [h0]
  conv => whnf
  refine dropF_zero ?_
  conv => whnf
  refine takeF_ram hc rfl ?_
  conv => whnf
  refine dropF_zero ?_
  conv => whnf
  refine takeF_ram hc rfl ?_
  conv => whnf
  refine ACalls.useE (riot_newS _ hc) [] rfl (by (conv => whnf); first | done | rfl | (refine renL_row ?_; (conv => whnf); first | done | rfl) | (refine renL_row ?_; (conv => whnf); refine renL_row ?_; (conv => whnf); first | done | rfl) | (refine renL_riot hc rfl ?_; (conv => whnf); first | done | rfl)) (by (conv => whnf); first | done | rfl | (refine renL_ram hc ?_; (conv => whnf); first | done | rfl) | (refine renL_ramD hc ?_; (conv => whnf); first | done | rfl) | (refine renL_rec hc.flat ?_; (conv => whnf); first | done | rfl)) ?_
  conv => whnf
  refine renL_riot hc rfl ?_
  conv => whnf
  refine dropF_zero ?_
  conv => whnf
  refine takeF_ram hc rfl ?_
  conv => whnf
  refine ⟨rfl, ?_⟩
  conv => whnf
  refine ACalls.useE (rf_new _ hc) [] rfl (by (conv => whnf); first | done | rfl | (refine renL_row ?_; (conv => whnf); first | done | rfl) | (refine renL_row ?_; (conv => whnf); refine renL_row ?_; (conv => whnf); first | done | rfl) | (refine renL_riot hc rfl ?_; (conv => whnf); first | done | rfl)) (by (conv => whnf); first | done | rfl | (refine renL_ram hc ?_; (conv => whnf); first | done | rfl) | (refine renL_ramD hc ?_; (conv => whnf); first | done | rfl) | (refine renL_rec hc.flat ?_; (conv => whnf); first | done | rfl)) ?_
  conv => whnf
  refine renL_rec hc.flat ?_
  conv => whnf
  refine Req.of ?_ ?_
  · exact rec_fits hc.len rfl rfl (hc.all fun _ => rfl) rfl
  conv => whnf
  refine putF_wholeRL hc.len rfl ?_
  conv => whnf
  refine ALoop.fd (σ := Nat × {q : RS // q.Ok} × RT) (fun (⟨i, _, _⟩ : Nat × {q : RS // q.Ok} × RT) => [.chan none, .slice (some ⟨0, off, none⟩) len cap, .pointer (some ⟨1, 0, none⟩), .chan none, .bool false, .pointer (some ⟨2, 0, none⟩), .pointer (some ⟨7, 0, none⟩), .int .i64 i, .chan none, .chan none, .chan none, .chan none, .chan none, .chan none, .chan none, .chan none, .chan none, .chan none, .chan none, .chan none, .chan none, .chan none, .chan none, .chan none, .chan none, .chan none, .chan none, .chan none, .chan none, .chan none, .chan none, .chan none, .chan none, .chan none, .chan none, .chan none, .chan none, .chan none, .chan none, .chan none, .chan none, .chan none, .chan none, .chan none, .chan none, .chan none, .chan none, .chan none, .chan none, .chan none, .chan none, .chan none, .chan none, .chan none, .chan none, .chan none, .chan none, .chan none, .chan none, .chan none, .chan none, .chan none]) (fun (⟨_, ⟨q, _⟩, u⟩ : Nat × {q : RS // q.Ok} × RT) => [.ro (slc off 5 len E), .cells c 70, .cells (riotC q.L (.pointer (some ⟨3, 0, none⟩)) (.pointer (some ⟨4, 0, none⟩)) (.pointer (some ⟨5, 0, none⟩)) (.pointer (some ⟨6, 0, none⟩))) 110, .cells [.int .u8 q.i0, .int .u8 q.o0, .int .u8 q.w0] 97, .cells [.int .u8 q.i1, .int .u8 q.o1, .int .u8 q.w1] 97, q.tm.blk, .cells [.bool q.el, .bool q.er, .bool q.ec] 99, .cells (recC [] q.L (rfR q u)) 82]) (fun st => st.1 ≤ len ∧ st.2.2.Ok ∧ st.2.2.tm = st.2.1.1.tm ∧ st.2.2.gone ≤ 300 * st.1) (fun st => len - st.1) (0, ⟨rs0 c, hq0⟩, rt0) [] rfl rfl ⟨Nat.zero_le _, ht0, hr0, by simp [rt0]⟩ ?_ ?_
  · rintro ⟨i, ⟨q, hq⟩, u⟩
    refine ⟨rfl, rfl, ?_, rfl⟩
    simp only [List.all_cons, List.all_nil, Bool.and_true, Bool.and_eq_true]
    exact ⟨rfl, hc.all fun _ => rfl, riotC_all hq.L (fun _ => rfl) rfl, rfl, rfl, rfl, rfl, recC_all rfl (hq.L.all fun _ => rfl) rfl⟩
  rintro ⟨i, ⟨q, hq⟩, u⟩ ⟨hi, hu, hur, hug⟩ R hR
  dsimp only at hi hu hur hug
  dsimp only
  have hqL := hq.L
  by_cases hlt : i < len
  · have ei : IntKind.i64.wrap ((i : Int) + 1) = ((i + 1 : Nat) : Int) := by rw [wrap64 (by omega) (by omega)]; rfl
    obtain ⟨kd, cy, ad, v, w, hEi, b1, b2, b3, b4⟩ := ra_cells (hE i hlt)
    have hN := hq.act ((IntKind.i64.wrap (kd.tmod 6 + 6)).tmod 6) (cy % 300) (ad % 1024) b3 b4
    have PLY := playedS q hq u hu (by omega) hur kd cy ad v w b1 b2 b3 b4
    obtain ⟨s2, hs2⟩ : ∃ s2, s2 = rsDo q ((IntKind.i64.wrap (kd.tmod 6 + 6)).tmod 6) (cy % 300) (ad % 1024) v w := ⟨_, rfl⟩
    rw [← hs2] at hN PLY
    clear hs2
    have h2L := hN.L
    have hself := eqRow_self h2L
    have h134 := wd134 s2 hN.tm.1
    conv => whnf
    refine Bif.knT ?_ fun h0 => ?_
    · (clear hR; simp; omega)
    rw [h0]
    conv => whnf
    refine dropF_zero ?_
    conv => whnf
    refine takeF_rec hqL.len rfl ?_
    conv => whnf
    refine Req.of ?_ ?_
    · (clear hR; simp; omega)
    conv => whnf
    refine slc_ex i 0 hlt (by decide) (by rw [hEi]; rfl) (by first | omega | (simp; done)) ?_
    conv => whnf
    refine slc_ex i 1 hlt (by decide) (by rw [hEi]; rfl) (by first | omega | (simp; done)) ?_
    conv => whnf
    refine slc_ex i 2 hlt (by decide) (by rw [hEi]; rfl) (by first | omega | (simp; done)) ?_
    conv => whnf
    refine slc_ex i 3 hlt (by decide) (by rw [hEi]; rfl) (by first | omega | (simp; done)) ?_
    conv => whnf
    refine slc_ex i 4 hlt (by decide) (by rw [hEi]; rfl) (by first | omega | (simp; done)) ?_
    conv => whnf
    refine ACalls.useX (PLY) [2, 3, 4, 5, 6] rfl (by (conv => whnf); first | done | rfl | (refine renL_row ?_; (conv => whnf); first | done | rfl) | (refine renL_row ?_; (conv => whnf); refine renL_row ?_; (conv => whnf); first | done | rfl) | (refine renL_riot hqL rfl ?_; (conv => whnf); first | done | rfl) | (refine renL_riot h2L rfl ?_; (conv => whnf); first | done | rfl)) (by (conv => whnf); first | done | rfl | (refine renL_ram hqL ?_; (conv => whnf); first | done | rfl) | (refine renL_ramD hqL ?_; (conv => whnf); first | done | rfl) | (refine renL_rec hqL.flat ?_; (conv => whnf); first | done | rfl) | (refine renL_ram h2L ?_; (conv => whnf); first | done | rfl) | (refine renL_ramD h2L ?_; (conv => whnf); first | done | rfl) | (refine renL_rec h2L.flat ?_; (conv => whnf); first | done | rfl)) ?_
    intro nx1 hx1
    conv => whnf
    refine renL_riot h2L rfl ?_
    conv => whnf
    refine renL_rec h2L.flat ?_
    conv => whnf
    refine Req.of ?_ ?_
    · exact rec_fits h2L.len rfl rfl (h2L.all fun _ => rfl) rfl
    conv => whnf
    refine putF_wholeRL h2L.len rfl ?_
    conv => whnf
    refine dropF_zero ?_
    conv => whnf
    refine takeF_rec h2L.len rfl ?_
    conv => whnf
    refine Req.of ?_ ?_
    · exact rec_fits h2L.len rfl rfl (h2L.all fun _ => rfl) rfl
    conv => whnf
    refine putF_recrec hqL.len h2L.len rfl rfl ?_
    conv => whnf
    refine dropF_zero ?_
    conv => whnf
    refine takeF_mid h2L.len rfl ?_
    conv => whnf
    refine ACalls.useE (riot_ram s2 hN) [2, 3, 4, 5, 6] rfl (by (conv => whnf); first | done | rfl | (refine renL_row ?_; (conv => whnf); first | done | rfl) | (refine renL_row ?_; (conv => whnf); refine renL_row ?_; (conv => whnf); first | done | rfl) | (refine renL_riot hqL rfl ?_; (conv => whnf); first | done | rfl) | (refine renL_riot h2L rfl ?_; (conv => whnf); first | done | rfl)) (by (conv => whnf); first | done | rfl | (refine renL_ram hqL ?_; (conv => whnf); first | done | rfl) | (refine renL_ramD hqL ?_; (conv => whnf); first | done | rfl) | (refine renL_rec hqL.flat ?_; (conv => whnf); first | done | rfl) | (refine renL_ram h2L ?_; (conv => whnf); first | done | rfl) | (refine renL_ramD h2L ?_; (conv => whnf); first | done | rfl) | (refine renL_rec h2L.flat ?_; (conv => whnf); first | done | rfl)) ?_
    conv => whnf
    refine renL_riot h2L rfl ?_
    conv => whnf
    refine renL_ramD h2L ?_
    conv => whnf
    refine dropF_zero ?_
    conv => whnf
    refine takeF_mid h2L.len rfl ?_
    conv => whnf
    refine ⟨rfl, ?_⟩
    conv => whnf
    rw [hself]
    conv => whnf
    refine Req.of ?_ ?_
    · (show (true && true && true && Nat.beq s2.L.length 128 && Nat.beq s2.L.length 128 && s2.L.all byt8 && s2.L.all byt8) = true; rw [h2L.len, h2L.all fun _ => rfl]; rfl)
    conv => whnf
    refine dropF_zero ?_
    conv => whnf
    refine takeF_rec h2L.len rfl ?_
    conv => whnf
    refine ACalls.useX (riot_words s2 hN) [2, 3, 4, 5, 6] rfl (by (conv => whnf); first | done | rfl | (refine renL_row ?_; (conv => whnf); first | done | rfl) | (refine renL_row ?_; (conv => whnf); refine renL_row ?_; (conv => whnf); first | done | rfl) | (refine renL_riot hqL rfl ?_; (conv => whnf); first | done | rfl) | (refine renL_riot h2L rfl ?_; (conv => whnf); first | done | rfl)) (by (conv => whnf); first | done | rfl | (refine renL_ram hqL ?_; (conv => whnf); first | done | rfl) | (refine renL_ramD hqL ?_; (conv => whnf); first | done | rfl) | (refine renL_rec hqL.flat ?_; (conv => whnf); first | done | rfl) | (refine renL_ram h2L ?_; (conv => whnf); first | done | rfl) | (refine renL_ramD h2L ?_; (conv => whnf); first | done | rfl) | (refine renL_rec h2L.flat ?_; (conv => whnf); first | done | rfl)) ?_
    intro nx2 hx2
    conv => whnf
    refine renL_riot h2L rfl ?_
    conv => whnf
    refine renL_row ?_
    conv => whnf
    refine dropF_zero ?_
    conv => whnf
    refine takeF_rec h2L.len rfl ?_
    conv => whnf
    refine ⟨rfl, ?_⟩
    conv => whnf
    refine dropF_zero ?_
    conv => whnf
    refine takeF_mid h2L.len rfl ?_
    conv => whnf
    refine ⟨rfl, ?_⟩
    conv => whnf
    refine ACalls.useX (rf_words s2 hN _ (by first | exact hx0.1 | exact hx1.1) (by first | exact hx0.2.1 | exact hx1.2.1)) [] rfl (by (conv => whnf); first | done | rfl | (refine renL_row ?_; (conv => whnf); first | done | rfl) | (refine renL_row ?_; (conv => whnf); refine renL_row ?_; (conv => whnf); first | done | rfl) | (refine renL_riot hqL rfl ?_; (conv => whnf); first | done | rfl) | (refine renL_riot h2L rfl ?_; (conv => whnf); first | done | rfl)) (by (conv => whnf); first | done | rfl | (refine renL_ram hqL ?_; (conv => whnf); first | done | rfl) | (refine renL_ramD hqL ?_; (conv => whnf); first | done | rfl) | (refine renL_rec hqL.flat ?_; (conv => whnf); first | done | rfl) | (refine renL_ram h2L ?_; (conv => whnf); first | done | rfl) | (refine renL_ramD h2L ?_; (conv => whnf); first | done | rfl) | (refine renL_rec h2L.flat ?_; (conv => whnf); first | done | rfl)) ?_
    intro nx3 hx3
    conv => whnf
    refine renL_row ?_
    conv => whnf
    refine dropF_zero ?_
    conv => whnf
    refine takeF_mid h2L.len rfl ?_
    conv => whnf
    refine ⟨rfl, ?_⟩
    conv => whnf
    refine ACalls.useE (ref_same (wdS s2) (wdS s2) 142 nx2 nx3 (by decide) hx2 hx3 (fun _ _ => rfl)) [9, 10] rfl (by (conv => whnf); first | done | rfl | (refine renL_row ?_; (conv => whnf); first | done | rfl) | (refine renL_row ?_; (conv => whnf); refine renL_row ?_; (conv => whnf); first | done | rfl) | (refine renL_riot hqL rfl ?_; (conv => whnf); first | done | rfl) | (refine renL_riot h2L rfl ?_; (conv => whnf); first | done | rfl)) (by (conv => whnf); first | done | rfl | (refine renL_ram hqL ?_; (conv => whnf); first | done | rfl) | (refine renL_ramD hqL ?_; (conv => whnf); first | done | rfl) | (refine renL_rec hqL.flat ?_; (conv => whnf); first | done | rfl) | (refine renL_ram h2L ?_; (conv => whnf); first | done | rfl) | (refine renL_ramD h2L ?_; (conv => whnf); first | done | rfl) | (refine renL_rec h2L.flat ?_; (conv => whnf); first | done | rfl)) ?_
    conv => whnf
    refine renL_row ?_
    conv => whnf
    refine renL_row ?_
    conv => whnf
    refine dropF_zero ?_
    conv => whnf
    refine takeF_mid h2L.len rfl ?_
    conv => whnf
    refine ⟨rfl, ?_⟩
    conv => whnf
    refine dropF_zero ?_
    conv => whnf
    refine takeF_rec h2L.len rfl ?_
    conv => whnf
    refine ACalls.useE (riot_timer s2 hN) [2, 3, 4, 5, 6] rfl (by (conv => whnf); first | done | rfl | (refine renL_row ?_; (conv => whnf); first | done | rfl) | (refine renL_row ?_; (conv => whnf); refine renL_row ?_; (conv => whnf); first | done | rfl) | (refine renL_riot hqL rfl ?_; (conv => whnf); first | done | rfl) | (refine renL_riot h2L rfl ?_; (conv => whnf); first | done | rfl)) (by (conv => whnf); first | done | rfl | (refine renL_ram hqL ?_; (conv => whnf); first | done | rfl) | (refine renL_ramD hqL ?_; (conv => whnf); first | done | rfl) | (refine renL_rec hqL.flat ?_; (conv => whnf); first | done | rfl) | (refine renL_ram h2L ?_; (conv => whnf); first | done | rfl) | (refine renL_ramD h2L ?_; (conv => whnf); first | done | rfl) | (refine renL_rec h2L.flat ?_; (conv => whnf); first | done | rfl)) ?_
    conv => whnf
    refine renL_riot h2L rfl ?_
    conv => whnf
    refine dropF_zero ?_
    conv => whnf
    refine takeF_rec h2L.len rfl ?_
    conv => whnf
    refine ⟨rfl, ?_⟩
    conv => whnf
    refine dropF_zero ?_
    conv => whnf
    refine takeF_mid h2L.len rfl ?_
    conv => whnf
    refine ⟨rfl, ?_⟩
    conv => whnf
    refine ACalls.useX (rf_words s2 hN _ (by first | exact hx0.1 | exact hx1.1) (by first | exact hx0.2.1 | exact hx1.2.1)) [] rfl (by (conv => whnf); first | done | rfl | (refine renL_row ?_; (conv => whnf); first | done | rfl) | (refine renL_row ?_; (conv => whnf); refine renL_row ?_; (conv => whnf); first | done | rfl) | (refine renL_riot hqL rfl ?_; (conv => whnf); first | done | rfl) | (refine renL_riot h2L rfl ?_; (conv => whnf); first | done | rfl)) (by (conv => whnf); first | done | rfl | (refine renL_ram hqL ?_; (conv => whnf); first | done | rfl) | (refine renL_ramD hqL ?_; (conv => whnf); first | done | rfl) | (refine renL_rec hqL.flat ?_; (conv => whnf); first | done | rfl) | (refine renL_ram h2L ?_; (conv => whnf); first | done | rfl) | (refine renL_ramD h2L ?_; (conv => whnf); first | done | rfl) | (refine renL_rec h2L.flat ?_; (conv => whnf); first | done | rfl)) ?_
    intro nx4 hx4
    conv => whnf
    refine renL_row ?_
    conv => whnf
    refine dropF_zero ?_
    conv => whnf
    refine takeF_mid h2L.len rfl ?_
    conv => whnf
    refine ⟨rfl, ?_⟩
    conv => whnf
    refine getF_row' 134 rfl (by decide) (by assumption) ?_
    conv => whnf
    rw [h134]
    conv => whnf
    (rw [ei]; exact hR (i + 1, ⟨s2, hN⟩, nx1) _ _ _ rfl rfl ⟨by dsimp only; omega, hx1.1, hx1.2.1, by have := hx1.2.2; dsimp only; omega⟩ (by dsimp only; omega))
  · clear hR
    conv => whnf
    refine Bif.knF ?_ fun h0 => ?_
    · (simp; omega)
    rw [h0]
    conv => whnf
    refine ACalls.useE (awake08) [] rfl (by (conv => whnf); try rfl) (by (conv => whnf); try rfl) ?_
    conv => whnf
    refine ⟨rfl, ?_⟩
    conv => whnf
end Go.Proofs
