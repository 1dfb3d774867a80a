/-
  The range over an iterator with a state cell, told of abstract heaps.
-/
import Derived.Test.YtmdiokmkokjpiaaGreatCore24
set_option linter.all false
set_option linter.unusedVariables false
set_option linter.unusedSimpArgs false
set_option linter.unnecessarySimpa false
namespace Go.Aw
section
variable {P : Program} {T : Tab}

theorem load_at (hT : TabOk P T) {H : List Blk} {μ : List Nat} {w : World} {t : TypeId} {i b : Nat} {v0 : Value} (h : loadF T H t (.pointer (some ⟨i, 0, none⟩)) fun v => v = v0) (hr : Rel μ H w) (hμ : μ[i]? = some b) :
    ∃ cv, VR μ v0 cv ∧ (Instr.loadAt t (.pointer (some ⟨b, 0, none⟩))).run P w = .ok cv w := by
  obtain ⟨i', o, v, he, rfl, hl⟩ := load_sound h
  obtain ⟨rfl, rfl⟩ : i = i' ∧ 0 = o := by simpa using he
  obtain ⟨l, hvl, hc⟩ := hl.cells μ w b hr hμ
  obtain ⟨cv, hvr, hrun⟩ := ld_run (o := 0) (b := b) hT hl hvl
  exact ⟨cv, hvr, by simp [Instr.loadAt, Instr.sureAddr, hrun w hc]⟩

theorem same_names {μ μ' : List Nat} {H H' : List Blk} {w w' : World} (hr : Rel μ H w) (hr' : Rel μ' H' w') (hx : Ext μ H w μ' H' w') (hl : H'.length = H.length) : μ' = μ := by
  obtain ⟨ext, rfl, _⟩ := hx.pre
  have h5 := hr'.len
  rw [hl, List.length_append, ← hr.len] at h5
  have : ext = [] := List.length_eq_zero_iff.1 (by omega)
  rw [this, List.append_nil]

/-- How a range is left. -/
def KJump (K : AK) (ts : List Value) : Code → List Blk → Prop := fun c H => match c with
  | .ret => K .ret ts H
  | .exit id => K (.exit id) ts H
  | _ => False

theorem ARange.states (hT : TabOk P T) (hs : Hints) {x : Tmp} {p0 : Tmp} {asg body : Code} {K : AK} {ts : List Value} {H : List Blk}
    {tf t tb tp : TypeId} {nx f : FuncId} {q1 q2 : String} {fn : Func} (hf : P.funcs[f]? = some fn) (hb : fn.body = some (itCode tf t tb tp nx q1 q2)) (hnt : fn.ntmps = 10) (hres : fn.results = #[])
    (hg : ∀ (args : Array Value) (w : World), (callFunc nx args).run P w = .ok (.enter nx args) w) (henter : ∀ (args : Array Value) (w : World), (callFunc f args).run P w = .ok (.enter f args) w)
    (i j m : Nat) (hx : ts[x]? = some (.func (.func f) #[] #[.pointer (some ⟨i, 0, none⟩), .pointer (some ⟨j, 0, none⟩)]))
    (N : Nat) (hN : 0 < N) (Hk HB : Nat → List Blk) (u : IntKind) (s : Nat → Int) (hH0 : Hk 0 = H) (hlk : ∀ k, (Hk k).length = H.length) (hlb : ∀ k, (HB k).length = H.length)
    (hl0 : ∀ k, loadF T (Hk k) t (.pointer (some ⟨i, 0, none⟩)) fun v => v = .int u (s k))
    (hlp : ∀ k, loadF T (HB k) tp (.pointer (some ⟨j, 0, none⟩)) fun v => v = .pointer (some ⟨m, 0, none⟩))
    (hl2 : ∀ k, loadF T (HB k) t (.pointer (some ⟨i, 0, none⟩)) fun v => v = .int u (s k))
    (hnx : ∀ k, ACalls P nx [.pointer (some ⟨m, 0, none⟩), .int u (s k)] (HB k) fun v H' => v = .int u (s (k + 1)) ∧ H' = HB k)
    (hst : ∀ k, storeF T (HB k) t (.pointer (some ⟨i, 0, none⟩)) (.int u (s (k + 1))) fun H' => H' = Hk (k + 1))
    (hpa : plainC asg = true) (hpb : plainC body = true) (hoa : codeOk T hs asg = true) (hob : codeOk T hs body = true)
    (hm : m < H.length)
    (hround : ∀ k, k < N → AWp P T hs asg (fun e ts1 H1 => match e with | .normal => AWp P T hs body (KRound (k + 1 < N) (Hk k) (HB k) (KJump K ts)) ts1 H1 | _ => False) (ts.set p0 (.int u (s k))) (Hk k)) :
    ARange P T hs (.rangeFunc (.tmp x) #[p0] asg body) K ts H := by
  refine ⟨fun μ a w hv hr hd => ?_⟩
  obtain ⟨y, hy, hsr⟩ := hv.get hx
  replace hsr := hsr.resolve_left (by simp [junk])
  have heval0 : a.eval (.tmp x) = y := by
    have : a.tmps[x]? = some y := by simpa using hy
    simp [Act.eval, this]
  cases hsr with
  | fn _ _ a' _ c' ha hc ra rc =>
    have ha' : a' = #[] := Array.size_eq_zero_iff.1 (by simpa using ha.symm)
    subst ha'
    obtain ⟨c0, c1, rfl⟩ : ∃ c0 c1, c' = #[c0, c1] := by
      have h2 : c'.size = 2 := by simpa using hc.symm
      exact ⟨c'[0], c'[1], Array.ext (by simpa using h2) fun k hk1 hk2 => by
        have : k = 0 ∨ k = 1 := by simp at hk2; omega
        rcases this with rfl | rfl <;> rfl⟩
    have h0 := rc 0 _ _ rfl rfl
    have h1 := rc 1 _ _ rfl rfl
    obtain ⟨bi, rfl, hbi⟩ := h0.of_ptr
    obtain ⟨bj, rfl, hbj⟩ := h1.of_ptr
    obtain ⟨bm, hbm⟩ : ∃ bm, μ[m]? = some bm := ⟨_, List.getElem?_eq_getElem (by rw [← hr.len]; exact hm)⟩
    refine range_rule hT hs hv hr hf hb hnt hres hg henter ⟨bi, 0, none⟩ ⟨bj, 0, none⟩ heval0 N hN Hk HB (fun k => .int u (s k)) (.pointer (some ⟨bm, 0, none⟩)) (fun k => .int u (s k)) hH0 hlk hlb ?_ ?_ ?_ ?_ (KJump K ts) hpa hpb hoa hob hround ?_
    · intro k W hR
      obtain ⟨cv, hvr, hrun⟩ := load_at hT (hl0 k) hR hbi
      cases hvr; exact hrun
    · intro k W hR
      obtain ⟨cv, hvr, hrun⟩ := load_at hT (hlp k) hR hbj
      obtain ⟨b, rfl, hb'⟩ := hvr.of_ptr
      rw [hbm] at hb'
      cases hb'; exact hrun
    · intro k W hR
      obtain ⟨cv, hvr, hrun⟩ := load_at hT (hl2 k) hR hbi
      cases hvr; exact hrun
    · intro k W hR
      have hargs : VRs μ [.pointer (some ⟨m, 0, none⟩), .int u (s k)] [.pointer (some ⟨bm, 0, none⟩), .int u (s k)] := VRs.cons (.ptr _ _ _ hbm) (VRs.cons (.int _ _) VRs.nil)
      refine ((hnx k).out μ W _ hargs hR).2.mono ?_
      rintro e W' ⟨v, cv, μ', H', rfl, hvr, hR', hX', rfl, rfl⟩
      have hμ : μ' = μ := same_names hR hR' hX' rfl
      subst hμ
      cases hvr
      obtain ⟨H2, W2, rfl, hs', hR2, hX2⟩ := store_sound hT hR' (hst k) (.ptr i bi 0 hbi) (.int u (s (k + 1)))
      exact ⟨rfl, W2, hs', hR2, hX'.trans hR.len hR'.len hX2⟩
    · intro c μ' H' D W hD1 hD2 hD3 hR hX hk
      have hmk : Marks w (markOf D :: a.defers) μ' W := .inr ⟨D, by rw [hd], hD1, hD2, hD3⟩
      have hv' : SRs μ' ts a.tmps.toList := hv.mono hX.sub
      cases c <;> try exact False.elim hk
      case ret => exact wpIn_ret ⟨μ', ts, H', hv', hR, hX, hmk, hk⟩
      case exit id => exact wpIn_exit ⟨μ', ts, H', hv', hR, hX, hmk, hk⟩
end
end Go.Aw
