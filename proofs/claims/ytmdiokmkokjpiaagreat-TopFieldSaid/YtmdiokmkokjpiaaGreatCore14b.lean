/-
  The same computation by the types' recursors: what the checker unfolds is then what the tactics unfold, word for word.
-/
import Derived.Test.YtmdiokmkokjpiaaGreatCore14
set_option linter.all false
set_option linter.unusedVariables false
set_option linter.unusedSimpArgs false
set_option linter.unnecessarySimpa false
namespace Go.Aw
section
variable (P : Program) (T : Tab)

noncomputable def opsR (ops : List Oper) (l : List Oper) : List Value → List Blk → (List Value → List Blk → Prop) → Prop :=
  List.rec (motive := fun _ => List Value → List Blk → (List Value → List Blk → Prop) → Prop) (fun ts H k => k ts H)
    (fun o _ ih ts H k => wantF ops ts o.guard
      (fun _ => match quietOp o.op with
        | true => quietS T H ts o.op fun v => putDst ts o.dst v fun ts => ih ts H k
        | false => effectF P T H ts o.op fun v H => putDst ts o.dst v fun ts => ih ts H k)
      (fun _ => putDst ts o.dst undef fun ts => ih ts H k)) l

theorem opsR_eq (ops : List Oper) : ∀ l : List Oper, opsR P T ops l = opsF P T ops l
  | [] => by funext ts H k; rfl
  | o :: rest => by funext ts H k; unfold opsF; rw [← opsR_eq ops rest]; rfl

noncomputable def keepR (H : List Blk) (ks : List Nat) (l : List Seen) : (Unit → Prop) → Prop :=
  List.rec (motive := fun _ => (Unit → Prop) → Prop) (fun k => k ())
    (fun s _ ih k => match ks.any (Nat.beq s.i) with
      | true => keep1 T H s fun _ => ih k
      | false => ih k) l

theorem keepR_eq (H : List Blk) (ks : List Nat) : ∀ l : List Seen, keepR T H ks l = keepF T H ks l
  | [] => by funext k; rfl
  | s :: l => by funext k; unfold keepF; rw [← keepR_eq H ks l]; rfl

noncomputable def planR (ops : List Oper) (p : Plan) : List Seen → List Value → List Blk → (List Value → List Blk → Prop) → Prop :=
  List.rec (motive := fun _ => List Seen → List Value → List Blk → (List Value → List Blk → Prop) → Prop) (fun _ ts H k => k ts H)
    (fun a _ ih L ts H k => getF ops a.1 fun o => wantF ops ts o.guard
      (fun _ => match quietOp o.op with
        | true => quietP T H ts a.1 o.op L fun v L => putDst ts o.dst v fun ts => ih L ts H k
        | false => effectF P T H ts o.op fun v H => keepR T H a.2 L fun _ => putDst ts o.dst v fun ts => ih L ts H k)
      (fun _ => putDst ts o.dst undef fun ts => ih L ts H k)) p

theorem planR_eq (ops : List Oper) : ∀ p : Plan, planR P T ops p = planF P T ops p
  | [] => by funext L ts H k; rfl
  | (i, ks) :: rest => by
    funext L ts H k; unfold planF; rw [← planR_eq ops rest]
    have : keepF T = keepR T := by funext H ks l; rw [keepR_eq]
    rw [this]; rfl

noncomputable def AWpR (hs : Hints) (c : Code) : AK → List Value → List Blk → Prop :=
  Code.rec (motive := fun _ => AK → List Value → List Blk → Prop)
    (fun K ts H => K .normal ts H)
    (fun id ops d K ts H => match d with
      | false => opsR P T ops.toList ops.toList ts H (K .normal)
      | true => hintF hs id fun p => planR P T ops.toList p [] ts H (K .normal))
    (fun _ _ iha ihb K ts H => iha (fun e ts H => match e with | .normal => ihb K ts H | e => K e ts H) ts H)
    (fun c _ _ iha ihb K ts H => evF ts c fun v => match v with | .bool q => Bif q (fun _ => iha K ts H) (fun _ => ihb K ts H) | _ => False)
    (fun id _ ih K ts H => ih (fun e ts H => match e with | .exit j => (match Nat.beq j id with | true => K .normal ts H | false => K (.exit j) ts H) | e => K e ts H) ts H)
    (fun _ ih K ts H => ALoop ih K ts H)
    (fun _ _ _ _ _ _ _ _ _ => False)
    (fun id K ts H => K (.exit id) ts H)
    (fun _ _ _ _ _ => False)
    (fun _ _ _ _ => False)
    (fun _ _ _ _ => False)
    (fun K ts H => K .ret ts H)
    (fun _ _ _ _ => False) c

theorem AWpR_eq (hs : Hints) : ∀ c : Code, AWpR P T hs c = AWp P T hs c
  | .skip => by funext K ts H; rfl
  | .region _ ops false => by funext K ts H; unfold AWp; rw [← opsR_eq]; rfl
  | .region id ops true => by
    funext K ts H; unfold AWp
    have : planF P T ops.toList = planR P T ops.toList := by funext p; rw [planR_eq]
    rw [this]; rfl
  | .seq a b => by funext K ts H; unfold AWp; rw [← AWpR_eq hs a, ← AWpR_eq hs b]; rfl
  | .cond c a b => by funext K ts H; unfold AWp; rw [← AWpR_eq hs a, ← AWpR_eq hs b]; rfl
  | .block id c => by funext K ts H; unfold AWp; rw [← AWpR_eq hs c]; rfl
  | .loop c => by funext K ts H; unfold AWp; rw [← AWpR_eq hs c]; rfl
  | .rangeFunc .. => by funext K ts H; rfl
  | .exit id => by funext K ts H; rfl
  | .scope _ => by funext K ts H; rfl
  | .label _ => by funext K ts H; rfl
  | .goto _ => by funext K ts H; rfl
  | .ret => by funext K ts H; rfl
  | .refuse _ => by funext K ts H; rfl
end
end Go.Aw
