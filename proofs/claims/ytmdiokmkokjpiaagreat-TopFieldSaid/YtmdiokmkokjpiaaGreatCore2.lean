/-
  The run of a function's code over named heaps, told as what is asked of what follows ('AWp'): a computation, no search: 'conv => whnf' carries it out.
-/
import Derived.Test.YtmdiokmkokjpiaaGreatCore1
set_option linter.all false
set_option linter.unusedVariables false
set_option linter.unusedSimpArgs false
set_option linter.unnecessarySimpa false
namespace Go.Aw

/-- What is known of a type. -/
structure TInf where
  desc : TypeDesc
  size : Nat
  bytes : Nat
  zero : List Value
  eqok : Bool
abbrev Tab := List (Option TInf)

def isAggD : TypeDesc → Bool
  | .struct _ | .array _ _ => true
  | _ => false

/-- 'b' is asked, then 'k'. -/
def Req (b : Bool) (k : Unit → Prop) : Prop := Bool.rec (motive := fun _ => Prop) False (k ()) b
/-- Which way, by 'b'. -/
def Bif (b : Bool) (p q : Unit → Prop) : Prop := Bool.rec (motive := fun _ => Prop) (q ()) (p ()) b

theorem Req.of {b : Bool} {p : Prop} (h : b = true) (k : p) : Bool.rec (motive := fun _ => Prop) False p b := by subst h; exact k
theorem Bif.of {b : Bool} {p q : Prop} (h : b = true → p) (k : b = false → q) : Bool.rec (motive := fun _ => Prop) q p b := by cases b <;> simp_all
theorem Bif.knT {b : Bool} {p q : Prop} (h : b = true) (k : b = true → p) : Bool.rec (motive := fun _ => Prop) q p b := by cases b <;> simp_all
theorem Bif.knF {b : Bool} {p q : Prop} (h : b = false) (k : b = false → q) : Bool.rec (motive := fun _ => Prop) q p b := by cases b <;> simp_all
theorem Bif.ofT {b : Bool} {p q : Prop} (h : b = true) (k : p) : Bool.rec (motive := fun _ => Prop) q p b := by subst h; exact k
theorem Bif.ofF {b : Bool} {p q : Prop} (h : b = false) (k : q) : Bool.rec (motive := fun _ => Prop) q p b := by subst h; exact k

/-! ### Lists, the result handed on as a list of conses -/
def getF {α : Type} : List α → Nat → (α → Prop) → Prop
  | [], _, _ => False
  | a :: _, 0, k => k a
  | _ :: l, i + 1, k => getF l i k
def setF {α : Type} : List α → Nat → α → (List α → Prop) → Prop
  | [], _, _, k => k []
  | _ :: l, 0, v, k => k (v :: l)
  | a :: l, i + 1, v, k => setF l i v fun l' => k (a :: l')
def snocF {α : Type} : List α → α → (List α → Prop) → Prop
  | [], v, k => k [v]
  | a :: l, v, k => snocF l v fun l' => k (a :: l')
def takeF {α : Type} : List α → Nat → (List α → Prop) → Prop
  | _, 0, k => k []
  | [], _ + 1, _ => False
  | a :: l, n + 1, k => takeF l n fun l' => k (a :: l')
def dropF {α : Type} : List α → Nat → (List α → Prop) → Prop
  | l, 0, k => k l
  | [], _ + 1, _ => False
  | _ :: l, n + 1, k => dropF l n k
/-- 'v's laid over the list from place 'o' on. -/
def putF {α : Type} : List α → Nat → List α → (List α → Prop) → Prop
  | l, 0, [], k => k l
  | [], 0, _ :: _, _ => False
  | _ :: l, 0, v :: vs, k => putF l 0 vs fun l' => k (v :: l')
  | [], _ + 1, _, _ => False
  | a :: l, o + 1, vs, k => putF l o vs fun l' => k (a :: l')

def tinfF (T : Tab) (t : TypeId) (k : TInf → Prop) : Prop := getF T t fun o => match o with | some i => k i | none => False

abbrev VK := Value → Prop

/-- A part of an aggregate's cells. -/
def partF (T : Tab) (t : TypeId) (cs : List Value) (off : Nat) (k : VK) : Prop :=
  tinfF T t fun i => match isAggD i.desc with
    | true => dropF cs off fun d => takeF d i.size fun l => k (.agg l.toArray)
    | false => getF cs off k

/-- A whole list of cells, all of one kind that can be stored. -/
def one : Value → Bool
  | .agg _ | .tuple _ => false
  | _ => true

def loadF (T : Tab) (H : List Blk) (t : TypeId) (a : Value) (k : VK) : Prop :=
  match a with
  | .pointer (some ⟨i, o, none⟩) => getF H i fun b => match b with
    | .cells c _ => partF T t c o k
    | .ro f => tinfF T t fun j => match isAggD j.desc with
      | true => roF f o j.size fun l => k (.agg l.toArray)
      | false => ∃ v, f o = some v ∧ k v
    | .gone => False
  | _ => False
where
  roF (f : Nat → Option Value) (o : Nat) : Nat → (List Value → Prop) → Prop
    | 0, k => k []
    | n + 1, k => ∃ v, f o = some v ∧ roF f (o + 1) n fun l => k (v :: l)

def storeF (T : Tab) (H : List Blk) (t : TypeId) (a v : Value) (k : List Blk → Prop) : Prop :=
  match a with
  | .pointer (some ⟨i, o, none⟩) => getF H i fun b => match b with
    | .cells c e => tinfF T t fun j => match isAggD j.desc, v with
      | true, .agg vs => Req (Nat.beq vs.toList.length j.size && vs.toList.all one) fun _ => putF c o vs.toList fun c' => setF H i (.cells c' e) k
      | false, v => Req (one v && Nat.beq j.size 1) fun _ => putF c o [v] fun c' => setF H i (.cells c' e) k
      | _, _ => False
    | _ => False
  | _ => False

/-- '==' on two values of a type. -/
def eqFields (rec : TypeId → Value → Value → (Bool → Prop) → Prop) (T : Tab) (xs ys : List Value) : List Field → (Bool → Prop) → Prop
  | [], k => k true
  | f :: fs, k => match f.name == "_" with
    | true => eqFields rec T xs ys fs k
    | false => partF T f.type xs f.offset fun u => partF T f.type ys f.offset fun v => rec f.type u v fun b => eqFields rec T xs ys fs fun c => k (b && c)
def eqElems (rec : TypeId → Value → Value → (Bool → Prop) → Prop) (T : Tab) (xs ys : List Value) (e : TypeId) (s : Nat) : Nat → Nat → (Bool → Prop) → Prop
  | 0, _, k => k true
  | n + 1, j, k => partF T e xs (j * s) fun u => partF T e ys (j * s) fun v => rec e u v fun b => eqElems rec T xs ys e s n (j + 1) fun c => k (b && c)
/-- A byte. -/
def byt8 : Value → Bool
  | .int .u8 _ => true
  | _ => false
/-- Two rows of numbers alike. -/
def eqInts : List Value → List Value → Bool
  | [], [] => true
  | .int _ a :: xs, .int _ b :: ys => (a == b) && eqInts xs ys
  | _, _ => false
@[irreducible] def eqRow (xs ys : List Value) : Bool := eqInts xs ys
def isByte : TypeDesc → Bool
  | .int .u8 => true
  | _ => false
def eqF (T : Tab) : Nat → TypeId → Value → Value → (Bool → Prop) → Prop
  | 0, _, _, _, _ => False
  | d + 1, t, x, y, k => tinfF T t fun i =>
    match i.desc, x, y with
    | .bool, .bool a, .bool b => k (a == b)
    | .int _, .int kk a, .int kk' b => Req (decide (kk = kk')) fun _ => k (a == b)
    | .pointer _, .pointer none, .pointer b => k b.isNone
    | .pointer _, .pointer (some _), .pointer none => k false
    | .struct fs, .agg xs, .agg ys => Req i.eqok fun _ => eqFields (eqF T d) T xs.toList ys.toList fs.toList k
    | .array n e, .agg xs, .agg ys => Req i.eqok fun _ => tinfF T e fun j => match Nat.ble 64 n with
      | true => Req (Nat.blt 0 d && isByte j.desc && Nat.beq j.size 1 && Nat.beq xs.toList.length n && Nat.beq ys.toList.length n && xs.toList.all byt8 && ys.toList.all byt8) fun _ => k (eqRow xs.toList ys.toList)
      | false => eqElems (eqF T d) T xs.toList ys.toList e j.size n 0 k
    | _, _, _ => False

/-! ### Operations -/
/-- Two strings alike. -/
@[irreducible] def strEq (a b : ByteArray) : Bool := a.data.toList == b.data.toList
/-- The string of these bytes. -/
def strPush (s : ByteArray) : List Int → ByteArray
  | [] => s
  | n :: l => strPush (s.push (UInt8.ofNat n.toNat)) l
@[irreducible] def strOf (l : List Int) : ByteArray := strPush .empty l
def binF (T : Tab) (op : BinOp) (t : TypeId) (x y : Value) (k : VK) : Prop :=
  match op, x, y with
  | .shl, .int kd a, .int _ b => Req (decide (0 ≤ b)) fun _ => k (.int kd (kd.wrap (a * 2 ^ min b.toNat kd.bits)))
  | .shr, .int kd a, .int _ b => Req (decide (0 ≤ b)) fun _ => k (.int kd (a.fdiv (2 ^ min b.toNat kd.bits)))
  | .add, .int kd a, .int kd' b => Req (decide (kd = kd')) fun _ => k (.int kd (kd.wrap (a + b)))
  | .sub, .int kd a, .int kd' b => Req (decide (kd = kd')) fun _ => k (.int kd (kd.wrap (a - b)))
  | .mul, .int kd a, .int kd' b => Req (decide (kd = kd')) fun _ => k (.int kd (kd.wrap (a * b)))
  | .quo, .int kd a, .int kd' b => Req (decide (kd = kd') && !(b == 0)) fun _ => k (.int kd (kd.wrap (a.tdiv b)))
  | .rem, .int kd a, .int kd' b => Req (decide (kd = kd') && !(b == 0)) fun _ => k (.int kd (a.tmod b))
  | .and, .int kd a, .int kd' b => Req (decide (kd = kd')) fun _ => k (.int kd (bits .and kd a b))
  | .or, .int kd a, .int kd' b => Req (decide (kd = kd')) fun _ => k (.int kd (bits .or kd a b))
  | .xor, .int kd a, .int kd' b => Req (decide (kd = kd')) fun _ => k (.int kd (bits .xor kd a b))
  | .andNot, .int kd a, .int kd' b => Req (decide (kd = kd')) fun _ => k (.int kd (bits .andNot kd a b))
  | .eql, .int kd a, .int kd' b => Req (decide (kd = kd')) fun _ => k (.bool (a == b))
  | .neq, .int kd a, .int kd' b => Req (decide (kd = kd')) fun _ => k (.bool (a != b))
  | .lss, .int kd a, .int kd' b => Req (decide (kd = kd')) fun _ => k (.bool (decide (a < b)))
  | .leq, .int kd a, .int kd' b => Req (decide (kd = kd')) fun _ => k (.bool (decide (a ≤ b)))
  | .gtr, .int kd a, .int kd' b => Req (decide (kd = kd')) fun _ => k (.bool (decide (a > b)))
  | .geq, .int kd a, .int kd' b => Req (decide (kd = kd')) fun _ => k (.bool (decide (a ≥ b)))
  | .eql, .string a, .string b => k (.bool (strEq a b))
  | .neq, .string a, .string b => k (.bool (!(strEq a b)))
  | .eql, x, y => eqG T t x y fun b => k (.bool b)
  | .neq, x, y => eqG T t x y fun b => k (.bool (!b))
  | _, _, _ => False
where
  eqG (T : Tab) (t : TypeId) (x y : Value) (k : Bool → Prop) : Prop :=
    match x, y with
    | .bool a, .bool b => eqF T 10000 t (.bool a) (.bool b) k
    | .pointer a, .pointer b => eqF T 10000 t (.pointer a) (.pointer b) k
    | .agg a, .agg b => tinfF T t fun i => Req i.eqok fun _ => eqF T 10000 t (.agg a) (.agg b) k
    | _, _ => False

def unF (op : UnOp) (x : Value) (k : VK) : Prop :=
  match op, x with
  | .neg, .int kd n => k (.int kd (kd.wrap (0 - n)))
  | .xor, .int kd n => k (.int kd (bits .xor kd (if kd.signed then -1 else kd.max) n))
  | .not, .bool b => k (.bool !b)
  | _, _ => False

def convF (T : Tab) (s d : TypeId) (x : Value) (k : VK) : Prop :=
  tinfF T s fun _ => tinfF T d fun j => match j.desc, x with
  | .int kd, .int _ n => k (.int kd (kd.wrap n))
  | _, _ => False

/-- The cells of a composite value. -/
def fillF (place : Nat → (Nat × Nat → Prop) → Prop) : List (Nat × Value) → List Value → (List Value → Prop) → Prop
  | [], cs, k => k cs
  | (i, v) :: rest, cs, k => place i fun p => Req (Nat.beq v.cells.toList.length p.2) fun _ => putF cs p.1 v.cells.toList fun cs' => fillF place rest cs' k
def fieldsP (T : Tab) : List Field → Nat → (Nat × Nat → Prop) → Prop
  | fs, i, k => getF fs i fun f => tinfF T f.type fun j => k (f.offset, j.size)
def buildF (T : Tab) (t : TypeId) (parts : List (Nat × Value)) (k : VK) : Prop :=
  tinfF T t fun i => match i.desc with
  | .struct fs => fillF (fieldsP T fs.toList) parts i.zero fun cs => k (.agg cs.toArray)
  | .array _ e => tinfF T e fun j => fillF (fun n k => k (n * j.size, j.size)) parts i.zero fun cs => k (.agg cs.toArray)
  | _ => False

def fieldAddrF (T : Tab) (s : TypeId) (x : Value) (f : Nat) (k : VK) : Prop :=
  tinfF T s fun i => match i.desc, x with
  | .struct fs, .pointer (some ⟨b, o, none⟩) => getF fs.toList f fun fd => tinfF T fd.type fun j => Req (!(Nat.beq j.size 0)) fun _ => k (.pointer (some ⟨b, o + fd.offset, none⟩))
  | _, _ => False
def fieldF (T : Tab) (s : TypeId) (x : Value) (f : Nat) (k : VK) : Prop :=
  tinfF T s fun i => match i.desc, x with
  | .struct fs, .agg cs => getF fs.toList f fun fd => partF T fd.type cs.toList fd.offset k
  | _, _ => False
def indexAddrF (T : Tab) (t : TypeId) (x ix : Value) (k : VK) : Prop :=
  tinfF T t fun i => match i.desc, x, ix with
  | .array n e, .pointer (some ⟨b, o, none⟩), .int _ j => Req (decide (0 ≤ j) && decide (j < n)) fun _ => tinfF T e fun q => k (.pointer (some ⟨b, o + j.toNat * q.size, none⟩))
  | .slice e, .slice (some ⟨b, o, none⟩) l _, .int _ j => Req (decide (0 ≤ j) && decide (j < l)) fun _ => tinfF T e fun q => k (.pointer (some ⟨b, o + j.toNat * q.size, none⟩))
  | _, _, _ => False
/-- A string's byte. -/
@[irreducible] def strAt (s : ByteArray) (j : Int) : Int := ((s[j.toNat]?).getD 0).toNat
def indexF (T : Tab) (t : TypeId) (x ix : Value) (k : VK) : Prop :=
  tinfF T t fun i => match i.desc, x, ix with
  | .array n e, .agg cs, .int _ j => Req (decide (0 ≤ j) && decide (j < n)) fun _ => tinfF T e fun q => partF T e cs.toList (j.toNat * q.size) k
  | .string, .string s, .int _ j => Req (decide (0 ≤ j) && decide (j < (s.size : Int))) fun _ => k (.int .u8 (strAt s j))
  | _, _, _ => False
/-- A slice of an array (behind a pointer) or of a slice; no third index. -/
def sliceF (T : Tab) (t : TypeId) (x : Value) (lo hi mx : Option Value) (k : VK) : Prop :=
  tinfF T t fun i => match i.desc, x, mx with
  | .array n e, .pointer (some ⟨b, o, none⟩), none => tinfF T e fun q => bounds n n lo hi fun l h => k (.slice (some ⟨b, o + (if n = l then 0 else l * q.size), none⟩) (h - l) (n - l))
  | .slice e, .slice (some ⟨b, o, none⟩) len cap, none => tinfF T e fun q => bounds len cap lo hi fun l h => k (.slice (some ⟨b, o + (if cap = l then 0 else l * q.size), none⟩) (h - l) (cap - l))
  | _, _, _ => False
where
  bounds (len cap : Nat) (lo hi : Option Value) (k : Nat → Nat → Prop) : Prop :=
    match hi, lo with
    | none, none => k 0 len
    | some (.int _ h), none => Req (decide (0 ≤ h) && decide (h ≤ cap)) fun _ => k 0 h.toNat
    | none, some (.int _ l) => Req (decide (0 ≤ l) && decide (l ≤ len)) fun _ => k l.toNat len
    | some (.int _ h), some (.int _ l) => Req (decide (0 ≤ h) && decide (h ≤ cap)) fun _ => Req (decide (0 ≤ l) && decide (l ≤ h.toNat)) fun _ => k l.toNat h.toNat
    | _, _ => False

def minF (f : Int → Int → Int) : Value → List Value → VK → Prop
  | v, [], k => k v
  | .int kd a, .int _ b :: r, k => minF f (.int kd (f a b)) r k
  | _, _, _ => False

/-! ### Operands -/
def evF (ts : List Value) (x : Operand) (k : VK) : Prop :=
  match x with
  | .tmp i => getF ts i fun v => sureF v k
  | .const v => k v
  | .func f => k (.func (.func f) #[] #[])
  | .global _ => False
def evsF (ts : List Value) : List Operand → (List Value → Prop) → Prop
  | [], k => k []
  | x :: xs, k => evF ts x fun v => evsF ts xs fun vs => k (v :: vs)
def evpF (ts : List Value) : List (Nat × Operand) → (List (Nat × Value) → Prop) → Prop
  | [], k => k []
  | (i, x) :: xs, k => evF ts x fun v => evpF ts xs fun vs => k ((i, v) :: vs)
def evoF (ts : List Value) : Option Operand → (Option Value → Prop) → Prop
  | none, k => k none
  | some x, k => evF ts x fun v => k (some v)

/-- An operation that only computes or reads. -/
def quietF (T : Tab) (H : List Blk) (ts : List Value) (op : Op) (k : VK) : Prop :=
  match op with
  | .move x => evF ts x k
  | .assign x => evF ts x k
  | .pick c a b => evF ts c fun q => match q with | .bool q => Bif q (fun _ => evF ts a k) (fun _ => evF ts b k) | _ => False
  | .build t ps => evpF ts ps.toList fun ps => buildF T t ps k
  | .load t a => evF ts a fun a => loadF T H t a k
  | .nilCheck x => evF ts x fun v => match v with
    | .pointer (some ⟨i, o, none⟩) => k (.pointer (some ⟨i, o, none⟩))
    | .func (.func f) a c => k (.func (.func f) a c)
    | _ => False
  | .binOp op t x y _ => evF ts x fun x => evF ts y fun y => binF T op t x y k
  | .unOp op _ x => evF ts x fun x => unF op x k
  | .convert s d x => evF ts x fun x => convF T s d x k
  | .makeFunc (.func f) a c => evsF ts a.toList fun a => evsF ts c.toList fun c => k (.func (.func f) a.toArray c.toArray)
  | .slice t x lo hi mx => evF ts x fun x => evoF ts lo fun lo => evoF ts hi fun hi => evoF ts mx fun mx => sliceF T t x lo hi mx k
  | .fieldAddr s x f => evF ts x fun x => fieldAddrF T s x f k
  | .field s x f => evF ts x fun x => fieldF T s x f k
  | .indexAddr t x i => evF ts x fun x => evF ts i fun i => indexAddrF T t x i k
  | .index t x i => evF ts x fun x => evF ts i fun i => indexF T t x i k
  | .extract x i => evF ts x fun x => match x with | .tuple vs => getF vs.toList i k | _ => False
  | .sliceToArrayPointer arr x => evF ts x fun x => tinfF T arr fun i => match i.desc, x with
    | .array n _, .slice (some ⟨b, o, none⟩) len _ => Req (Nat.ble n len) fun _ => k (.pointer (some ⟨b, o, none⟩))
    | _, _ => False
  | .call ⟨.builtin .len, args, tys⟩ => getF tys.toList 0 fun t => getF args.toList 0 fun a => evF ts a fun a => tinfF T t fun i => match i.desc, a with
    | .array n _, _ => k (.int .i64 n)
    | .slice _, .slice _ n _ => k (.int .i64 n)
    | _, _ => False
  | .call ⟨.builtin .min, args, _⟩ => evsF ts args.toList fun vs => match vs with | v :: r => minF (fun x y => if y < x then y else x) v r k | [] => False
  | .call ⟨.builtin .max, args, _⟩ => evsF ts args.toList fun vs => match vs with | v :: r => minF (fun x y => if y > x then y else x) v r k | [] => False
  | _ => False

/-- The heap holds these bytes from (b, o) on. -/
def BytesAt (H : List Blk) (b o : Nat) (l : List Int) : Prop := ∃ (c : List Value) (e : TypeId), H[b]? = some (.cells c e) ∧ ∀ (i : Nat) (x : Int), l[i]? = some x → c[o + i]? = some (.int .u8 x)
def isU8 : TypeDesc → Bool
  | .int .u8 => true
  | _ => false
/-- A conversion, to a string too. -/
def convS (T : Tab) (H : List Blk) (s d : TypeId) (x : Value) (k : VK) : Prop :=
  tinfF T s fun i => tinfF T d fun j => match i.desc, j.desc, x with
  | .slice e, .string, .slice none _ _ => tinfF T e fun q => Req (isU8 q.desc) fun _ => ∀ z : ByteArray, z.data = #[] → k (.string z)
  | .slice e, .string, .slice (some ⟨b, o, none⟩) n _ => tinfF T e fun q => Req (isU8 q.desc) fun _ => ∃ l : List Int, l.length = n ∧ BytesAt H b o l ∧ k (.string (strOf l))
  | _, .string, .string s => k (.string s)
  | _, .int kd, .int _ n => k (.int kd (kd.wrap n))
  | _, _, _ => False
/-- The same where the order is the text's. -/
def quietS (T : Tab) (H : List Blk) (ts : List Value) (op : Op) (k : VK) : Prop :=
  match op with
  | .convert s d x => evF ts x fun x => convS T H s d x k
  | op => quietF T H ts op k

/-- Which operations 'quietF' takes. -/
def quietOp : Op → Bool
  | .move _ | .assign _ | .pick .. | .build .. | .load .. | .nilCheck _ | .binOp .. | .unOp .. | .convert .. | .makeFunc (.func _) .. | .slice .. | .fieldAddr .. | .field .. | .indexAddr .. | .index .. | .extract .. | .sliceToArrayPointer .. => true
  | .call ⟨.builtin .len, _, _⟩ | .call ⟨.builtin .min, _, _⟩ | .call ⟨.builtin .max, _, _⟩ => true
  | _ => false


/-! ### Calls -/
/-- In whatever world that holds the heap, the call is entered and comes back with a value and a heap that 'R' tells. -/
structure ACalls (P : Program) (f : FuncId) (args : List Value) (H : List Blk) (R : Value → List Blk → Prop) : Prop where
  out : ∀ (μ : List Nat) (w : World) (cargs : List Value), VRs μ args cargs → Rel μ H w →
    (callFunc f cargs.toArray).run P w = .ok (.enter f cargs.toArray) w ∧
    Calls P f cargs.toArray w fun e w' => ∃ (v cv : Value) (μ' : List Nat) (H' : List Blk), e = .returned cv ∧ VR μ' v cv ∧ Rel μ' H' w' ∧ Ext μ H w μ' H' w' ∧ R v H'

def nums : List Nat := [0, 1, 2, 3, 4, 5, 6, 7, 8, 9, 10, 11, 12, 13, 14, 15, 16, 17, 18, 19, 20, 21, 22, 23, 24, 25, 26, 27, 28, 29, 30, 31, 32, 33, 34, 35, 36, 37, 38, 39, 40, 41, 42, 43, 44, 45, 46, 47, 48, 49, 50, 51, 52, 53, 54, 55, 56, 57, 58, 59, 60, 61, 62, 63]
/-- A new block behind the others, and its name. -/
def newF : List Blk → Blk → List Nat → (Nat → List Blk → Prop) → Prop
  | _, _, [], _ => False
  | [], b, n :: _, k => k n [b]
  | x :: l, b, _ :: ns, k => newF l b ns fun n l' => k n (x :: l')

/-- 'n' cells, all 'z': kept as one word. -/
@[irreducible] def repl (n : Nat) (z : Value) : List Value := List.replicate n z

def oneF : List Value → VK → Prop
  | [z], k => k z
  | _, _ => False
def catF {α : Type} : List α → List α → (List α → Prop) → Prop
  | [], m, k => k m
  | a :: l, m, k => catF l m fun l' => k (a :: l')
/-- 'n' times the cells of a zero value: kept as one word. -/
@[irreducible] def replZ (n : Nat) (z : List Value) : List Value := (List.replicate n z).flatten
/-- The cells of a slice's elements, and their number. -/
def srcF (H : List Blk) (size : Nat) (x : Value) (k : List Value → Nat → Prop) : Prop :=
  match x with
  | .slice none n _ => Req (Nat.beq n 0) fun _ => k [] 0
  | .slice (some ⟨b, p, none⟩) n _ => getF H b fun blk => match blk with
    | .cells c _ => dropF c p fun d => takeF d (n * size) fun l => k l n
    | _ => False
  | _ => False
def appF (H : List Blk) (e : TypeId) (j : TInf) (s x : Value) (k : Value → List Blk → Prop) : Prop :=
  srcF H j.size x fun new n => match s with
  | .slice base len cap => Bif (decide (len + n ≤ cap))
      (fun _ => match base with
        | some ⟨b, o, none⟩ => getF H b fun blk => match blk with
          | .cells c e' => Req (new.all one) fun _ => putF c (o + len * j.size) new fun c' => setF H b (.cells c' e') fun H' => k (.slice (some ⟨b, o, none⟩) (len + n) cap) H'
          | _ => False
        | none => k (.slice none (len + n) cap) H
        | _ => False)
      (fun _ => Req (decide (len + n ≤ 140737488355328) && decide (Builtin.nextslicecap (len + n) cap * j.bytes ≤ 281474976710656) && Nat.blt 0 j.bytes) fun _ => srcF H j.size s fun old _ => catF old new fun on =>
        ∀ nc : Nat, len + n ≤ nc → nc ≤ 9223372036854775807 → catF on (replZ (nc - (len + n)) j.zero) fun c => newF H (.cells c e) nums fun m H' => k (.slice (some ⟨m, 0, none⟩) (len + n) nc) H')
  | _ => False
def copyF (H : List Blk) (d s : Value) (k : Value → List Blk → Prop) : Prop :=
  match d, s with
  | .slice (some ⟨b, o, none⟩) dl _, .slice (some ⟨b2, p, none⟩) sl _ => getF H b2 fun blk2 => match blk2 with
    | .cells c2 _ => dropF c2 p fun q => takeF q (Nat.min sl dl) fun l => Req (l.all one) fun _ => getF H b fun blk => match blk with
      | .cells c e => putF c o l fun c' => setF H b (.cells c' e) fun H' => k (.int .i64 l.length) H'
      | _ => False
    | _ => False
  | _, _ => False

/-- An operation that makes memory, writes, or calls. -/
def effectF (P : Program) (T : Tab) (H : List Blk) (ts : List Value) (op : Op) (k : Value → List Blk → Prop) : Prop :=
  match op with
  | .alloc e => tinfF T e fun i => newF H (.cells i.zero e) nums fun n H' => k (.pointer (some ⟨n, 0, none⟩)) H'
  | .box e x => evF ts x fun v => newF H (.cells v.cells.toList e) nums fun n H' => k (.pointer (some ⟨n, 0, none⟩)) H'
  | .store t a x => evF ts a fun a => evF ts x fun v => storeF T H t a v fun H' => k undef H'
  | .buildSlice t len ps => evpF ts ps.toList fun ps => tinfF T t fun i => match i.desc with
    | .slice e => tinfF T e fun j => Req (Nat.beq j.size 1 && Nat.ble len 16777216) fun _ => oneF j.zero fun z => fillF (fun i k => k (i * 1, 1)) ps (List.replicate len z) fun cs => newF H (.cells cs e) nums fun n H' => k (.slice (some ⟨n, 0, none⟩) len len) H'
    | _ => False
  | .makeSlice t l c => evF ts l fun l => evF ts c fun c => tinfF T t fun i => match i.desc, l, c with
    | .slice e, .int _ l, .int _ c => tinfF T e fun j => Req (Nat.beq j.size 1 && decide (0 ≤ l) && decide (l ≤ c) && decide (j.bytes * c ≤ 281474976710656) && decide (c ≤ 9223372036854775807)) fun _ => oneF j.zero fun z =>
        newF H (.cells (repl c.toNat z) e) nums fun n H' => k (.slice (some ⟨n, 0, none⟩) l.toNat c.toNat) H'
    | _, _, _ => False
  | .call ⟨.builtin .append, args, tys⟩ => evsF ts args.toList fun vs => getF tys.toList 0 fun t => getF tys.toList 1 fun t1 => tinfF T t fun i => tinfF T t1 fun i1 => match i.desc, i1.desc, vs with
    | .slice e, .slice _, [s, x] => tinfF T e fun j => appF H e j s x k
    | _, _, _ => False
  | .call ⟨.builtin .copy, args, tys⟩ => evsF ts args.toList fun vs => getF tys.toList 0 fun t => tinfF T t fun i => match i.desc, vs with
    | .slice e, [d, s] => tinfF T e fun j => Req (Nat.beq j.size 1) fun _ => copyF H d s k
    | _, _ => False
  | .call ⟨.value f, args, _⟩ => evF ts f fun f => evsF ts args.toList fun vs => match f with
    | .func (.func g) a c => ACalls P g (a.toList ++ vs ++ c.toList) H k
    | _ => False
  | _ => False

/-! ### Code -/
inductive Ex where
  | normal
  | exit (id : Nat)
  | ret

def putDst (ts : List Value) (dst : Option Tmp) (v : Value) (k : List Value → Prop) : Prop :=
  match dst with
  | none => k ts
  | some d => setF ts d v k

/-- Is the operation wanted? -/
def wantF (ops : List Oper) (ts : List Value) (g : Option (Nat × Bool)) (yes no : Unit → Prop) : Prop :=
  match g with
  | none => yes ()
  | some (j, want) => getF ops j fun o => match o.dst with
    | none => no ()
    | some d => getF ts d fun v => match v, want with
      | .bool b, true => Bif b yes no
      | .bool b, false => Bif b no yes
      | .chan _, _ => False
      | _, _ => no ()

/-- The operations of a region, one behind the other. -/
def opsF (P : Program) (T : Tab) (ops : List Oper) : List Oper → List Value → List Blk → (List Value → List Blk → Prop) → Prop
  | [], ts, H, k => k ts H
  | o :: rest, ts, H, k => wantF ops ts o.guard
      (fun _ => match quietOp o.op with
        | true => quietS T H ts o.op fun v => putDst ts o.dst v fun ts => opsF P T ops rest ts H k
        | false => effectF P T H ts o.op fun v H => putDst ts o.dst v fun ts => opsF P T ops rest ts H k)
      (fun _ => putDst ts o.dst undef fun ts => opsF P T ops rest ts H k)

/-- A load that has been carried out: its number, its type, its address, what it gave. -/
structure Seen where
  i : Nat
  t : TypeId
  a : Value
  v : Value

/-- A load that has been carried out would give the same again. -/
def keep1 (T : Tab) (H : List Blk) (s : Seen) (k : Unit → Prop) : Prop :=
  match s.a with
  | .slice (some ⟨b, o, none⟩) _ _ => (∃ l : List Int, BytesAt H b o l ∧ Value.agg (l.map fun n => Value.int .u8 n).toArray = s.v) ∧ k ()
  | a => loadF T H s.t a fun v => v = s.v ∧ k ()
/-- The loads of these numbers would give the same again. -/
def keepF (T : Tab) (H : List Blk) (ks : List Nat) : List Seen → (Unit → Prop) → Prop
  | [], k => k ()
  | s :: l, k => match ks.any (Nat.beq s.i) with
    | true => keep1 T H s fun _ => keepF T H ks l k
    | false => keepF T H ks l k

/-- A conversion, and the bytes that it read. -/
def convP (T : Tab) (H : List Blk) (s d : TypeId) (x : Value) (k : Value → Option (List Value) → Prop) : Prop :=
  tinfF T s fun i => tinfF T d fun j => match i.desc, j.desc, x with
  | .slice e, .string, .slice none _ _ => tinfF T e fun q => Req (isU8 q.desc) fun _ => ∀ z : ByteArray, z.data = #[] → k (.string z) none
  | .slice e, .string, .slice (some ⟨b, o, none⟩) n _ => tinfF T e fun q => Req (isU8 q.desc) fun _ => ∃ l : List Int, l.length = n ∧ BytesAt H b o l ∧ k (.string (strOf l)) (some (l.map fun n => Value.int .u8 n))
  | _, .string, .string s => k (.string s) none
  | _, .int kd, .int _ n => k (.int kd (kd.wrap n)) none
  | _, _, _ => False
/-- A quiet operation of a region that draws its order; what is to be kept of it. -/
def quietP (T : Tab) (H : List Blk) (ts : List Value) (i : Nat) (op : Op) (L : List Seen) (k : Value → List Seen → Prop) : Prop :=
  match op with
  | .load t a => evF ts a fun a => loadF T H t a fun v => k v (⟨i, t, a, v⟩ :: L)
  | .convert s d x => evF ts x fun x => convP T H s d x fun v c => match c with | none => k v L | some c => k v (⟨i, s, x, .agg c.toArray⟩ :: L)
  | op => quietF T H ts op fun v => k v L

abbrev Plan := List (Nat × List Nat)
abbrev Hints := List (Nat × Plan)

/-- The operations of a region that draws its order, in the order of a plan. -/
def planF (P : Program) (T : Tab) (ops : List Oper) : Plan → List Seen → List Value → List Blk → (List Value → List Blk → Prop) → Prop
  | [], _, ts, H, k => k ts H
  | (i, ks) :: rest, L, ts, H, k => getF ops i fun o => wantF ops ts o.guard
      (fun _ => match quietOp o.op with
        | true => quietP T H ts i o.op L fun v L => putDst ts o.dst v fun ts => planF P T ops rest L ts H k
        | false => effectF P T H ts o.op fun v H => keepF T H ks L fun _ => putDst ts o.dst v fun ts => planF P T ops rest L ts H k)
      (fun _ => putDst ts o.dst undef fun ts => planF P T ops rest L ts H k)

def hintF : Hints → Nat → (Plan → Prop) → Prop
  | [], _, _ => False
  | (j, p) :: hs, i, k => match Nat.beq j i with | true => k p | false => hintF hs i k

abbrev AK := Ex → List Value → List Blk → Prop

def rounds (body : AK → List Value → List Blk → Prop) (K : AK) : Nat → List Value → List Blk → Prop
  | 0, _, _ => False
  | n + 1, ts, H => body (fun e ts H => match e with | .normal => rounds body K n ts H | e => K e ts H) ts H

/-- A value names only blocks below 'n'. -/
def bdv : Nat → Nat → Value → Bool
  | 0, _, _ => false
  | d + 1, n, v => match v with
    | .bool _ | .int _ _ | .string _ | .pointer none | .slice none _ _ | .nilFunc | .nilIface => true
    | .pointer (some ⟨i, _, none⟩) => Nat.blt i n
    | .slice (some ⟨i, _, none⟩) _ _ => Nat.blt i n
    | .agg cs => cs.toList.all (bdv d n)
    | .tuple cs => cs.toList.all (bdv d n)
    | .func (.func _) a c => a.toList.all (bdv d n) && c.toList.all (bdv d n)
    | .iface _ v => bdv d n v
    | _ => false
/-- A frame of which less is known: each slot as it was, or 'junk'. -/
def fadeS (n : Nat) : List Value → List Value → Prop
  | [], [] => True
  | _ :: l, .chan none :: m => fadeS n l m
  | v :: l, w :: m => bdv 6 n w = true ∧ v = w ∧ fadeS n l m
  | _, _ => False
/-- A heap of which the younger blocks are forgotten: none that is kept names one of them; what is read only stood there ahead of the loop. -/
def fadeH (n : Nat) : List Blk → List Blk → List Blk → Prop
  | _, _, [] => True
  | H0, b :: H, .cells c e :: H2 => c.all (bdv 6 n) = true ∧ b = .cells c e ∧ fadeH n H0.tail H H2
  | b0 :: H0, b :: H, .ro f :: H2 => b0 = .ro f ∧ b = .ro f ∧ fadeH n H0 H H2
  | H0, _ :: H, .gone :: H2 => fadeH n H0.tail H H2
  | _, _, _ => False
/-- What is known ahead of the next round: less than behind the last one. -/
def FadeC (H0 : List Blk) (ts : List Value) (H : List Blk) (ts2 : List Value) (H2 : List Blk) : Prop := Nat.ble H0.length H2.length = true ∧ fadeS H2.length ts ts2 ∧ fadeH H2.length H0 H H2
/-- The same by any reason. -/
def Weak (H0 : List Blk) (ts : List Value) (H : List Blk) (ts2 : List Value) (H2 : List Blk) : Prop :=
  ∀ (μ0 : List Nat) (w0 : World) (μ : List Nat) (w : World) (tmps : List Value), Rel μ0 H0 w0 → SRs μ ts tmps → Rel μ H w → Ext μ0 H0 w0 μ H w → ∃ μ2, SRs μ2 ts2 tmps ∧ Rel μ2 H2 w ∧ Ext μ0 H0 w0 μ2 H2 w
def Fade (H0 : List Blk) (ts : List Value) (H : List Blk) (ts2 : List Value) (H2 : List Blk) : Prop := FadeC H0 ts H ts2 H2 ∨ Weak H0 ts H ts2 H2
def roundsF (body : AK → List Value → List Blk → Prop) (K : AK) (H0 : List Blk) : Nat → List Value → List Blk → Prop
  | 0, _, _ => False
  | n + 1, ts, H => body (fun e ts H => match e with | .normal => ∃ ts2 H2, Fade H0 ts H ts2 H2 ∧ roundsF body K H0 n ts2 H2 | e => K e ts H) ts H

/-- A loop: for some number of rounds. -/
inductive ALoop (body : AK → List Value → List Blk → Prop) (K : AK) (ts : List Value) (H : List Blk) : Prop
  | of (n : Nat) (h : rounds body K n ts H) : ALoop body K ts H
  | fade (n : Nat) (ts2 : List Value) (H2 : List Blk) (hf : Fade H ts H ts2 H2) (h : roundsF body K H n ts2 H2) : ALoop body K ts H

def AWp (P : Program) (T : Tab) (hs : Hints) : Code → AK → List Value → List Blk → Prop
  | .skip, K, ts, H => K .normal ts H
  | .region _ ops false, K, ts, H => opsF P T ops.toList ops.toList ts H (K .normal)
  | .region id ops true, K, ts, H => hintF hs id fun p => planF P T ops.toList p [] ts H (K .normal)
  | .seq a b, K, ts, H => AWp P T hs a (fun e ts H => match e with | .normal => AWp P T hs b K ts H | e => K e ts H) ts H
  | .cond c a b, K, ts, H => evF ts c fun v => match v with | .bool q => Bif q (fun _ => AWp P T hs a K ts H) (fun _ => AWp P T hs b K ts H) | _ => False
  | .block id c, K, ts, H => AWp P T hs c (fun e ts H => match e with | .exit j => (match Nat.beq j id with | true => K .normal ts H | false => K (.exit j) ts H) | e => K e ts H) ts H
  | .loop c, K, ts, H => ALoop (AWp P T hs c) K ts H
  | .exit id, K, ts, H => K (.exit id) ts H
  | .ret, K, ts, H => K .ret ts H
  | _, _, _, _ => False

/-- What a function hands back. -/
def resF (T : Tab) (H : List Blk) (ts : List Value) : List ResultVar → (List Value → Prop) → Prop
  | [], k => k []
  | .tmp t :: rs, k => getF ts t fun v => sureF v fun v => resF T H ts rs fun vs => k (v :: vs)
  | .cell a t :: rs, k => getF ts a fun p => sureF p fun p => loadF T H t p fun v => resF T H ts rs fun vs => k (v :: vs)
def postF (T : Tab) (rs : List ResultVar) (R : Value → List Blk → Prop) : AK
  | .exit _, _, _ => False
  | _, ts, H => resF T H ts rs fun vs => match vs with
    | [v] => R v H
    | vs => R (.tuple vs.toArray) H

end Go.Aw
namespace Go.Aw
def bodyOf (f : Func) : Code := match f.body with | some c => c | none => .refuse ""
end Go.Aw
