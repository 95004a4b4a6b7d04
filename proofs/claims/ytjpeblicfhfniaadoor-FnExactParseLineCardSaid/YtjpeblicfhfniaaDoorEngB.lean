/- The engine, second part: the machine over plain data. Its arithmetic stands behind a variable (Mth), so that evaluating the machine does not evaluate it. No condition. -/
import Derived.Test.YtjpeblicfhfniaaDoorEngA
import GoSem.Core.Code
namespace Go.Proofs.YtjpeblicfhfniaaDoor.Eng
set_option linter.unusedVariables false
set_option linter.unusedSimpArgs false

/-- The arithmetic, the lists, the texts. -/
structure Mth where
  wrap : IntKind → Int → Int
  add : Int → Int → Int
  sub : Int → Int → Int
  mul : Int → Int → Int
  quo : Int → Int → Int
  rem : Int → Int → Int
  bit : BinOp → IntKind → Int → Int → Int
  shl : IntKind → Int → Int → Int
  shr : IntKind → Int → Int → Int
  lt : Int → Int → Prop
  le : Int → Int → Prop
  eq : Int → Int → Prop
  dec : Prop → Bool
  not : Bool → Bool
  same : Bool → Bool → Bool
  or : Bool → Bool → Bool
  len : {α : Type} → List α → Nat
  get : {α : Type} → List α → Int → α → α
  set : {α : Type} → List α → Int → α → List α
  app : {α : Type} → List α → List α → List α
  cut : {α : Type} → List α → Int → Int → List α
  rep : {α : Type} → Int → α → List α
  ofN : Nat → Int
  room : {α : Type} → List α → List α → Prop
  makes : Int → Prop
  sEq : ByteArray → ByteArray → Bool
  sLt : ByteArray → ByteArray → Bool
  sLen : ByteArray → Int
  sGet : ByteArray → Int → Int
  sCut : ByteArray → Int → Int → ByteArray
  sApp : ByteArray → ByteArray → ByteArray
  sRoom : ByteArray → ByteArray → Prop
  toB : ByteArray → List Int
  ofB : List Int → ByteArray
  maxI : Int → Int → Int
  minI : Int → Int → Int
  rune : ByteArray → Int → Int
  runeW : ByteArray → Int → Int
  mget : {α γ : Type} → List (α × γ) → α → γ → γ
  mhas : {α γ : Type} → List (α × γ) → α → Prop
  mput : {α γ : Type} → List (α × γ) → α → γ → List (α × γ)
  mdel : {α γ : Type} → List (α × γ) → α → List (α × γ)
  isN : {α : Type} → Option α → Prop
  val : {α : Type} → Option α → α → α
  over : {α : Type} → List α → Int → List α → List α
  same2 : {α : Type} → List α → List α → Prop

inductive SV : Type where
  | hole (n : Nat)
  | pv (dep : List Nat) (t : Ty) (x : t.den)
  | nils
  | ref (r : Nat)
  | ad (r : Nat) (e : Ty) (i : Int) (p : List Nat)
  | fad (dep : List Nat) (e : Ty) (xs : List e.den) (i : Int) (p : List Nat)
  | nilA
  | consA (h t : SV)
  | nilT
  | consT (h t : SV)
  | nilI
  | nilP
  | nilM
  | arp (r : Nat) (e : Ty) (n : Nat)
  | vw (r : Nat) (e : Ty) (lo hi : Int)
  | ifs (t : TypeId) (a : Ty) (v : SV)
  | gl (g : Nat)
  | fn (f : Nat)
inductive Ch : Type where
  | row (lvl : Nat) (e : Ty) (xs : List e.den)
  | box (v : SV)
  | iter (s : ByteArray) (p : Int)
  | mp (k v : Ty) (xs : List (k.den × v.den))
  | glob (l : List (Nat × Value))
structure Ctx where
  nt : Nat
  slots : List (Nat × SV)
  roots : List (Nat × Ch)
  anch : List SV
/-- What is known of the types: t ↦ its form; the bytes of an element; the level of a row that is made at this type; whether `r[:h]` of an own row hands the row on. -/
structure Tab where
  ty : TypeId → Option Ty
  lv : TypeId → Nat
  mv : Bool

def look {α : Type} (n : Nat) : List (Nat × α) → Option α
  | [] => none
  | (m, x) :: l => if m = n then some x else look n l
def putL {α : Type} (n : Nat) (x : α) : List (Nat × α) → List (Nat × α)
  | [] => [(n, x)]
  | (m, y) :: l => if m = n then (n, x) :: l else (m, y) :: putL n x l
def del {α : Type} (n : Nat) : List (Nat × α) → List (Nat × α)
  | [] => []
  | (m, y) :: l => if m = n then del n l else (m, y) :: del n l
def putS {α : Type} (n : Nat) (x : α) (l : List (Nat × α)) : List (Nat × α) := (n, x) :: del n l
def has {α : Type} (n : Nat) : List (Nat × α) → Bool
  | [] => false
  | (m, _) :: l => if m = n then true else has n l
def mem (n : Nat) : List Nat → Bool
  | [] => false
  | m :: l => if m = n then true else mem n l
def fresh : Nat → Nat → List (Nat × Ch) → Nat
  | 0, n, _ => n
  | f + 1, n, l => if has n l then fresh f (n + 1) l else n
def Ctx.get (Γ : Ctx) (n : Nat) : SV := (look n Γ.slots).getD (.hole 0)
def Ctx.new (Γ : Ctx) : Nat := fresh Γ.roots.length 0 Γ.roots
def inKB (k : IntKind) (n : Int) : Bool := decide (k.min ≤ n) && decide (n ≤ k.max)
def ofConst : Value → SV
  | .int k n => if inKB k n then .pv [] (.int k) n else .hole 1
  | .bool b => .pv [] .bool b
  | .string s => if s.size ≤ maxL then .pv [] .str s else .hole 1
  | .slice none 0 0 => .nils
  | .nilIface => .nilI
  | .pointer none => .nilP
  | .map none => .nilM
  | _ => .hole 1
def Ctx.eval (Γ : Ctx) : Operand → SV
  | .tmp t => Γ.get t
  | .const v => ofConst v
  | .global g => .gl g
  | .func f => .fn f
def Ty.hasSl : Ty → Bool
  | .pair a b => a.hasSl || b.hasSl
  | .sl _ => true
  | .arr _ e => e.hasSl
  | .mp _ _ => true
  | .ptr _ => true
  | .ialt _ a r => a.hasSl || r.hasSl
  | _ => false
/-- the rest of an interface's forms -/
def isI : Ty → Bool
  | .inil => true
  | .ialt _ _ r => isI r
  | _ => false
def tyAt : Ty → List Nat → Option Ty
  | t, [] => some t
  | .pair a _, 0 :: p => tyAt a p
  | .pair _ b, (n + 1) :: p => tyAt b (n :: p)
  | _, _ :: _ => none
def offAt : Ty → List Nat → Nat
  | .pair a _, 0 :: p => offAt a p
  | .pair a b, (n + 1) :: p => a.sz + offAt b (n :: p)
  | _, _ => 0
def getAt : (t : Ty) → t.den → List Nat → Option ((u : Ty) × u.den)
  | t, x, [] => some ⟨t, x⟩
  | .pair a _, x, 0 :: p => getAt a x.1 p
  | .pair _ b, x, (n + 1) :: p => getAt b x.2 (n :: p)
  | _, _, _ :: _ => none
def as (t : Ty) (s : (u : Ty) × u.den) : Option t.den := if h : s.1 = t then some (h ▸ s.2) else none
def setAt : (t : Ty) → t.den → List Nat → ((u : Ty) × u.den) → Option t.den
  | t, _, [], s => as t s
  | .pair a b, x, 0 :: p, s => (setAt a x.1 p s).map fun y => (y, x.2)
  | .pair a b, x, (n + 1) :: p, s => (setAt b x.2 (n :: p) s).map fun y => (x.1, y)
  | _, _, _ :: _, _ => none
/-- the zero of a struct or a variable, its rows as nil -/
def zeroSV : Ty → SV
  | .sl _ => .nils
  | .unit => .nilA
  | .pair a b => .consA (zeroSV a) (zeroSV b)
  | .any => .nilI
  | .inil => .nilI
  | .ialt _ _ _ => .nilI
  | .ptr _ => .nilP
  | .mp _ _ => .nilM
  | t => .pv [] t t.zero
def SV.sz : SV → Nat
  | .hole n => n
  | .pv _ t _ => t.sz
  | .nilA => 0
  | .consA a b => a.sz + b.sz
  | _ => 1
def SV.tup : SV → Bool
  | .nilT => true | .consT _ _ => true | _ => false
def SV.isAgg : SV → Bool
  | .nilA => true | .consA _ _ => true | .pv _ t _ => t.agg | _ => false
def fits : SV → Ty → Bool
  | .consA a b, .pair x y => fits a x && fits b y
  | .nilA, .unit => true
  | .pv _ t _, e => decide (t = e)
  | .hole n, e => decide (n = e.sz)
  | .nils, .sl _ => true
  | .ref _, .sl _ => true
  | .nilI, .any => true
  | .nilI, .inil => true
  | .nilI, .ialt _ _ _ => true
  | .nilP, .ptr _ => true
  | .nilM, .mp _ _ => true
  | .ref _, .mp _ _ => true
  | .ad _ _ _ _, .ptr _ => true
  | .fad _ _ _ _ _, .ptr _ => true
  | .ifs _ _ _, .ialt _ _ _ => true
  | _, _ => false
def noHole : SV → Bool
  | .hole _ => false
  | .consA a b => noHole a && noHole b
  | .nilT => false
  | .consT _ _ => false
  | _ => true
def svAt : SV → List Nat → Option SV
  | v, [] => some v
  | .consA a _, 0 :: p => svAt a p
  | .consA _ b, (n + 1) :: p => svAt b (n :: p)
  | .pv d t x, p => (getAt t x p).map fun s => .pv d s.1 s.2
  | _, _ => none
def svSet : SV → List Nat → SV → Option SV
  | v, [], u => if u.sz = v.sz ∧ u.isAgg = v.isAgg then some u else none
  | .consA a b, 0 :: p, u => (svSet a p u).map fun y => .consA y b
  | .consA a b, (n + 1) :: p, u => (svSet b (n :: p) u).map fun y => .consA a y
  | _, _, _ => none
def kill (r : Nat) : SV → SV
  | .pv d t x => if mem r d then .hole t.sz else .pv d t x
  | .ref q => if q = r then .hole 1 else .ref q
  | .ad q e i p => if q = r then .hole 1 else .ad q e i p
  | .fad d e xs i p => if mem r d then .hole 1 else .fad d e xs i p
  | .consA a b => .consA (kill r a) (kill r b)
  | .consT a b => .consT (kill r a) (kill r b)
  | .arp q e n => if q = r then .hole 1 else .arp q e n
  | .vw q e l h => if q = r then .hole 1 else .vw q e l h
  | .ifs t a v => .ifs t a (kill r v)
  | v => v
/-- only what was read out of r -/
def killD (r : Nat) : SV → SV
  | .pv d t x => if mem r d then .hole t.sz else .pv d t x
  | .fad d e xs i p => if mem r d then .hole 1 else .fad d e xs i p
  | .consA a b => .consA (killD r a) (killD r b)
  | .consT a b => .consT (killD r a) (killD r b)
  | .ifs t a v => .ifs t a (killD r v)
  | v => v
def mapS (f : SV → SV) : List (Nat × SV) → List (Nat × SV)
  | [] => []
  | (n, v) :: l => (n, f v) :: mapS f l
def mapC (f : SV → SV) : List (Nat × Ch) → List (Nat × Ch)
  | [] => []
  | (n, .box v) :: l => (n, .box (f v)) :: mapC f l
  | (n, .row a b c) :: l => (n, .row a b c) :: mapC f l
  | (n, .iter s p) :: l => (n, .iter s p) :: mapC f l
  | (n, .mp k v xs) :: l => (n, .mp k v xs) :: mapC f l
  | (n, .glob g) :: l => (n, .glob g) :: mapC f l
def mapA (f : SV → SV) : List SV → List SV
  | [] => []
  | v :: l => f v :: mapA f l
def Ctx.map (f : SV → SV) (Γ : Ctx) : Ctx := ⟨Γ.nt, mapS f Γ.slots, mapC f Γ.roots, mapA f Γ.anch⟩
def Ctx.set (Γ : Ctx) (r : Nat) (c : Ch) : Ctx := ⟨Γ.nt, Γ.slots, putL r c Γ.roots, Γ.anch⟩
def Ctx.del (Γ : Ctx) (r : Nat) : Ctx := ⟨Γ.nt, Γ.slots, Eng.del r Γ.roots, Γ.anch⟩
def Ctx.add (Γ : Ctx) (r : Nat) (c : Ch) : Ctx := ⟨Γ.nt, Γ.slots, (r, c) :: Γ.roots, Γ.anch⟩
/-- The slot d gets v. -/
def Ctx.put (Γ : Ctx) (d : Option Nat) (v : SV) : Option Ctx :=
  match d with
  | none => some Γ
  | some n => if n < Γ.nt then some ⟨Γ.nt, putS n v Γ.slots, Γ.roots, Γ.anch⟩ else none
def Ctx.on (Γ : Ctx) (d : Option Nat) (v : SV) (K : Ctx → Prop) : Prop := match Γ.put d v with | some Γ' => K Γ' | none => False
def Ctx.root (Γ : Ctx) (r : Nat) : Option Ch := look r Γ.roots

/-- A slot's value as plain data of the form t, with the roots that it is read out of. -/
def den0 (R : List (Nat × Ch)) : (t : Ty) → SV → Option (t.den × List Nat)
  | t, .pv d u x => (as t ⟨u, x⟩).map fun y => (y, d)
  | .sl e, .nils => some ([], [])
  | .sl e, .ref r => match look r R with
    | some (.row _ f xs) => (as (.sl e) ⟨.sl f, xs⟩).map fun y => (y, [r])
    | _ => none
  | .unit, .nilA => some ((), [])
  | .pair a b, .consA x y => match den0 R a x, den0 R b y with
    | some p, some q => some ((p.1, q.1), p.2 ++ q.2)
    | _, _ => none
  | .any, .nilI => some (Value.nilIface, [])
  | .inil, .nilI => some ((), [])
  | .ialt _ _ r, .nilI => some (.inr r.zero, [])
  | .ialt t a r, .ifs u b v => if u = t ∧ b = a ∧ v.isAgg = a.agg then (den0 R a v).map fun y => (.inl y.1, y.2) else if isI r then (den0 R r (.ifs u b v)).map fun y => (.inr y.1, y.2) else none
  | .ptr _, .nilP => some (none, [])
  | .ptr e, .ad r f i [] => match look r R with
    | some (.box v) => if f = e ∧ i = 0 then (den0 R e v).map fun y => (some y.1, r :: y.2) else none
    | _ => none
  | .mp _ _, .nilM => some (none, [])
  | .mp k v, .ref r => match look r R with
    | some (.mp k' v' xs) => (as (.mp k v) ⟨.mp k' v', some xs⟩).map fun y => (y, [r])
    | _ => none
  | _, _ => none
def denL (R : List (Nat × Ch)) (t : Ty) : List SV → Option (List t.den × List Nat)
  | [] => some ([], [])
  | v :: l => match den0 R t v, denL R t l with
    | some p, some q => some (p.1 :: q.1, p.2 ++ q.2)
    | _, _ => none
/-- A slot's value as data of the form t of which n levels of rows are one's own: these roots are given away. -/
def denN (R : List (Nat × Ch)) : (n : Nat) → (t : Ty) → SV → Option (t.den × List Nat)
  | _, .sl e, .nils => some ([], [])
  | n, .sl e, .ref r => match look r R with
    | some (.row m f xs) => if m + 1 = n then (as (.sl e) ⟨.sl f, xs⟩).map fun y => (y, [r]) else none
    | _ => none
  | _, .unit, .nilA => some ((), [])
  | n, .pair a b, .consA x y => match denN R n a x, denN R n b y with
    | some p, some q => some ((p.1, q.1), p.2 ++ q.2)
    | _, _ => none
  | _, .any, .nilI => some (Value.nilIface, [])
  | _, .inil, .nilI => some ((), [])
  | _, .ialt _ _ r, .nilI => some (.inr r.zero, [])
  | n, .ialt t a r, .ifs u b v => if u = t ∧ b = a ∧ v.isAgg = a.agg then (denN R n a v).map fun y => (.inl y.1, y.2) else if isI r then (denN R n r (.ifs u b v)).map fun y => (.inr y.1, y.2) else none
  | _, .ptr _, .nilP => some (none, [])
  | n + 1, .ptr e, .ad r f i [] => match look r R with
    | some (.box v) => if f = e ∧ i = 0 then (denN R n e v).map fun y => (some y.1, r :: y.2) else none
    | _ => none
  | _, .mp _ _, .nilM => some (none, [])
  | _ + 1, .mp k v, .ref r => match look r R with
    | some (.mp k' v' xs) => (as (.mp k v) ⟨.mp k' v', some xs⟩).map fun y => (y, [r])
    | _ => none
  | _, t, .pv d u x => if t.hasSl then none else (as t ⟨u, x⟩).map fun y => (y, [])
  | _, _, _ => none
def isD : List Nat → Bool | [] => true | _ => false

section
variable (M : Mth)
def cmp (op : BinOp) (x y : Int) : Option Bool :=
  match op with
  | .eql => some (M.dec (M.eq x y))
  | .neq => some (M.not (M.dec (M.eq x y)))
  | .lss => some (M.dec (M.lt x y))
  | .leq => some (M.dec (M.le x y))
  | .gtr => some (M.dec (M.lt y x))
  | .geq => some (M.dec (M.le y x))
  | _ => none
def intBin (op : BinOp) (k : IntKind) (x y : Int) (K : SV → Prop) : Prop :=
  match op with
  | .add => K (.pv [] (.int k) (M.wrap k (M.add x y)))
  | .sub => K (.pv [] (.int k) (M.wrap k (M.sub x y)))
  | .mul => K (.pv [] (.int k) (M.wrap k (M.mul x y)))
  | .quo => (M.eq y 0 → False) ∧ K (.pv [] (.int k) (M.wrap k (M.quo x y)))
  | .rem => (M.eq y 0 → False) ∧ K (.pv [] (.int k) (M.rem x y))
  | .and => K (.pv [] (.int k) (M.bit .and k x y))
  | .or => K (.pv [] (.int k) (M.bit .or k x y))
  | .xor => K (.pv [] (.int k) (M.bit .xor k x y))
  | .andNot => K (.pv [] (.int k) (M.bit .andNot k x y))
  | op => match cmp M op x y with | some b => K (.pv [] .bool b) | none => False
def bin (op : BinOp) (a b : SV) (K : SV → Prop) : Prop :=
  match a, b with
  | .pv _ (.int k) x, .pv _ (.int j) y => match op with
    | .shl => M.le 0 y ∧ K (.pv [] (.int k) (M.shl k x y))
    | .shr => M.le 0 y ∧ K (.pv [] (.int k) (M.shr k x y))
    | op => if k = j then intBin M op k x y K else False
  | .pv _ .str x, .pv _ .str y => match op with
    | .add => M.sRoom x y ∧ K (.pv [] .str (M.sApp x y))
    | .eql => K (.pv [] .bool (M.sEq x y))
    | .neq => K (.pv [] .bool (M.not (M.sEq x y)))
    | .lss => K (.pv [] .bool (M.sLt x y))
    | .geq => K (.pv [] .bool (M.not (M.sLt x y)))
    | .gtr => K (.pv [] .bool (M.not (M.or (M.sLt x y) (M.sEq x y))))
    | .leq => K (.pv [] .bool (M.or (M.sLt x y) (M.sEq x y)))
    | _ => False
  | _, _ => False
def svLen : SV → List (Nat × Ch) → Option Int
  | .pv _ (.sl _) xs, _ => some (M.ofN (M.len xs))
  | .pv _ .str s, _ => some (M.sLen s)
  | .nils, _ => some 0
  | .ref r, R => match look r R with
    | some (.row _ _ xs) => some (M.ofN (M.len xs))
    | _ => none
  | _, _ => none
end

/-! ### calls -/
@[reducible] def DP : List (Bool × Nat × Ty) → Type
  | [] => Unit
  | p :: l => p.2.2.den × DP l
@[reducible] def DR : List (Nat × Ty) → Type
  | [] => Unit
  | p :: l => p.2.den × DR l
/-- What a call of a Go function is known to do: of each parameter whether it is written (true), how many levels of rows are handed over, its form; of each result the levels that it owns, its form. -/
structure Con0 where
  ps : List (Bool × Nat × Ty)
  rs : List (Nat × Ty)
  pre : DP ps → Prop
  post : DP ps → DR rs → DP ps → Prop
/-- With the package's variables that are read. -/
structure Con extends Con0 where
  gl : List (Nat × Value)
def Con.of (c : Con0) : Con := { c with gl := [] }
def WFr : (rs : List (Nat × Ty)) → DR rs → Prop
  | [], _ => True
  | p :: rs, y => WF p.2 y.1 ∧ WFr rs y.2
/-- what is written -/
def WFo : (ps : List (Bool × Nat × Ty)) → DP ps → Prop
  | [], _ => True
  | p :: ps, x => (match p.1, p.2.1 with | true, _ + 1 => WF p.2.2 x.1 | _, _ => True) ∧ WFo ps x.2
def WFp : (ps : List (Bool × Nat × Ty)) → DP ps → Prop
  | [], _ => True
  | p :: ps, x => WF p.2.2 x.1 ∧ WFp ps x.2
/-- n levels are all that there is. -/
def deepOk : Nat → Ty → Bool
  | n, .pair a b => deepOk n a && deepOk n b
  | 0, .sl _ => false
  | n + 1, .sl e => deepOk n e
  | 0, .ptr _ => false
  | n + 1, .ptr e => deepOk n e
  | 0, .mp _ _ => false
  | _ + 1, .mp k v => !k.hasSl && !v.hasSl
  | _, .arr _ e => !e.hasSl
  | n, .ialt _ a r => deepOk n a && deepOk n r
  | _, _ => true
/-- Forms whose rows at n levels become roots. -/
def rootsOk : Nat → Ty → Bool
  | 0, _ => true
  | n, .pair a b => rootsOk n a && rootsOk n b
  | n + 1, .ialt _ a r => rootsOk (n + 1) a && rootsOk (n + 1) r && isI r
  | _ + 1, .ptr _ => false
  | _ + 1, .arr _ e => !e.hasSl
  | _, _ => true
/-- The arguments as data: what is read out of which roots, which roots are handed over for good, which are written. -/
def argsD (R : List (Nat × Ch)) : (ps : List (Bool × Nat × Ty)) → List SV → Option (DP ps × List Nat × List Nat × List Nat)
  | [], [] => some ((), [], [], [])
  | (io, n, t) :: ps, v :: vs => match n with
    | 0 => match den0 R t v, argsD R ps vs with
      | some y, some q => some ((y.1, q.1), y.2 ++ q.2.1, q.2.2.1, q.2.2.2)
      | _, _ => none
    | n + 1 => match denN R (n + 1) t v, argsD R ps vs with
      | some y, some q => match io with
        | true => some ((y.1, q.1), q.2.1, q.2.2.1, y.2 ++ q.2.2.2)
        | false => some ((y.1, q.1), q.2.1, y.2 ++ q.2.2.1, q.2.2.2)
      | _, _ => none
  | _, _ => none
/-- The roots' new contents. -/
def back (n : Nat) : (t : Ty) → SV → t.den → List (Nat × Ch) → List (Nat × Ch)
  | .sl e, .ref r, xs, R => putL r (.row (n - 1) e xs) R
  | .pair a b, .consA u v, x, R => back n b v x.2 (back n a u x.1 R)
  | _, _, _, R => R
def backs : (ps : List (Bool × Nat × Ty)) → List SV → DP ps → List (Nat × Ch) → List (Nat × Ch)
  | (io, n, t) :: ps, v :: vs, x, R => match io, n with
    | true, m + 1 => backs ps vs x.2 (back (m + 1) t v x.1 R)
    | _, _ => backs ps vs x.2 R
  | _, _, _, R => R
def dels {α : Type} : List Nat → List (Nat × α) → List (Nat × α)
  | [], R => R
  | r :: l, R => dels l (del r R)
def nodupB : List Nat → Bool
  | [] => true
  | r :: l => !mem r l && nodupB l
def apartB : List Nat → List Nat → Bool
  | [], _ => true
  | r :: l, m => !mem r m && apartB l m
def killL : List Nat → SV → SV
  | [], v => v
  | r :: l, v => killL l (kill r v)
def killDL : List Nat → SV → SV
  | [], v => v
  | r :: l, v => killDL l (killD r v)
/-- A result: the state, and its new roots (ids above all old ones). -/
def resV (dep : List Nat) (n : Nat) : (t : Ty) → t.den → List Nat → List (Nat × Ch) → SV × List Nat × List (Nat × Ch)
  | .sl e, xs, ids, N => match n with
    | 0 => (.pv dep (.sl e) xs, ids, N)
    | m + 1 => match ids with
      | r :: ids => (.ref r, ids, (r, .row m e xs) :: N)
      | [] => (.hole 1, ids, N)
  | .pair a b, x, ids, N =>
    let p := resV dep n a x.1 ids N
    let q := resV dep n b x.2 p.2.1 p.2.2
    (.consA p.1 q.1, q.2.1, q.2.2)
  | .unit, _, ids, N => (.nilA, ids, N)
  | .mp k v, x, ids, N => match n with
    | 0 => (.pv dep (.mp k v) x, ids, N)
    | _ + 1 => match x with
      | none => (.nilM, ids, N)
      | some xs => match ids with
        | r :: ids => (.ref r, ids, (r, .mp k v xs) :: N)
        | [] => (.hole 1, ids, N)
  | .ptr e, x, ids, N => (.pv dep (.ptr e) x, ids, N)
  | .arr m e, x, ids, N => (.pv dep (.arr m e) x, ids, N)
  | .inil, _, ids, N => (.nilI, ids, N)
  | .ialt t a r, x, ids, N => match x with
    | .inl y => let p := resV dep n a y ids N; (.ifs t a p.1, p.2.1, p.2.2)
    | .inr y => if isI r then resV dep n r y ids N else (.hole 1, ids, N)
  | t, x, ids, N => (.pv [] t x, ids, N)
def resT (dep : List Nat) : (rs : List (Nat × Ty)) → DR rs → List Nat → List (Nat × Ch) → SV × List Nat × List (Nat × Ch)
  | [], _, ids, N => (.nilT, ids, N)
  | (n, t) :: rs, y, ids, N =>
    let p := resV dep n t y.1 ids N
    let q := resT dep rs y.2 p.2.1 p.2.2
    (.consT p.1 q.1, q.2.1, q.2.2)
def res1 (dep : List Nat) : (rs : List (Nat × Ty)) → DR rs → List Nat → SV × List Nat × List (Nat × Ch)
  | [(n, t)], y, ids => resV dep n t y.1 ids []
  | rs, y, ids => resT dep rs y ids []
def slots : (t : Ty) → t.den → Nat
  | .pair a b, x => slots a x.1 + slots b x.2
  | .sl _, _ => 1
  | .mp _ _, x => match x with | none => 0 | some _ => 1
  | .ialt _ a r, x => match x with | .inl y => slots a y | .inr y => if isI r then slots r y else 0
  | _, _ => 0
/-- how many roots the results want -/
def wants : (rs : List (Nat × Ty)) → DR rs → Nat
  | [], _ => 0
  | (n, t) :: l, y => (match n with | 0 => 0 | _ + 1 => slots t y.1) + wants l y.2
/-- n names that are no root's -/
def freshL : Nat → Nat → List (Nat × Ch) → Nat → List Nat
  | 0, _, _, _ => []
  | f + 1, k, R, n => match n with
    | 0 => []
    | m + 1 => if has k R then freshL f (k + 1) R (m + 1) else k :: freshL f (k + 1) R m
def rsOk (dep : List Nat) : List (Nat × Ty) → Bool
  | [] => true
  | (n, t) :: l => (n == 0 || isD dep || deepOk n t) && rootsOk n t && rsOk dep l
/-- Forms whose written rows stay where they are. -/
def stays : Ty → Bool
  | .pair a b => stays a && stays b
  | .sl _ => true
  | t => !t.hasSl
def psOk (dep : List Nat) : List (Bool × Nat × Ty) → Bool
  | [] => true
  | (io, n, t) :: l => (!io || n == 0 || ((isD dep || deepOk n t) && stays t)) && psOk dep l
def findGl : List (Nat × Ch) → List (Nat × Value)
  | [] => []
  | (_, .glob g) :: l => g ++ findGl l
  | _ :: l => findGl l
def subGl : List (Nat × Value) → List (Nat × Value) → Prop
  | [], _ => True
  | p :: l, g => look p.1 g = some p.2 ∧ subGl l g
def opCall (Γ : Ctx) (d : Option Nat) (K : Ctx → Prop) (c : Con) (vs : List SV) : Prop :=
  match argsD Γ.roots c.ps vs with
  | none => False
  | some q =>
    let dep := q.2.1
    let gone := q.2.2.1
    let io := q.2.2.2
    if nodupB (gone ++ io) = true ∧ apartB dep (gone ++ io) = true ∧ rsOk dep c.rs = true ∧ psOk dep c.ps = true then
      subGl c.gl (findGl Γ.roots) ∧ (True → c.pre q.1) ∧ ∀ y x', c.post q.1 y x' → WFr c.rs y → WFo c.ps x' →
        let ids := freshL (Γ.roots.length + wants c.rs y) 0 Γ.roots (wants c.rs y)
        if ids.length = wants c.rs y ∧ nodupB ids = true ∧ apartB ids (Γ.roots.map (·.1)) = true then
          let Γ1 := Γ.map (fun v => killL ids (killL gone (killDL io v)))
          let p := res1 dep c.rs y ids
          let R := dels gone (backs c.ps vs x' Γ1.roots)
          Ctx.on ⟨Γ1.nt, Γ1.slots, p.2.2 ++ R, Γ1.anch⟩ d p.1 K
        else False
    else False
end Go.Proofs.YtjpeblicfhfniaaDoor.Eng
