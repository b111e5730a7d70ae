import Derived.Test.YtjcphbcjnjeccaaSy1
import Derived.Orders
set_option linter.unusedVariables false
set_option linter.unusedSimpArgs false
namespace Go.Sy
open Go

abbrev Heap := List (Nat × SBk)
abbrev PC := List (SB × Bool)

/-! smart constructors -/
def SI.mkAdd : SI → SI → SI
  | .lit a, .lit b => .lit (a + b)
  | a, .lit 0 => a
  | .lit 0, a => a
  | a, b => .add a b
def SI.mkSub : SI → SI → SI
  | .lit a, .lit b => .lit (a - b)
  | a, .lit 0 => a
  | a, b => .sub a b
def SI.mkMul : SI → SI → SI
  | .lit a, .lit b => .lit (a * b)
  | a, b => .mul a b
def SI.mkTdiv : SI → SI → SI
  | .lit a, .lit b => .lit (a.tdiv b)
  | a, b => .tdiv a b
def SI.mkTmod : SI → SI → SI
  | .lit a, .lit b => .lit (a.tmod b)
  | a, b => .tmod a b
def SI.mkFdiv : SI → SI → SI
  | .lit a, .lit b => .lit (a.fdiv b)
  | a, b => .fdiv a b
def SI.mkWrap (k : IntKind) : SI → SI
  | .lit a => .lit (k.wrap a)
  | a => .wrap k a
def SI.mkNat : SI → SI
  | .lit a => .lit (a.toNat : Int)
  | .nat a => .nat a
  | .len l => .len l
  | a => .nat a
def SI.mkBits (op : Nat) (k : IntKind) : SI → SI → SI
  | .lit a, .lit b => .lit (bitsDen op k a b)
  | a, b => .bits op k a b

def SI.mkLen : SL → SI
  | .nil => .lit 0
  | .cons _ l => match SI.mkLen l with
    | .lit n => .lit (n + 1)
    | e => .add e (.lit 1)
  | .app a b => SI.mkAdd (SI.mkLen a) (SI.mkLen b)
  | .set l _ _ => SI.mkLen l
  | .rep n _ => SI.mkNat n
  | l => .len l
def SI.mkNth : SL → SI → SI
  | .cons x _, .lit 0 => x
  | .cons x l, .lit (.ofNat (n + 1)) => match l with
    | .cons y _ => if Nat.beq n 0 then y else .nth (.cons x l) (.lit (.ofNat (n + 1)))
    | _ => .nth (.cons x l) (.lit (.ofNat (n + 1)))
  | l, i => .nth l i
def SL.mkApp : SL → SL → SL
  | .nil, b => b
  | .cons x l, b => .cons x (SL.mkApp l b)
  | a, .nil => a
  | a, b => .app a b
/-- What is laid where it lies changes nothing. -/
def SL.mkSet (l : SL) (i x : SI) : SL := match x with
  | .nth l' i' => if l'.beq l && i'.beq i then l else .set l i x
  | x => .set l i x
def SL.takeN : SL → Nat → Option SL
  | _, 0 => some .nil
  | .nil, _ + 1 => some .nil
  | .cons x l, n + 1 => match SL.takeN l n with | some t => some (.cons x t) | none => none
  | _, _ + 1 => none
def SL.dropN : SL → Nat → SL
  | l, 0 => l
  | .nil, _ + 1 => .nil
  | .cons _ l, n + 1 => SL.dropN l n
  | l, n + 1 => .drop l (.lit (.ofNat (n + 1)))
def SL.mkTake (l : SL) (n : SI) : SL := if (SI.mkLen l).beq n then l else match n with
  | .lit (.ofNat m) => match SL.takeN l m with | some t => t | none => .take l n
  | n => .take l n
def SL.mkDrop (l : SL) (n : SI) : SL := match n with
  | .lit (.ofNat m) => SL.dropN l m
  | n => .drop l n

def SB.mkNot : SB → SB
  | .lit b => .lit (!b)
  | .not a => a
  | a => .not a
def SB.mkAnd : SB → SB → SB
  | .lit true, b => b
  | .lit false, _ => .lit false
  | a, .lit true => a
  | _, .lit false => .lit false
  | a, b => .and a b
def SB.mkEq (a b : SI) : SB :=
  match a, b with
  | .lit x, .lit y => .lit (intBeq x y)
  | a, b => if a.beq b then .lit true else .eq a b
def SB.mkLt (a b : SI) : SB :=
  match a, b with
  | .lit x, .lit y => .lit (decide (x < y))
  | a, b => if a.beq b then .lit false else .lt a b
def SB.mkLe (a b : SI) : SB :=
  match a, b with
  | .lit x, .lit y => .lit (decide (x ≤ y))
  | a, b => if a.beq b then .lit true else .not (.lt b a)
def SB.mkSame (a b : SB) : SB := if a.beq b then .lit true else .same a b
/-- A condition, as the path keeps it: without 'not'. -/
def asm : SB → Bool → SB × Bool
  | .not a, b => asm a (!b)
  | c, b => (c, b)

def pcFind (c : SB) : PC → Option Bool
  | [] => none
  | (d, b) :: r => if d.beq c then some b else pcFind c r

def SB.known (pc : PC) : SB → Option Bool
  | .lit b => some b
  | .not a => (a.known pc).map (!·)
  | .and a b =>
    match a.known pc, b.known pc with
    | some false, _ => some false
    | _, some false => some false
    | some true, some true => some true
    | _, _ => pcFind (.and a b) pc
  | .or a b =>
    match a.known pc, b.known pc with
    | some true, _ => some true
    | _, some true => some true
    | some false, some false => some false
    | _, _ => pcFind (.or a b) pc
  | c => pcFind c pc

def ofV1 : Value → Option SV
  | .int k n => some (.int k (.lit n))
  | .bool b => some (.bool (.lit b))
  | .pointer none => some .nilPtr
  | .nilFunc => some .nilFunc
  | .slice none 0 0 => some .nilSl
  | _ => none
def ofVL : List Value → Option (List SV)
  | [] => some []
  | v :: vs => match ofV1 v, ofVL vs with
    | some x, some xs => some (x :: xs)
    | _, _ => none
def ofV : Value → Option SV
  | .agg cs => (ofVL cs.toList).map .agg
  | v => ofV1 v

def fget (fr : List SV) (t : Nat) : SV := (fr[t]?).getD (.tup [])
def fput (fr : List SV) (d : Option Nat) (v : SV) : List SV :=
  match d with
  | some d => fr.set d v
  | none => fr

/-- A slot of which nothing is said. -/
def SV.isDead : SV → Bool
  | .dead => true
  | _ => false

def evalO (fr : List SV) : Operand → Option SV
  | .tmp t => if (fget fr t).isDead then none else some (fget fr t)
  | .const v => ofV v
  | .func f => some (.fn f [] [])
  | .global _ => none
def evalOL (fr : List SV) : List Operand → Option (List SV)
  | [] => some []
  | x :: xs => match evalO fr x, evalOL fr xs with
    | some v, some vs => some (v :: vs)
    | _, _ => none

def hget (n : Nat) : Heap → Option SBk
  | [] => none
  | (m, b) :: r => if Nat.beq m n then some b else hget n r
def hset (n : Nat) (b : SBk) : Heap → Heap
  | [] => []
  | (m, c) :: r => if Nat.beq m n then (m, b) :: r else (m, c) :: hset n b r
def hadd (n : Nat) (b : SBk) : Heap → Heap
  | [] => [(n, b)]
  | (m, c) :: r => if Nat.ble n m then (n, b) :: (m, c) :: r else (m, c) :: hadd n b r
def hav (lo hi : Nat) : Heap → Bool
  | [] => true
  | (m, c) :: r => out lo hi m && c.av lo hi && hav lo hi r
def pav (lo hi : Nat) : PC → Bool
  | [] => true
  | (c, _) :: r => c.av lo hi && pav lo hi r

/-- A block of one kind's integers, as a list; how many cells it has. -/
def toSL (k : IntKind) : List SV → Option SL
  | [] => some .nil
  | .int j e :: r => if kBeq j k then (toSL k r).map (.cons e) else none
  | _ => none
def asRow (P : Program) : SBk → Option (IntKind × SL × SI × Nat)
  | .row k l c ty => some (k, l, c, ty)
  | .cells cs ty true => match P.underlying ty with
    | some (.int k) => if Nat.ble cs.length 1000000 then (toSL k cs).map (k, ·, .lit cs.length, ty) else none
    | _ => none
  | _ => none

/-- What must hold: the ways, each with what it adds to the path; 'true': all of it holds. -/
def need (pc : PC) : List SB → List (PC × Bool)
  | [] => [([], true)]
  | c :: r => match c.known pc with
    | some true => need pc r
    | some false => [([], false)]
    | none => ([asm c false], false) :: (need (asm c true :: pc) r).map fun x => (x.1 ++ [asm c true], x.2)
def ways {α : Type} (l : List (PC × Bool)) (v : α) : List (PC × Option α) := l.map fun x => (x.1, if x.2 then some v else none)

inductive ORes where
  | val (v : SV) (hp : Heap)
  | skip (hp : Heap)
  | call (f : Nat) (args : List SV)
  | bad
  | fail

def SV.one : SV → Bool
  | .agg _ | .tup _ | .dead => false
  | _ => true
def SV.cellsOf : SV → List SV
  | .agg l => l
  | v => [v]

def aggT (P : Program) (t : Nat) : Option Bool :=
  match P.underlying t with
  | some (.struct _) | some (.array _ _) => some true
  | some _ => some false
  | none => none
def sizeT (P : Program) (t : Nat) : Option Nat := (P.info? t).map (·.size)
def zeroT (P : Program) (t : Nat) : Option SV :=
  match P.info? t with
  | some i => i.zero.bind ofV
  | none => none

/-- How far behind 'o' is 'off'? -/
def subOff (o off : SI) : Option SI :=
  if off.beq o then some (.lit 0) else
  match off with
  | .add a i => if a.beq o then some i else none
  | _ => none
/-- Which row of a table, which field? (n fields; it begins at 'o') -/
def rowOff (n : Nat) (o x : SI) : Option SI :=
  match x with
  | .add a (.mul i (.lit (.ofNat m))) => if a.beq o && Nat.beq m n then some i else none
  | _ => none
def tabOff (n : Nat) (o off : SI) : Option (SI × Nat) :=
  if off.beq o then some (.lit 0, 0) else
  match off with
  | .add x (.lit (.ofNat m)) =>
    if x.beq o then some (.lit (.ofNat (m / n)), m % n)
    else match rowOff n o x with
      | some i => some (i, m)
      | none => none
  | x => (rowOff n o x).map (·, 0)
def tabX (g : SG) (f : Nat) (i : SI) : Option IntKind → SV
  | some k => .int k (.gi f g i (.lit 0))
  | none => .bool (.gb f g i (.lit 0))
def tabL (g : SG) (i : SI) : Nat → List (Option IntKind) → List SV
  | _, [] => []
  | f, k :: r => tabX g f i k :: tabL g i (f + 1) r

/-- Is it surely not negative? -/
def SI.nn (pc : PC) : SI → Bool
  | .lit (.ofNat _) => true
  | .lit (.negSucc _) => false
  | .len _ => true
  | .nat _ => true
  | .add a b => (a.nn pc && b.nn pc) || pcFind (.lt (.add a b) (.lit 0)) pc == some false
  | .mul a b => (a.nn pc && b.nn pc) || pcFind (.lt (.mul a b) (.lit 0)) pc == some false
  | e => pcFind (.lt e (.lit 0)) pc == some false

/-- The cells of a block from a literal place on; a cell of a row. -/
def loadX (P : Program) (pc : PC) (hp : Heap) (t : Nat) : SV → Option (List (PC × Option SV))
  | .ptr b off =>
    match hget b hp with
    | some (.cells cs _ _) =>
      match off with
      | .lit (.ofNat off) =>
        match aggT P t, sizeT P t with
        | some true, some n => if Nat.ble (off + n) cs.length then some [([], some (.agg ((cs.drop off).take n)))] else none
        | some false, some _ => (cs[off]?).map fun v => [([], some v)]
        | _, _ => none
      | _ => none
    | some (.row k l _ _) =>
      match P.underlying t with
      | some (.int _) => some (ways (need pc [SB.mkLe (.lit 0) off, SB.mkLt off (SI.mkLen l)]) (.int k (SI.mkNth l off)))
      | _ => none
    | some (.view k o l) =>
      match P.underlying t, subOff o off with
      | some (.int _), some i => some (ways (need pc [SB.mkLe (.lit 0) i, SB.mkLt i (SI.mkLen l)]) (.int k (SI.mkNth l i)))
      | _, _ => none
    | some (.tab f g ks o len) =>
      match tabOff ks.length o off with
      | some (i, j) =>
        match aggT P t, sizeT P t with
        | some true, some n => if Nat.beq j 0 && Nat.beq n ks.length then some (ways (need pc [SB.mkLe (.lit 0) i, SB.mkLt i len]) (.agg (tabL g i f ks))) else none
        | some false, some _ => match ks[j]? with
          | some k => some (ways (need pc [SB.mkLe (.lit 0) i, SB.mkLt i len]) (tabX g (f + j) i k))
          | none => none
        | _, _ => none
      | none => none
    | _ => none
  | _ => none

def splice {α : Type} (cs : List α) (off : Nat) (vs : List α) : List α := cs.take off ++ vs ++ cs.drop (off + vs.length)

def storeX (P : Program) (pc : PC) (hp : Heap) (t : Nat) (p v : SV) : Option (List (PC × Option Heap)) :=
  match p with
  | .ptr b off =>
    match hget b hp with
    | some (.cells cs ty ex) =>
      match off with
      | .lit (.ofNat off) =>
        match sizeT P t with
        | some n =>
          if Nat.beq v.cellsOf.length n && Nat.ble (off + n) cs.length && v.cellsOf.all SV.one then some [([], some (hset b (.cells (splice cs off v.cellsOf) ty ex) hp))] else none
        | none => none
      | _ => none
    | some (.row k l c ty) =>
      match sizeT P t, v with
      | some 1, .int j e =>
        if kBeq j k then some (ways (need pc [SB.mkLe (.lit 0) off, SB.mkLt off (SI.mkLen l)]) (hset b (.row k (.mkSet l off e) c ty) hp)) else none
      | _, _ => none
    | _ => none
  | _ => none

def placesT (P : Program) : List Field → Option (List (Nat × Nat))
  | [] => some []
  | f :: fs => match sizeT P f.type, placesT P fs with
    | some n, some r => some ((f.offset, n) :: r)
    | _, _ => none

def fillX (place : Nat → Option (Nat × Nat)) (cells : List SV) : List (Nat × SV) → Option (List SV)
  | [] => some cells
  | (i, v) :: rest =>
    match place i with
    | none => none
    | some (off, size) =>
      if Nat.beq v.cellsOf.length size && Nat.ble (off + v.cellsOf.length) cells.length then fillX place (splice cells off v.cellsOf) rest else none

def evalP (fr : List SV) : List (Nat × Operand) → Option (List (Nat × SV))
  | [] => some []
  | (i, x) :: xs => match evalO fr x, evalP fr xs with
    | some v, some vs => some ((i, v) :: vs)
    | _, _ => none

def buildX (P : Program) (t : Nat) (parts : List (Nat × SV)) : Option SV :=
  match zeroT P t, P.underlying t with
  | some z, some (.struct fs) =>
    match placesT P fs.toList with
    | some ps => (fillX (fun i => ps[i]?) z.cellsOf parts).map .agg
    | none => none
  | some z, some (.array _ e) =>
    match sizeT P e with
    | some n => (fillX (fun i => some (i * n, n)) z.cellsOf parts).map .agg
    | none => none
  | _, _ => none

def repL (n : Nat) (l : List SV) : List SV :=
  match n with
  | 0 => []
  | n + 1 => l ++ repL n l

/-- the cells of 'len' zeros, filled. -/
def buildSliceX (P : Program) (t len : Nat) (parts : List (Nat × SV)) : Option (List SV × Nat) :=
  match P.underlying t with
  | some (.slice e) =>
    match sizeT P e, zeroT P e with
    | some n, some z =>
      if Nat.ble (len * n) 4096 && Nat.ble 1 n && Nat.beq z.cellsOf.length n then (fillX (fun i => some (i * n, n)) (repL len z.cellsOf) parts).map (·, e) else none
    | _, _ => none
  | _ => none

/-- structs of integers and Bools, cell by cell. -/
def eqL : List SV → List SV → Option SB
  | [], [] => some (.lit true)
  | .int k a :: r, .int j b :: s => if kBeq k j then (eqL r s).map fun e => SB.mkAnd (SB.mkEq a b) e else none
  | _, _ => none
def flatF (P : Program) : Nat → List Field → Bool
  | _, [] => true
  | n, f :: fs => Nat.beq f.offset n && (match P.underlying f.type with | some (.int _) => true | _ => false) && (f.name != "_") && flatF P (n + 1) fs

def binX (P : Program) (pc : PC) (op : BinOp) (t : Nat) (x y : SV) : Option (List (PC × Option SV)) :=
  let one (v : SV) : Option (List (PC × Option SV)) := some [([], some v)]
  match x, y with
  | .int k a, .int j b =>
    match op with
    | .shl => match b with
      | .lit (.ofNat n) => one (.int k (SI.mkWrap k (SI.mkMul a (.lit (2 ^ (Nat.min n k.bits) : Nat)))))
      | _ => none
    | .shr => match b with
      | .lit (.ofNat n) => one (.int k (SI.mkFdiv a (.lit (2 ^ (Nat.min n k.bits) : Nat))))
      | _ => none
    | _ => if kBeq k j then
      match op with
      | .add => one (.int k (SI.mkWrap k (SI.mkAdd a b)))
      | .sub => one (.int k (SI.mkWrap k (SI.mkSub a b)))
      | .mul => one (.int k (SI.mkWrap k (SI.mkMul a b)))
      | .quo => match (SB.mkEq b (.lit 0)).known pc with
        | some false => one (.int k (SI.mkWrap k (SI.mkTdiv a b)))
        | _ => some [([(.eq b (.lit 0), false)], some (.int k (SI.mkWrap k (SI.mkTdiv a b)))), ([(.eq b (.lit 0), true)], none)]
      | .rem => match (SB.mkEq b (.lit 0)).known pc with
        | some false => one (.int k (SI.mkTmod a b))
        | _ => some [([(.eq b (.lit 0), false)], some (.int k (SI.mkTmod a b))), ([(.eq b (.lit 0), true)], none)]
      | .and => one (.int k (SI.mkBits 0 k a b))
      | .or => one (.int k (SI.mkBits 1 k a b))
      | .xor => one (.int k (SI.mkBits 2 k a b))
      | .andNot => one (.int k (SI.mkBits 3 k a b))
      | .eql => one (.bool (SB.mkEq a b))
      | .neq => one (.bool (SB.mkNot (SB.mkEq a b)))
      | .lss => one (.bool (SB.mkLt a b))
      | .leq => one (.bool (SB.mkLe a b))
      | .gtr => one (.bool (SB.mkLt b a))
      | .geq => one (.bool (SB.mkLe b a))
      | _ => none
      else none
  | .ptr _ _, .nilPtr | .nilPtr, .ptr _ _ =>
    match P.underlying t, op with
    | some (.pointer _), .eql => one (.bool (.lit false))
    | some (.pointer _), .neq => one (.bool (.lit true))
    | _, _ => none
  | .nilPtr, .nilPtr =>
    match P.underlying t, op with
    | some (.pointer _), .eql => one (.bool (.lit true))
    | some (.pointer _), .neq => one (.bool (.lit false))
    | _, _ => none
  | .fn _ _ _, .nilFunc | .nilFunc, .fn _ _ _ =>
    match P.underlying t, op with
    | some (.func _ _ _), .eql => one (.bool (.lit false))
    | some (.func _ _ _), .neq => one (.bool (.lit true))
    | _, _ => none
  | .nilFunc, .nilFunc =>
    match P.underlying t, op with
    | some (.func _ _ _), .eql => one (.bool (.lit true))
    | some (.func _ _ _), .neq => one (.bool (.lit false))
    | _, _ => none
  | .agg xs, .agg ys =>
    match P.underlying t with
    | some (.struct fs) =>
      if flatF P 0 fs.toList && Nat.beq fs.size xs.length && Nat.beq fs.size ys.length && !(P.stoodInHeld t) && !(P.eqGuardType P.depth t) then
        match eqL xs ys, op with
        | some e, .eql => one (.bool e)
        | some e, .neq => one (.bool (SB.mkNot e))
        | _, _ => none
      else none
    | _ => none
  | .nilSl, .nilSl =>
    match P.underlying t, op with
    | some (.slice _), .eql => one (.bool (.lit true))
    | some (.slice _), .neq => one (.bool (.lit false))
    | _, _ => none
  | .emp _, .nilSl | .sl _ _ _ _, .nilSl =>
    match P.underlying t, op with
    | some (.slice _), .eql => one (.bool (.lit false))
    | some (.slice _), .neq => one (.bool (.lit true))
    | _, _ => none
  | .bool a, .bool b =>
    match P.underlying t, op with
    | some .bool, .eql => one (.bool (.mkSame a b))
    | some .bool, .neq => one (.bool (.mkNot (.mkSame a b)))
    | _, _ => none
  | _, _ => none

def unX (op : UnOp) : SV → Option SV
  | .int k a =>
    match op with
    | .neg => some (.int k (SI.mkWrap k (SI.mkSub (.lit 0) a)))
    | .xor => some (.int k (SI.mkBits 2 k (.lit (if k.signed then -1 else k.max)) a))
    | _ => none
  | .bool a =>
    match op with
    | .not => some (.bool (SB.mkNot a))
    | _ => none
  | _ => none

def litX (d : Nat) : Option SV → Option Nat
  | none => some d
  | some (.int _ (.lit (.ofNat k))) => some k
  | _ => none

/-- x[lo:hi:max] where all is literal. -/
def sliceX (P : Program) (t : Nat) (x : SV) (lo hi mx : Option SV) : Option SV :=
  match P.underlying t with
  | some (.slice e) =>
    match sizeT P e with
    | some n =>
      if hi.isNone && mx.isSome then none else
      match x with
      | .nilSl =>
        match litX 0 mx, litX 0 hi, litX 0 lo with
        | some m, some h, some l => if Nat.beq m 0 && Nat.beq h 0 && Nat.beq l 0 then some .nilSl else none
        | _, _, _ => none
      | .sl b (.lit (.ofNat off)) (.lit (.ofNat len)) (.lit (.ofNat cap)) =>
        match litX cap mx, litX len hi, litX 0 lo with
        | some m, some h, some l => if Nat.ble m cap && Nat.ble h m && Nat.ble l h then
            some (.sl b (.lit (if Nat.beq m l then off else off + l * n : Nat)) (.lit (h - l : Nat)) (.lit (m - l : Nat))) else none
        | _, _, _ => none
      | _ => none
    | none => none
  | _ => none

/-- The first 'n' cells that a slice leads to. -/
def cellsX (hp : Heap) (k : Nat) : SV → Option (List SV)
  | .nilSl => if Nat.beq k 0 then some [] else none
  | .sl b (.lit (.ofNat off)) _ _ =>
    match hget b hp with
    | some (.cells cs _ _) => if Nat.ble (off + k) cs.length then some ((cs.drop off).take k) else none
    | _ => none
  | _ => none

def lenX : SV → Option Nat
  | .nilSl => some 0
  | .sl _ _ (.lit (.ofNat n)) _ => some n
  | _ => none

/-- append(s, x...): literal lengths; it must grow (a literal capacity that is too small), or nothing is appended. -/
def appendX (P : Program) (nm : Nat) (hp : Heap) (t : Nat) (s x : SV) : Option (SV × Heap) :=
  match P.underlying t with
  | some (.slice e) =>
    match sizeT P e, zeroT P e, lenX s, lenX x, P.info? e with
    | some n, some z, some ls, some lx, some inf =>
      match s with
      | .nilSl => grow e n z ls lx 0 inf.bytes
      | .sl _ _ _ (.lit (.ofNat cap)) => grow e n z ls lx cap inf.bytes
      | _ => none
    | _, _, _, _, _ => none
  | _ => none
where
  grow (e n : Nat) (z : SV) (ls lx cap bytes : Nat) : Option (SV × Heap) :=
    if Nat.beq lx 0 && Nat.ble ls cap then some (s, hp) else
    if Nat.ble (ls + lx) cap then none else
    if Nat.ble 1 lx && Nat.ble (ls + lx) 1024 && Nat.ble cap 1024 && Nat.ble bytes 1024 && Nat.ble 1 bytes && Nat.ble 1 n && Nat.beq z.cellsOf.length n then
      match cellsX hp (ls * n) s, cellsX hp (lx * n) x with
      | some old, some new => if avL nm (nm + 1) (old ++ new) then some (.sl nm (.lit 0) (.lit (ls + lx : Nat)) (.var nm), hadd nm (.cells (old ++ new) e false) hp) else none
      | _, _ => none
    else none

def herase (n : Nat) (hp : Heap) : Heap := hp.filter fun x => !(Nat.beq x.1 n)

/-- The list that a slice of integers reads as. -/
def listX (P : Program) (pc : PC) (hp : Heap) (k : IntKind) : SV → Option (List (PC × Option SL))
  | .nilSl | .emp _ => some [([], some .nil)]
  | .sl b off len _ => match hget b hp with
    | some (.view j o l) => if kBeq j k && off.beq o then
        (if (SI.mkLen l).beq len then some [([], some l)]
         else some (ways (need pc [SB.mkLe (.lit 0) len, SB.mkLe len (SI.mkLen l)]) (SL.mkTake l len)))
        else none
    | some bk => match asRow P bk with
      | some (j, l, _, _) => if kBeq j k then
          (match off with
           | .lit 0 => if (SI.mkLen l).beq len then some [([], some l)]
             else some (ways (need pc [SB.mkLe (.lit 0) len, SB.mkLe len (SI.mkLen l)]) (SL.mkTake l len))
           | _ => some (ways (need pc [SB.mkLe (.lit 0) off, SB.mkLe (.lit 0) len, SB.mkLe (SI.mkAdd off len) (SI.mkLen l)]) (SL.mkTake (SL.mkDrop l off) len)))
        else none
      | none => none
    | none => none
  | _ => none

/-- What 'append' makes of a row that is its own (from its first cell to its last one), and a list; rows of integers alone. -/
def appendR (P : Program) (nm : Nat) (pc : PC) (hp : Heap) (t : Nat) (s : SV) (nl : SL) : Option (List (PC × Option (SV × Heap))) :=
  match P.underlying t with
  | some (.slice e) =>
    match P.underlying e, sizeT P e, P.info? e, zeroT P e with
    | some (.int k), some 1, some inf, some z =>
      if Nat.ble inf.bytes 64 && Nat.ble 1 inf.bytes && Nat.beq z.cellsOf.length 1 then
      match s with
      | .nilSl =>
        if nl.av nm (nm + 1) && hav nm (nm + 1) hp then
        some ((need pc [SB.mkLt (SI.mkLen nl) (.lit 1099511627776)]).flatMap fun x =>
          if x.2 then
            match (SB.mkLt (.lit 0) (SI.mkLen nl)).known (x.1 ++ pc) with
            | some true => [(x.1, some (.sl nm (.lit 0) (SI.mkLen nl) (.var nm), hadd nm (.row k nl (.var nm) e) hp))]
            | some false => [(x.1, some (.nilSl, hp))]
            | none => [((SB.mkLt (.lit 0) (SI.mkLen nl), true) :: x.1, some (.sl nm (.lit 0) (SI.mkLen nl) (.var nm), hadd nm (.row k nl (.var nm) e) hp)),
                       ((SB.mkLt (.lit 0) (SI.mkLen nl), false) :: x.1, some (.nilSl, hp))]
          else [(x.1, none)])
        else none
      | .sl b (.lit 0) len cap => match hget b hp with
        | some bk => match asRow P bk with
          | some (j, l, c, ty) =>
            if kBeq j k && Nat.beq ty e && (SI.mkLen l).beq len && c.beq cap && nl.av nm (nm + 1) && hav nm (nm + 1) hp then
              some (ways (need pc [SB.mkLt (SI.mkAdd (SI.mkLen l) (SI.mkLen nl)) (.lit 1099511627776)])
                (.sl nm (.lit 0) (SI.mkLen (SL.mkApp l nl)) (.var nm), hadd nm (.row k (SL.mkApp l nl) (.var nm) e) (herase b hp)))
            else none
          | none => none
        | none => none
      | _ => none
      else none
    | _, _, _, _ => none
  | _ => none

/-- append(s, make([]T, n)...), onto a row that is its own: the translation hands the number. -/
def appendZ (P : Program) (nm : Nat) (pc : PC) (hp : Heap) (t : Nat) (s : SV) (n : SI) : Option (List (PC × Option (SV × Heap))) :=
  match s with
  | .sl b (.lit 0) len cap =>
    match P.underlying t with
    | some (.slice e) =>
      match P.underlying e, sizeT P e, P.info? e, zeroT P e with
      | some (.int k), some 1, some inf, some z =>
        if Nat.ble inf.bytes 64 && Nat.ble 1 inf.bytes && z.beq (.int k (.lit 0)) then
          match hget b hp with
          | some bk => match asRow P bk with
            | some (j, l, c, ty) =>
              if kBeq k j && Nat.beq ty e && (SI.mkLen l).beq len && c.beq cap && n.av nm (nm + 1) && hav nm (nm + 1) hp then
                some (ways (need pc [SB.mkLe (.lit 0) n, SB.mkLt (SI.mkAdd (SI.mkLen l) n) (.lit 1099511627776)])
                  (.sl nm (.lit 0) (SI.mkLen (SL.mkApp l (.rep n (.lit 0)))) (.var nm), hadd nm (.row k (SL.mkApp l (.rep n (.lit 0))) (.var nm) e) (herase b hp)))
              else none
            | none => none
          | none => none
        else none
      | _, _, _, _ => none
    | _ => none
  | _ => none

def optL (fr : List SV) : Option Operand → Option (Option SV)
  | none => some none
  | some x => (evalO fr x).map some

def outsV (hp : Heap) (l : List (PC × Option SV)) : List (PC × ORes) := l.map fun x => (x.1, match x.2 with | some v => .val v hp | none => .bad)
def outsH (l : List (PC × Option Heap)) : List (PC × ORes) := l.map fun x => (x.1, match x.2 with | some h => .skip h | none => .bad)
def outsVH (l : List (PC × Option (SV × Heap))) : List (PC × ORes) := l.map fun x => (x.1, match x.2 with | some v => .val v.1 v.2 | none => .bad)

/-- indexAddr of a slice whose elements are of n cells. -/
def indexX (pc : PC) (n : Nat) (b : Nat) (off len i : SI) : Option (List (PC × Option SV)) :=
  match off, len, i with
  | .lit (.ofNat off), .lit (.ofNat len), .lit (.ofNat k) => if Nat.ble (k + 1) len then some [([], some (.ptr b (.lit (off + k * n : Nat))))] else some [([], none)]
  | off, len, i =>
    if Nat.beq n 1 then some (ways (need pc [SB.mkLe (.lit 0) i, SB.mkLt i (SI.mkNat len), SB.mkLe (.lit 0) off]) (.ptr b (SI.mkAdd off i)))
    else some (ways (need pc [SB.mkLe (.lit 0) i, SB.mkLt i (SI.mkNat len), SB.mkLe (.lit 0) off]) (.ptr b (SI.mkAdd off (SI.mkMul i (.lit (.ofNat n))))))

/-- The numbers that k may be, from j on, c of them. -/
def forkX (k : SI) : Nat → Nat → PC → List (PC × Option Nat)
  | 0, _, _ => [([], none)]
  | c + 1, j, pc => match (SB.mkEq k (.lit (.ofNat j))).known pc with
    | some true => [([], some j)]
    | some false => forkX k c (j + 1) pc
    | none => ([(SB.mkEq k (.lit (.ofNat j)), true)], some j) :: (forkX k c (j + 1) ((SB.mkEq k (.lit (.ofNat j)), false) :: pc)).map fun x => (x.1 ++ [(SB.mkEq k (.lit (.ofNat j)), false)], x.2)

/-- copy(dst, src): onto a whole row of integers. -/
def copyX (P : Program) (pc : PC) (hp : Heap) (t : Nat) (d : SV) (nl : SL) : Option (List (PC × Option (SV × Heap))) :=
  match P.underlying t with
  | some (.slice e) =>
    match P.underlying e, sizeT P e, d with
    | some (.int k), some 1, .sl b (.lit 0) len _ => match hget b hp with
      | some bk => match asRow P bk with
        | some (j, l, c, ty) =>
          if kBeq j k && (SI.mkLen l).beq len then
            (match (SB.mkLe (SI.mkLen nl) len).known pc with
            | some true => some [([], some (.int .i64 (SI.mkLen nl), hset b (.row k (SL.mkApp nl (SL.mkDrop l (SI.mkLen nl))) c ty) hp))]
            | some false => some [([], some (.int .i64 len, hset b (.row k (.take nl len) c ty) hp))]
            | none => some [([asm (SB.mkLe (SI.mkLen nl) len) true], some (.int .i64 (SI.mkLen nl), hset b (.row k (SL.mkApp nl (SL.mkDrop l (SI.mkLen nl))) c ty) hp)),
                ([asm (SB.mkLe (SI.mkLen nl) len) false], some (.int .i64 len, hset b (.row k (.take nl len) c ty) hp))])
          else none
        | none => none
      | none => none
    | _, _, _ => none
  | _ => none

/-- make([]T, n): a row of zeros; or a few cells. -/
def makeX (P : Program) (nm : Nat) (pc : PC) (hp : Heap) (t : Nat) (len cap : SI) : Option (List (PC × Option (SV × Heap))) :=
  match P.underlying t with
  | some (.slice e) =>
    match sizeT P e, zeroT P e, P.info? e with
    | some n, some z, some inf =>
      if len.beq cap && Nat.ble 1 n && Nat.beq z.cellsOf.length n && Nat.ble inf.bytes 1024 && hav nm (nm + 1) hp then
        match len with
        | .lit (.ofNat m) =>
          if Nat.ble (m * n) 4096 && Nat.ble m 4096 then some [([], some (.sl nm (.lit 0) (.lit (.ofNat m)) (.lit (.ofNat m)), hadd nm (.cells (repL m z.cellsOf) e true) hp))] else none
        | len => match z with
          | .int k x => if len.av nm (nm + 1) && x.av nm (nm + 1) then
              some (ways (need pc [SB.mkLe (.lit 0) len, SB.mkLt len (.lit 1073741824)]) (.sl nm (.lit 0) (SI.mkNat len) (SI.mkNat len), hadd nm (.row k (.rep len x) (SI.mkNat len) e) hp)) else none
          | _ => none
      else none
    | _, _, _ => none
  | _ => none

/-- One operation (its guard has said yes). 'nm': the name for what it makes. -/
def opX (P : Program) (nm : Nat) (fr : List SV) (pc : PC) (hp : Heap) (o : Oper) : Option (List (PC × ORes)) :=
  let one (v : SV) : List (PC × ORes) := [([], .val v hp)]
  let mk (e : Nat) (cs : List SV) (v : SV) : Option (List (PC × ORes)) :=
    if avL nm (nm + 1) cs && hav nm (nm + 1) hp then some [([], .val v (hadd nm (.cells cs e true) hp))] else none
  match o.op with
  | .move x | .assign x => (evalO fr x).map one
  | .pick c a b =>
    match evalO fr c with
    | some (.bool e) =>
      match e.known pc with
      | some true => (evalO fr a).map one
      | some false => (evalO fr b).map one
      | none => match evalO fr a, evalO fr b with
        | some x, some y => some [([asm e true], .val x hp), ([asm e false], .val y hp)]
        | _, _ => none
    | _ => none
  | .alloc e => match zeroT P e with
    | some z => mk e z.cellsOf (.ptr nm (.lit 0))
    | none => none
  | .box e x => match evalO fr x with
    | some v => mk e v.cellsOf (.ptr nm (.lit 0))
    | none => none
  | .build t ps => match evalP fr ps.toList with
    | some parts => (buildX P t parts).map one
    | none => none
  | .buildSlice t len ps => match evalP fr ps.toList with
    | some parts => match buildSliceX P t len parts with
      | some (cs, e) => mk e cs (.sl nm (.lit 0) (.lit len) (.lit len))
      | none => none
    | none => none
  | .load t x => match evalO fr x with
    | some p => (loadX P pc hp t p).map (outsV hp)
    | none => none
  | .store t x y => match evalO fr x, evalO fr y with
    | some p, some v => (storeX P pc hp t p v).map outsH
    | _, _ => none
  | .nilCheck x => match evalO fr x with
    | some (.ptr b off) => some (one (.ptr b off))
    | some (.fn f a c) => some (one (.fn f a c))
    | some .nilPtr | some .nilFunc => some [([], .bad)]
    | _ => none
  | .binOp op t x y _ => match evalO fr x, evalO fr y with
    | some a, some b => (binX P pc op t a b).map (outsV hp)
    | _, _ => none
  | .unOp op _ x => match evalO fr x with
    | some a => (unX op a).map one
    | none => none
  | .convert s d x => match evalO fr x, P.underlying s, P.underlying d with
    | some (.int _ a), some (.int _), some (.int k) => some (one (.int k (SI.mkWrap k a)))
    | _, _, _ => none
  | .makeFunc fn first caps =>
    match fn, evalOL fr first.toList, evalOL fr caps.toList with
    | .func f, some a, some c => some (one (.fn f a c))
    | _, _, _ => none
  | .extract x i => match evalO fr x with
    | some (.tup l) => (l[i]?).map one
    | _ => none
  | .fieldAddr s x f => match evalO fr x, P.underlying s with
    | some (.ptr b off), some (.struct fs) =>
      match fs[f]? with
      | some g => match sizeT P g.type with
        | some n => if Nat.ble 1 n && off.nn pc then some (one (.ptr b (SI.mkAdd off (.lit (.ofNat g.offset))))) else none
        | none => none
      | none => none
    | _, _ => none
  | .field s x f => match evalO fr x, P.underlying s with
    | some (.agg cs), some (.struct fs) =>
      match fs[f]? with
      | some g => match aggT P g.type, sizeT P g.type with
        | some true, some n => if Nat.ble (g.offset + n) cs.length then some (one (.agg ((cs.drop g.offset).take n))) else none
        | some false, _ => (cs[g.offset]?).map one
        | _, _ => none
      | none => none
    | _, _ => none
  | .indexAddr t x i => match evalO fr x, evalO fr i, P.underlying t with
    | some (.sl b off len _), some (.int _ k), some (.slice e) =>
      match sizeT P e with
      | some n => (indexX pc n b off len k).map (outsV hp)
      | none => none
    | some (.ptr b (.lit (.ofNat off))), some (.int _ (.lit (.ofNat k))), some (.array len e) =>
      match sizeT P e with
      | some n => if Nat.ble (k + 1) len then some (one (.ptr b (.lit (off + k * n : Nat)))) else none
      | none => none
    | some (.ptr b (.lit (.ofNat off))), some (.int _ k), some (.array len e) =>
      match sizeT P e with
      | some n => if Nat.ble len 64 then some ((forkX k len 0 pc).map fun x => (x.1, match x.2 with | some j => .val (.ptr b (.lit (.ofNat (off + j * n)))) hp | none => .bad)) else none
      | none => none
    | some .nilSl, some (.int _ _), some (.slice _) | some (.emp _), some (.int _ _), some (.slice _) => some [([], .bad)]
    | _, _, _ => none
  | .slice t x lo hi mx => match evalO fr x, optL fr lo, optL fr hi, optL fr mx with
    | some v, some l, some h, some m => (sliceX P t v l h m).map one
    | _, _, _, _ => none
  | .makeSlice t l c => match evalO fr l, evalO fr c with
    | some (.int .i64 a), some (.int .i64 b) => (makeX P nm pc hp t a b).map outsVH
    | _, _ => none
  | .call { callee := .value f, args, .. } => match evalO fr f, evalOL fr args.toList with
    | some (.fn g first caps), some as =>
      match P.funcs[g]? with
      | some fn => if fn.body.isSome then some [([], .call g (first ++ as ++ caps))] else none
      | none => none
    | some .nilFunc, some _ => some [([], .bad)]
    | _, _ => none
  | .call { callee := .builtin .len, args, argTypes } => match evalOL fr args.toList, argTypes[0]? with
    | some [.nilSl], some t | some [.emp _], some t => match P.underlying t with
      | some (.slice _) => some (one (.int .i64 (.lit 0)))
      | _ => none
    | some [.sl _ _ n _], some t => match P.underlying t with
      | some (.slice _) => some (one (.int .i64 (SI.mkNat n)))
      | _ => none
    | _, _ => none
  | .call { callee := .builtin .copy, args, argTypes } => match evalOL fr args.toList, argTypes.toList with
    | some [d, x], [t, _] => match P.underlying t with
      | some (.slice e) => match P.underlying e with
        | some (.int k) => (match listX P pc hp k x with
          | some ls => some (ls.flatMap fun r => match r.2 with
             | none => [(r.1, ORes.bad)]
             | some nl => match copyX P (r.1 ++ pc) hp t d nl with
               | some l => (outsVH l).map fun q => (q.1 ++ r.1, q.2)
               | none => [([], ORes.fail)])
          | none => none)
        | _ => none
      | _ => none
    | _, _ => none
  | .call { callee := .builtin .append, args, argTypes } => match evalOL fr args.toList, argTypes.toList with
    | some [s, x], [t, u] =>
      match P.underlying u with
      | some (.slice e) =>
        if Nat.beq t u then
        match P.underlying e with
        | some (.int k) =>
          (match listX P pc hp k x with
           | some ls => some (ls.flatMap fun r => match r.2 with
             | none => [(r.1, ORes.bad)]
             | some nl => match appendR P nm (r.1 ++ pc) hp t s nl with
               | some l => (outsVH l).map fun q => (q.1 ++ r.1, q.2)
               | none => [([], ORes.fail)])
           | none => none)
        | _ =>
          if hav nm (nm + 1) hp then
          match appendX P nm hp t s x with
          | some (v, h) => some [([], .val v h)]
          | none => none
          else none
        else none
      | some (.int _) => match x with
        | .int _ n => (appendZ P nm pc hp t s n).map outsVH
        | _ => none
      | _ => none
    | _, _ => none
  | _ => none

/-- Operations that make memory, or a new name. -/
def makes : Op → Bool
  | .alloc _ | .box _ _ | .buildSlice _ _ _ | .makeSlice _ _ _ => true
  | .call { callee := .builtin .append, .. } => true
  | _ => false

/-- Of the blocks named in [lo, hi): those that v or some block speaks of. -/
def clean (lo hi : Nat) (v : SV) (hp : Heap) : Heap :=
  hp.filter fun x => out lo hi x.1 || !(v.av x.1 (x.1 + 1)) || !(hp.all fun y => y.2.av x.1 (x.1 + 1))

inductive SEx where
  | normal | exit (id : Nat) | ret | bad

structure Leaf where
  ex : SEx
  fr : List SV
  pc : PC
  hp : Heap

structure CLeaf where
  bad : Bool
  v : SV
  pc : PC
  hp : Heap

/-- What is known by proof of some functions, and of some loops: of a function, or a loop (named by its first region's number): the leaves; 'none': walk it. -/
structure Orac where
  call : Nat → Nat → List SV → PC → Heap → Option (Option (List CLeaf))
  loop : Nat → Nat → Nat → List SV → PC → Heap → Option (Option (List Leaf))
  unroll : Nat
  op : Nat → List SV → PC → Heap → Oper → Option (List (PC × ORes))

def wantX (ops : Array Oper) (fr : List SV) (pc : PC) (o : Oper) : Option (List (PC × Bool)) :=
  match o.guard with
  | none => some [([], true)]
  | some (g, want) =>
    match (ops[g]?).bind (·.dst) with
    | none => some [([], false)]
    | some d => match fr[d]? with
      | some (.bool e) => match e.known pc with
        | some b => some [([], bBeq b want)]
        | none => some [([asm e true], want), ([asm e false], !want)]
      | some (.opq _) | some (.gv _ _ _) | some (.osl _ _ _) | some .dead => none
      | _ => some [([], false)]

def bindL {α β : Type} (f : α → Option (List β)) : List α → Option (List β)
  | [] => some []
  | x :: xs => match f x, bindL f xs with
    | some a, some b => some (a ++ b)
    | _, _ => none

def bindO {α β : Type} (l : Option (List α)) (f : α → Option (List β)) : Option (List β) :=
  match l with
  | none => none
  | some l => bindL f l

/-- What a function hands back: one way, or the ways that a load of a row takes (there is none here: results lie in cells). -/
def resX (P : Program) (fr : List SV) (hp : Heap) : List ResultVar → Option (List SV)
  | [] => some []
  | .tmp t :: r => if (fget fr t).isDead then none else (resX P fr hp r).map (fget fr t :: ·)
  | .cell a t :: r => match loadX P [] hp t (fget fr a), resX P fr hp r with
    | some [([], some v)], some vs => some (v :: vs)
    | _, _ => none
def oneOr : List SV → SV
  | [x] => x
  | l => .tup l

def leafBeq (a b : Leaf) : Bool :=
  (match a.ex, b.ex with
   | .normal, .normal => true
   | .ret, .ret => true
   | .bad, .bad => true
   | .exit i, .exit j => Nat.beq i j
   | _, _ => false) && beqL a.fr b.fr && pcB a.pc b.pc && hB a.hp b.hp
where
  pcB : PC → PC → Bool
    | [], [] => true
    | (c, x) :: r, (d, y) :: s => c.beq d && bBeq x y && pcB r s
    | _, _ => false
  hB : Heap → Heap → Bool
    | [], [] => true
    | (n, x) :: r, (m, y) :: s => Nat.beq n m && x.beq y && hB r s
    | _, _ => false
def leafsB : List Leaf → List Leaf → Bool
  | [], [] => true
  | a :: as, b :: bs => leafBeq a b && leafsB as bs
  | _, _ => false

/-- The frontier of a region that draws its order. -/
abbrev Front := List (List Bool × List Leaf)
def bsB : List Bool → List Bool → Bool
  | [], [] => true
  | a :: as, b :: bs => bBeq a b && bsB as bs
  | _, _ => false
def exB : SEx → SEx → Bool
  | .normal, .normal => true
  | .ret, .ret => true
  | .bad, .bad => true
  | .exit i, .exit j => Nat.beq i j
  | _, _ => false
def pcHas (c : SB × Bool) : PC → Bool
  | [] => false
  | d :: r => (c.1.beq d.1 && bBeq c.2 d.2) || pcHas c r
def pcSub (p : PC) : PC → Bool
  | [] => true
  | c :: r => pcHas c p && pcSub p r
/-- Whatever 'a' says, 'b' says: the same state, behind fewer conditions. -/
def covB (a b : Leaf) : Bool := exB a.ex b.ex && (match a.ex with
  | .bad => true
  | _ => beqL a.fr b.fr && leafBeq.hB a.hp b.hp) && pcSub a.pc b.pc
def addL : List Leaf → List Leaf → List Leaf
  | [], u => u
  | a :: t, u => if u.any (covB a) then addL t u else addL t (u ++ [a])
def merge (l : List Bool) (t : List Leaf) : Front → Option Front
  | [] => some [(l, t)]
  | (m, u) :: r => if bsB l m then some ((m, addL t u) :: r) else (merge l t r).map ((m, u) :: ·)

def readyX (ops : Array Oper) (l : List Bool) : List Nat := Region.ready .any ops l.toArray

/-- Operations that look at no memory, and yield in every world what they yield in one. -/
def pureOp : Op → Bool
  | .move _ | .assign _ | .nilCheck _ | .fieldAddr _ _ _ | .extract _ _ | .unOp _ _ _ | .makeFunc _ _ _ => true
  | _ => false

/-- The number of the first region in a piece of code. -/
def site : Code → Nat
  | .region id _ _ => id
  | .seq a _ => site a
  | .block _ a => site a
  | .loop a => site a
  | .scope a => site a
  | .cond _ a _ => site a
  | _ => 0

def K0 : Nat := 2 ^ 48
/-- One operation: as is known by proof, or as the executor knows it. -/
def opO (P : Program) (O : Orac) (nm : Nat) (fr : List SV) (pc : PC) (hp : Heap) (o : Oper) : Option (List (PC × ORes)) :=
  if pureOp o.op then opX P nm fr pc hp o else match O.op nm fr pc hp o with
    | some r => some r
    | none => opX P nm fr pc hp o

mutual
/-- A piece of code, from a frame that is in its normal run. f: the function; it: which rounds of which loops. -/
def codeX0 (P : Program) (O : Orac) (lo sz f : Nat) : Nat → Nat → Code → List SV → PC → Heap → Option (List Leaf)
  | 0, _, _, _, _, _ => none
  | n + 1, it, c, fr, pc, hp =>
    match c with
    | .skip => some [⟨.normal, fr, pc, hp⟩]
    | .ret => some [⟨.ret, fr, pc, hp⟩]
    | .exit id => some [⟨.exit id, fr, pc, hp⟩]
    | .seq a b => match codeX0 P O lo sz f n it a fr pc hp with
      | some ls => bindL (fun L => match L.ex with
        | .normal => codeX0 P O lo sz f n it b L.fr L.pc L.hp
        | _ => some [L]) ls
      | none => none
    | .block id a => match codeX0 P O lo sz f n it a fr pc hp with
      | some ls => some (ls.map fun L => match L.ex with
        | .exit j => if Nat.beq j id then { L with ex := .normal } else L
        | _ => L)
      | none => none
    | .cond x a b => match evalO fr x with
      | some (.bool e) => match e.known pc with
        | some true => codeX0 P O lo sz f n it a fr pc hp
        | some false => codeX0 P O lo sz f n it b fr pc hp
        | none => match codeX0 P O lo sz f n it a fr (asm e true :: pc) hp, codeX0 P O lo sz f n it b fr (asm e false :: pc) hp with
          | some as, some bs => some (as ++ bs)
          | _, _ => none
      | _ => none
    | .region rid ops false => opsX0 P O lo sz f n it rid ops 0 ops.size [⟨.normal, fr, pc, hp⟩]
    | .region rid ops true => if Region.noSelect ops then drawX0 P O lo sz f n it rid ops ops.size [(List.replicate ops.size false, [⟨.normal, fr, pc, hp⟩])] else none
    | .loop a =>
      let sub := sz / K0
      let nm := lo + (it * 2 ^ 20 + site a * 256 + 255) * sub
      match O.loop f (site a) nm fr pc hp with
      | some r => if Nat.ble (nm + sub) (lo + sz) && Nat.ble 64 sub then r else none
      | none => loopX0 P O lo sz f n (it * 128) O.unroll a [⟨.normal, fr, pc, hp⟩]
    | _ => none
termination_by structural x => x
/-- Rounds of a loop, one behind the other. -/
def loopX0 (P : Program) (O : Orac) (lo sz f : Nat) : Nat → Nat → Nat → Code → List Leaf → Option (List Leaf)
  | 0, _, _, _, _ => none
  | n + 1, it, k, c, ls =>
    match ls.find? (fun L => match L.ex with | .normal => true | _ => false) with
    | none => some ls
    | some _ => match k with
      | 0 => none
      | k + 1 => match bindL (fun L => match L.ex with
          | .normal => codeX0 P O lo sz f n (it + 1) c L.fr L.pc L.hp
          | _ => some [L]) ls with
        | some ls' => loopX0 P O lo sz f n (it + 1) k c ls'
        | none => none
termination_by structural x => x
/-- Operations j, j + 1, .. in the text's order. -/
def opsX0 (P : Program) (O : Orac) (lo sz f : Nat) : Nat → Nat → Nat → Array Oper → Nat → Nat → List Leaf → Option (List Leaf)
  | 0, _, _, _, _, _, _ => none
  | n + 1, it, rid, ops, j, k, ls =>
    match k with
    | 0 => some ls
    | k + 1 => match stepX0 P O lo sz f n it rid ops j ls with
      | some ls' => opsX0 P O lo sz f n it rid ops (j + 1) k ls'
      | none => none
termination_by structural x => x
/-- Operation j, at each leaf. -/
def stepX0 (P : Program) (O : Orac) (lo sz f : Nat) : Nat → Nat → Nat → Array Oper → Nat → List Leaf → Option (List Leaf)
  | 0, _, _, _, _, _ => none
  | n + 1, it, rid, ops, j, ls =>
    match ops[j]? with
    | none => none
    | some o => bindL (fun L => match L.ex with
      | .normal => bindO (wantX ops L.fr L.pc o) (fun (w : PC × Bool) =>
          if w.2 then
            let sub := sz / K0
            let nm := lo + (it * 2 ^ 20 + rid * 256 + j) * sub
            if Nat.ble (nm + sub) (lo + sz) && Nat.ble 1 sub then
            match opO P O nm L.fr (w.1 ++ L.pc) L.hp o with
            | none => none
            | some outs => bindL (fun (r : PC × ORes) => match r.2 with
              | .fail => none
              | .val v hp => if makes o.op then (if avL nm (nm + 1) L.fr && pav nm (nm + 1) (r.1 ++ (w.1 ++ L.pc)) then some [⟨.normal, fput L.fr o.dst v, r.1 ++ (w.1 ++ L.pc), hp⟩] else none)
                else some [⟨.normal, fput L.fr o.dst v, r.1 ++ (w.1 ++ L.pc), hp⟩]
              | .skip hp => if makes o.op then none else some [⟨.normal, fput L.fr o.dst (.tup []), r.1 ++ (w.1 ++ L.pc), hp⟩]
              | .bad => if makes o.op then (if pav nm (nm + 1) (r.1 ++ (w.1 ++ L.pc)) then some [⟨.bad, [], r.1 ++ (w.1 ++ L.pc), []⟩] else none)
                else some [⟨.bad, [], r.1 ++ (w.1 ++ L.pc), []⟩]
              | .call g args =>
                if makes o.op then none else
                if avL nm (nm + sub) L.fr then
                  match callX0 P O nm sub n g args (r.1 ++ (w.1 ++ L.pc)) L.hp with
                  | none => none
                  | some cs => some (cs.map fun c => if c.bad then ⟨.bad, [], c.pc, []⟩ else ⟨.normal, fput L.fr o.dst c.v, c.pc, c.hp⟩)
                else none) outs
            else none
          else some [⟨.normal, fput L.fr o.dst (.tup []), w.1 ++ L.pc, L.hp⟩])
      | _ => some [L]) ls
termination_by structural x => x
/-- A call. -/
def callX0 (P : Program) (O : Orac) (lo sz : Nat) : Nat → Nat → List SV → PC → Heap → Option (List CLeaf)
  | 0, _, _, _, _ => none
  | n + 1, f, args, pc, hp =>
    match O.call f lo args pc hp with
    | some r => if Nat.ble 64 sz then r else none
    | none =>
    match P.funcs[f]? with
    | none => none
    | some fn => match fn.body with
      | none => none
      | some c => match codeX0 P O lo sz f n 0 c (args ++ List.replicate (fn.ntmps - args.length) (.tup [])) pc hp with
        | none => none
        | some ls => bindL (fun L => match L.ex with
          | .normal | .ret => match resX P L.fr L.hp fn.results.toList with
            | some vs => some [⟨false, oneOr vs, L.pc, clean lo (lo + sz) (oneOr vs) L.hp⟩]
            | none => none
          | .bad => some [⟨true, .tup [], L.pc, []⟩]
          | .exit _ => none) ls
termination_by structural x => x
/-- k levels of a region that draws. -/
def drawX0 (P : Program) (O : Orac) (lo sz f : Nat) : Nat → Nat → Nat → Array Oper → Nat → Front → Option (List Leaf)
  | 0, _, _, _, _, _ => none
  | n + 1, it, rid, ops, k, F =>
    match k with
    | 0 => match F with
      | [(l, t)] => if (readyX ops l).isEmpty then some t else none
      | _ => none
    | k + 1 => match levelX0 P O lo sz f n it rid ops F [] with
      | some G => drawX0 P O lo sz f n it rid ops k G
      | none => none
termination_by structural x => x
/-- One level: each frontier's state by each operation that may come up. -/
def levelX0 (P : Program) (O : Orac) (lo sz f : Nat) : Nat → Nat → Nat → Array Oper → Front → Front → Option Front
  | 0, _, _, _, _, _ => none
  | n + 1, it, rid, ops, F, G =>
    match F with
    | [] => some G
    | (l, t) :: r =>
      match (readyX ops l).find? (fun i => (match ops[i]? with | some o => pureOp o.op && o.guard.isNone | none => false) && Region.free .any ops l.toArray i) with
      | some i => match sideX0 P O lo sz f n it rid ops l t [i] G with
        | some G' => levelX0 P O lo sz f n it rid ops r G'
        | none => none
      | none => match readyX ops l with
        | [] => none
        | is => match sideX0 P O lo sz f n it rid ops l t is G with
          | some G' => levelX0 P O lo sz f n it rid ops r G'
          | none => none
termination_by structural x => x
def sideX0 (P : Program) (O : Orac) (lo sz f : Nat) : Nat → Nat → Nat → Array Oper → List Bool → List Leaf → List Nat → Front → Option Front
  | 0, _, _, _, _, _, _, _ => none
  | n + 1, it, rid, ops, l, t, is, G =>
    match is with
    | [] => some G
    | i :: r => match stepX0 P O lo sz f n it rid ops i t with
      | none => none
      | some t' => match merge (l.set i true) t' G with
        | none => none
        | some G' => sideX0 P O lo sz f n it rid ops l t r G'
termination_by structural x => x
end

def LO : Nat := 2 ^ 600
def noOrac : Orac := ⟨fun _ _ _ _ _ => none, fun _ _ _ _ _ _ => none, 40, fun _ _ _ _ _ => none⟩
end Go.Sy
