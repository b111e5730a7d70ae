import Derived.Test.YtjcphbcjnjeccaaSy11
set_option linter.unusedVariables false
set_option linter.unusedSimpArgs false
namespace Go.Sy
open Go

/-! ### the executor once more, in small pieces (the kernel runs it faster) -/
structure Rec where
  code : Nat → Nat → Nat → Nat → Code → List SV → PC → Heap → Option (List Leaf)
  loop : Nat → Nat → Nat → Nat → Nat → Code → List Leaf → Option (List Leaf)
  ops : Nat → Nat → Nat → Nat → Nat → Array Oper → Nat → Nat → List Leaf → Option (List Leaf)
  step : Nat → Nat → Nat → Nat → Nat → Array Oper → Nat → List Leaf → Option (List Leaf)
  call : Nat → Nat → Nat → List SV → PC → Heap → Option (List CLeaf)
  draw : Nat → Nat → Nat → Nat → Nat → Array Oper → Nat → Front → Option (List Leaf)
  level : Nat → Nat → Nat → Nat → Nat → Array Oper → Front → Front → Option Front
  side : Nat → Nat → Nat → Nat → Nat → Array Oper → List Bool → List Leaf → List Nat → Front → Option Front
def Rec.zero : Rec := ⟨fun _ _ _ _ _ _ _ _ => none, fun _ _ _ _ _ _ _ => none, fun _ _ _ _ _ _ _ _ _ => none, fun _ _ _ _ _ _ _ _ => none, fun _ _ _ _ _ _ => none, fun _ _ _ _ _ _ _ _ => none, fun _ _ _ _ _ _ _ _ => none, fun _ _ _ _ _ _ _ _ _ _ => none⟩

/-! one operation, arm by arm -/
def oOne (v : SV) (hp : Heap) : List (PC × ORes) := [([], .val v hp)]
def oMap (hp : Heap) : Option SV → Option (List (PC × ORes))
  | some v => some (oOne v hp)
  | none => none
def oMk (nm : Nat) (hp : Heap) (e : Nat) (cs : List SV) (v : SV) : Option (List (PC × ORes)) :=
  if avL nm (nm + 1) cs && hav nm (nm + 1) hp then some [([], .val v (hadd nm (.cells cs e true) hp))] else none
def oPick (fr : List SV) (pc : PC) (hp : Heap) (c a b : Operand) : Option (List (PC × ORes)) :=
  match evalO fr c with
  | some (.bool e) =>
    match e.known pc with
    | some true => (evalO fr a).map (oOne · hp)
    | some false => (evalO fr b).map (oOne · hp)
    | none => match evalO fr a, evalO fr b with
      | some x, some y => some [([asm e true], .val x hp), ([asm e false], .val y hp)]
      | _, _ => none
  | _ => none
def oAlloc (P : Program) (nm : Nat) (hp : Heap) (e : Nat) : Option (List (PC × ORes)) := match zeroT P e with
  | some z => oMk nm hp e z.cellsOf (.ptr nm (.lit 0))
  | none => none
def oBox (nm : Nat) (fr : List SV) (hp : Heap) (e : Nat) (x : Operand) : Option (List (PC × ORes)) := match evalO fr x with
  | some v => oMk nm hp e v.cellsOf (.ptr nm (.lit 0))
  | none => none
def oBuild (P : Program) (fr : List SV) (hp : Heap) (t : Nat) (ps : Array (Nat × Operand)) : Option (List (PC × ORes)) := match evalP fr ps.toList with
  | some parts => (buildX P t parts).map (oOne · hp)
  | none => none
def oBuildSlice (P : Program) (nm : Nat) (fr : List SV) (hp : Heap) (t len : Nat) (ps : Array (Nat × Operand)) : Option (List (PC × ORes)) := match evalP fr ps.toList with
  | some parts => match buildSliceX P t len parts with
    | some (cs, e) => oMk nm hp e cs (.sl nm (.lit 0) (.lit len) (.lit len))
    | none => none
  | none => none
def oLoad (P : Program) (fr : List SV) (pc : PC) (hp : Heap) (t : Nat) (x : Operand) : Option (List (PC × ORes)) := match evalO fr x with
  | some p => (loadX P pc hp t p).map (outsV hp)
  | none => none
def oStore (P : Program) (fr : List SV) (pc : PC) (hp : Heap) (t : Nat) (x y : Operand) : Option (List (PC × ORes)) := match evalO fr x, evalO fr y with
  | some p, some v => (storeX P pc hp t p v).map outsH
  | _, _ => none
def oNil (fr : List SV) (hp : Heap) (x : Operand) : Option (List (PC × ORes)) := match evalO fr x with
  | some (.ptr b off) => some (oOne (.ptr b off) hp)
  | some (.fn f a c) => some (oOne (.fn f a c) hp)
  | some .nilPtr | some .nilFunc => some [([], .bad)]
  | _ => none
def oBin (P : Program) (fr : List SV) (pc : PC) (hp : Heap) (op : BinOp) (t : Nat) (x y : Operand) : Option (List (PC × ORes)) := match evalO fr x, evalO fr y with
  | some a, some b => (binX P pc op t a b).map (outsV hp)
  | _, _ => none
def oUn (fr : List SV) (hp : Heap) (op : UnOp) (x : Operand) : Option (List (PC × ORes)) := match evalO fr x with
  | some a => (unX op a).map (oOne · hp)
  | none => none
def oConv (P : Program) (fr : List SV) (hp : Heap) (s d : Nat) (x : Operand) : Option (List (PC × ORes)) := match evalO fr x, P.underlying s, P.underlying d with
  | some (.int _ a), some (.int _), some (.int k) => some (oOne (.int k (SI.mkWrap k a)) hp)
  | _, _, _ => none
def oMakeFunc (fr : List SV) (hp : Heap) (fn : Fn) (first caps : Array Operand) : Option (List (PC × ORes)) :=
  match fn, evalOL fr first.toList, evalOL fr caps.toList with
  | .func f, some a, some c => some (oOne (.fn f a c) hp)
  | _, _, _ => none
def oExtract (fr : List SV) (hp : Heap) (x : Operand) (i : Nat) : Option (List (PC × ORes)) := match evalO fr x with
  | some (.tup l) => (l[i]?).map (oOne · hp)
  | _ => none
def oFieldAddr (P : Program) (fr : List SV) (pc : PC) (hp : Heap) (s : Nat) (x : Operand) (f : Nat) : Option (List (PC × ORes)) := match evalO fr x, P.underlying s with
  | some (.ptr b off), some (.struct fs) =>
    match fs[f]? with
    | some g => match sizeT P g.type with
      | some n => if Nat.ble 1 n && off.nn pc then some (oOne (.ptr b (SI.mkAdd off (.lit (.ofNat g.offset)))) hp) else none
      | none => none
    | none => none
  | _, _ => none
def oField (P : Program) (fr : List SV) (hp : Heap) (s : Nat) (x : Operand) (f : Nat) : Option (List (PC × ORes)) := match evalO fr x, P.underlying s with
  | some (.agg cs), some (.struct fs) =>
    match fs[f]? with
    | some g => match aggT P g.type, sizeT P g.type with
      | some true, some n => if Nat.ble (g.offset + n) cs.length then some (oOne (.agg ((cs.drop g.offset).take n)) hp) else none
      | some false, _ => (cs[g.offset]?).map (oOne · hp)
      | _, _ => none
    | none => none
  | _, _ => none
def oIndexAddr (P : Program) (fr : List SV) (pc : PC) (hp : Heap) (t : Nat) (x i : Operand) : Option (List (PC × ORes)) := match evalO fr x, evalO fr i, P.underlying t with
  | some (.sl b off len _), some (.int _ k), some (.slice e) =>
    match sizeT P e with
    | some n => (indexX pc n b off len k).map (outsV hp)
    | none => none
  | some (.ptr b (.lit (.ofNat off))), some (.int _ (.lit (.ofNat k))), some (.array len e) =>
    match sizeT P e with
    | some n => if Nat.ble (k + 1) len then some (oOne (.ptr b (.lit (off + k * n : Nat))) hp) else none
    | none => none
  | some (.ptr b (.lit (.ofNat off))), some (.int _ k), some (.array len e) =>
    match sizeT P e with
    | some n => if Nat.ble len 64 then some ((forkX k len 0 pc).map fun x => (x.1, match x.2 with | some j => .val (.ptr b (.lit (.ofNat (off + j * n)))) hp | none => .bad)) else none
    | none => none
  | some .nilSl, some (.int _ _), some (.slice _) | some (.emp _), some (.int _ _), some (.slice _) => some [([], .bad)]
  | _, _, _ => none
def oSlice (P : Program) (fr : List SV) (hp : Heap) (t : Nat) (x : Operand) (lo hi mx : Option Operand) : Option (List (PC × ORes)) := match evalO fr x, optL fr lo, optL fr hi, optL fr mx with
  | some v, some l, some h, some m => (sliceX P t v l h m).map (oOne · hp)
  | _, _, _, _ => none
def oMakeSlice (P : Program) (nm : Nat) (fr : List SV) (pc : PC) (hp : Heap) (t : Nat) (l c : Operand) : Option (List (PC × ORes)) := match evalO fr l, evalO fr c with
  | some (.int .i64 a), some (.int .i64 b) => (makeX P nm pc hp t a b).map outsVH
  | _, _ => none
def opY (P : Program) (nm : Nat) (fr : List SV) (pc : PC) (hp : Heap) (o : Oper) : Option (List (PC × ORes)) :=
  match o.op with
  | .move x => (evalO fr x).map (oOne · hp)
  | .assign x => (evalO fr x).map (oOne · hp)
  | .pick c a b => oPick fr pc hp c a b
  | .alloc e => oAlloc P nm hp e
  | .box e x => oBox nm fr hp e x
  | .build t ps => oBuild P fr hp t ps
  | .buildSlice t len ps => oBuildSlice P nm fr hp t len ps
  | .load t x => oLoad P fr pc hp t x
  | .store t x y => oStore P fr pc hp t x y
  | .nilCheck x => oNil fr hp x
  | .binOp op t x y _ => oBin P fr pc hp op t x y
  | .unOp op _ x => oUn fr hp op x
  | .convert s d x => oConv P fr hp s d x
  | .makeFunc fn first caps => oMakeFunc fr hp fn first caps
  | .extract x i => oExtract fr hp x i
  | .fieldAddr s x f => oFieldAddr P fr pc hp s x f
  | .field s x f => oField P fr hp s x f
  | .indexAddr t x i => oIndexAddr P fr pc hp t x i
  | .slice t x lo hi mx => oSlice P fr hp t x lo hi mx
  | .makeSlice t l c => oMakeSlice P nm fr pc hp t l c
  | _ => opX P nm fr pc hp o
theorem opY_eq (P : Program) (nm : Nat) (fr : List SV) (pc : PC) (hp : Heap) (o : Oper) : opY P nm fr pc hp o = opX P nm fr pc hp o := by
  unfold opY
  split <;> (try rfl) <;> (rename_i h; unfold opX; rw [h]; rfl)

/-! the walk -/
def seqK (r : Rec) (lo sz f it : Nat) (b : Code) : Leaf → Option (List Leaf)
  | ⟨.normal, fr, pc, hp⟩ => r.code lo sz f it b fr pc hp
  | L => some [L]
def seqS (r : Rec) (lo sz f it : Nat) (a b : Code) (fr : List SV) (pc : PC) (hp : Heap) : Option (List Leaf) := match r.code lo sz f it a fr pc hp with
  | some ls => bindL (seqK r lo sz f it b) ls
  | none => none
def blockK (id : Nat) : Leaf → Leaf
  | ⟨.exit j, fr, pc, hp⟩ => if Nat.beq j id then ⟨.normal, fr, pc, hp⟩ else ⟨.exit j, fr, pc, hp⟩
  | L => L
def blockS (r : Rec) (lo sz f it id : Nat) (a : Code) (fr : List SV) (pc : PC) (hp : Heap) : Option (List Leaf) := match r.code lo sz f it a fr pc hp with
  | some ls => some (ls.map (blockK id))
  | none => none
def both : Option (List Leaf) → Option (List Leaf) → Option (List Leaf)
  | some as, some bs => some (as ++ bs)
  | _, _ => none
def condS (r : Rec) (lo sz f it : Nat) (x : Operand) (a b : Code) (fr : List SV) (pc : PC) (hp : Heap) : Option (List Leaf) := match evalO fr x with
  | some (.bool e) => match e.known pc with
    | some true => r.code lo sz f it a fr pc hp
    | some false => r.code lo sz f it b fr pc hp
    | none => both (r.code lo sz f it a fr (asm e true :: pc) hp) (r.code lo sz f it b fr (asm e false :: pc) hp)
  | _ => none
def loopC (O : Orac) (r : Rec) (lo sz f it : Nat) (a : Code) (fr : List SV) (pc : PC) (hp : Heap) : Option (List Leaf) :=
  let sub := sz / K0
  let nm := lo + (it * 2 ^ 20 + site a * 256 + 255) * sub
  match O.loop f (site a) nm fr pc hp with
  | some x => if Nat.ble (nm + sub) (lo + sz) && Nat.ble 64 sub then x else none
  | none => r.loop lo sz f (it * 128) O.unroll a [⟨.normal, fr, pc, hp⟩]
def regT (r : Rec) (lo sz f it rid : Nat) (ops : Array Oper) (fr : List SV) (pc : PC) (hp : Heap) : Option (List Leaf) :=
  if Region.noSelect ops then r.draw lo sz f it rid ops ops.size [(List.replicate ops.size false, [⟨.normal, fr, pc, hp⟩])] else none
def regS (r : Rec) (lo sz f it rid : Nat) (ops : Array Oper) (fr : List SV) (pc : PC) (hp : Heap) : Bool → Option (List Leaf)
  | false => r.ops lo sz f it rid ops 0 ops.size [⟨.normal, fr, pc, hp⟩]
  | true => regT r lo sz f it rid ops fr pc hp
def codeS (O : Orac) (r : Rec) (lo sz f it : Nat) (c : Code) (fr : List SV) (pc : PC) (hp : Heap) : Option (List Leaf) :=
  match c with
  | .skip => some [⟨.normal, fr, pc, hp⟩]
  | .ret => some [⟨.ret, fr, pc, hp⟩]
  | .exit id => some [⟨.exit id, fr, pc, hp⟩]
  | .seq a b => seqS r lo sz f it a b fr pc hp
  | .block id a => blockS r lo sz f it id a fr pc hp
  | .cond x a b => condS r lo sz f it x a b fr pc hp
  | .region rid ops b => regS r lo sz f it rid ops fr pc hp b
  | .loop a => loopC O r lo sz f it a fr pc hp
  | _ => none
def isNormal : Leaf → Bool
  | ⟨.normal, _, _, _⟩ => true
  | _ => false
def loopK (r : Rec) (lo sz f it : Nat) (c : Code) : Leaf → Option (List Leaf)
  | ⟨.normal, fr, pc, hp⟩ => r.code lo sz f (it + 1) c fr pc hp
  | L => some [L]
def loopR (r : Rec) (lo sz f it k : Nat) (c : Code) (ls : List Leaf) : Option (List Leaf) := match bindL (loopK r lo sz f it c) ls with
  | some ls' => r.loop lo sz f (it + 1) k c ls'
  | none => none
def loopS (r : Rec) (lo sz f it k : Nat) (c : Code) (ls : List Leaf) : Option (List Leaf) :=
  match ls.find? isNormal with
  | none => some ls
  | some _ => match k with
    | 0 => none
    | k + 1 => loopR r lo sz f it k c ls
def opsS (r : Rec) (lo sz f it rid : Nat) (ops : Array Oper) (j k : Nat) (ls : List Leaf) : Option (List Leaf) := match k with
  | 0 => some ls
  | k + 1 => match r.step lo sz f it rid ops j ls with
    | some ls' => r.ops lo sz f it rid ops (j + 1) k ls'
    | none => none
def stepN (o : Oper) (fr : List SV) (v : SV) (pc : PC) (hp : Heap) : Option (List Leaf) := some [⟨.normal, fput fr o.dst v, pc, hp⟩]
def stepV (o : Oper) (nm : Nat) (fr : List SV) (v : SV) (pc : PC) (hp : Heap) : Option (List Leaf) :=
  if makes o.op then (if avL nm (nm + 1) fr && pav nm (nm + 1) pc then stepN o fr v pc hp else none) else stepN o fr v pc hp
def stepB (o : Oper) (nm : Nat) (pc : PC) : Option (List Leaf) :=
  if makes o.op then (if pav nm (nm + 1) pc then some [⟨.bad, [], pc, []⟩] else none) else some [⟨.bad, [], pc, []⟩]
def stepCK (d : Option Nat) (fr : List SV) : CLeaf → Leaf
  | ⟨true, _, pc, _⟩ => ⟨.bad, [], pc, []⟩
  | ⟨false, v, pc, hp⟩ => ⟨.normal, fput fr d v, pc, hp⟩
/-- Two paths, the first one looked at at once. -/
def withPc {α : Type} (a b : PC) (k : PC → α) : α := match a with
  | [] => k b
  | [x] => k (x :: b)
  | x :: y :: l => k (x :: y :: (l ++ b))
theorem withPc_eq {α : Type} (a b : PC) (k : PC → α) : withPc a b k = k (a ++ b) := by
  unfold withPc
  split <;> rfl
def stepC (r : Rec) (o : Oper) (nm sub : Nat) (fr : List SV) (g : Nat) (args : List SV) (pc : PC) (hp : Heap) : Option (List Leaf) :=
  if makes o.op then none else
  if avL nm (nm + sub) fr then
    match r.call nm sub g args pc hp with
    | none => none
    | some cs => some (cs.map (stepCK o.dst fr))
  else none
def stepP (r : Rec) (o : Oper) (nm sub : Nat) (fr : List SV) (hp0 : Heap) (x : ORes) (pc : PC) : Option (List Leaf) := match x with
  | .fail => none
  | .val v hp => stepV o nm fr v pc hp
  | .skip hp => if makes o.op then none else stepN o fr (.tup []) pc hp
  | .bad => stepB o nm pc
  | .call g args => stepC r o nm sub fr g args pc hp0
def stepO (r : Rec) (o : Oper) (nm sub : Nat) (fr : List SV) (pc : PC) (hp0 : Heap) : PC × ORes → Option (List Leaf)
  | (q, x) => withPc q pc (stepP r o nm sub fr hp0 x)
def opZ (P : Program) (O : Orac) (nm : Nat) (fr : List SV) (pc : PC) (hp : Heap) (o : Oper) : Option (List (PC × ORes)) :=
  match pureOp o.op with
  | true => opY P nm fr pc hp o
  | false => match O.op nm fr pc hp o with
    | some r => some r
    | none => opY P nm fr pc hp o
theorem opZ_eq (P : Program) (O : Orac) (nm : Nat) (fr : List SV) (pc : PC) (hp : Heap) (o : Oper) : opZ P O nm fr pc hp o = opO P O nm fr pc hp o := by
  unfold opZ opO
  simp only [opY_eq]
  cases pureOp o.op <;> rfl
def stepM (P : Program) (O : Orac) (r : Rec) (o : Oper) (nm sub top : Nat) (fr : List SV) (pc : PC) (hp : Heap) : Option (List Leaf) :=
  if Nat.ble (nm + sub) top && Nat.ble 1 sub then
    match opZ P O nm fr pc hp o with
    | none => none
    | some outs => bindL (stepO r o nm sub fr pc hp) outs
  else none
def stepW2 (P : Program) (O : Orac) (r : Rec) (o : Oper) (lo sz it rid j : Nat) (fr : List SV) (hp : Heap) (w : Bool) (pc : PC) : Option (List Leaf) :=
  if w then stepM P O r o (lo + (it * 2 ^ 20 + rid * 256 + j) * (sz / K0)) (sz / K0) (lo + sz) fr pc hp
  else some [⟨.normal, fput fr o.dst (.tup []), pc, hp⟩]
def stepW (P : Program) (O : Orac) (r : Rec) (o : Oper) (lo sz it rid j : Nat) (fr : List SV) (pc : PC) (hp : Heap) : PC × Bool → Option (List Leaf)
  | (q, w) => withPc q pc (stepW2 P O r o lo sz it rid j fr hp w)
def stepL (P : Program) (O : Orac) (r : Rec) (ops : Array Oper) (o : Oper) (lo sz it rid j : Nat) : Leaf → Option (List Leaf)
  | ⟨.normal, fr, pc, hp⟩ => bindO (wantX ops fr pc o) (stepW P O r o lo sz it rid j fr pc hp)
  | L => some [L]
def stepS (P : Program) (O : Orac) (r : Rec) (lo sz _f it rid : Nat) (ops : Array Oper) (j : Nat) (ls : List Leaf) : Option (List Leaf) := match ops[j]? with
  | none => none
  | some o => bindL (stepL P O r ops o lo sz it rid j) ls
def callR (lo sz : Nat) (pc : PC) (hp : Heap) : Option (List SV) → Option (List CLeaf)
  | some vs => some [⟨false, oneOr vs, pc, clean lo (lo + sz) (oneOr vs) hp⟩]
  | none => none
def callL (P : Program) (fn : Func) (lo sz : Nat) : Leaf → Option (List CLeaf)
  | ⟨.normal, fr, pc, hp⟩ => callR lo sz pc hp (resX P fr hp fn.results.toList)
  | ⟨.ret, fr, pc, hp⟩ => callR lo sz pc hp (resX P fr hp fn.results.toList)
  | ⟨.bad, _, pc, _⟩ => some [⟨true, .tup [], pc, []⟩]
  | ⟨.exit _, _, _, _⟩ => none
def callB (P : Program) (r : Rec) (lo sz f : Nat) (fn : Func) (c : Code) (args : List SV) (pc : PC) (hp : Heap) : Option (List CLeaf) :=
  match r.code lo sz f 0 c (args ++ List.replicate (fn.ntmps - args.length) (.tup [])) pc hp with
  | none => none
  | some ls => bindL (callL P fn lo sz) ls
def callS (P : Program) (O : Orac) (r : Rec) (lo sz f : Nat) (args : List SV) (pc : PC) (hp : Heap) : Option (List CLeaf) :=
  match O.call f lo args pc hp with
  | some x => if Nat.ble 64 sz then x else none
  | none => match P.funcs[f]? with
    | none => none
    | some fn => match fn.body with
      | none => none
      | some c => callB P r lo sz f fn c args pc hp
def drawE (ops : Array Oper) : Front → Option (List Leaf)
  | [(l, t)] => if (readyX ops l).isEmpty then some t else none
  | _ => none
def drawS (r : Rec) (lo sz f it rid : Nat) (ops : Array Oper) (k : Nat) (F : Front) : Option (List Leaf) := match k with
  | 0 => drawE ops F
  | k + 1 => match r.level lo sz f it rid ops F [] with
    | some G => r.draw lo sz f it rid ops k G
    | none => none
def firstX (ops : Array Oper) (l : List Bool) (i : Nat) : Bool := (match ops[i]? with | some o => pureOp o.op && o.guard.isNone | none => false) && Region.free .any ops l.toArray i
def levelT (r : Rec) (lo sz f it rid : Nat) (ops : Array Oper) (l : List Bool) (t : List Leaf) (rest : Front) (is : List Nat) (G : Front) : Option Front := match r.side lo sz f it rid ops l t is G with
  | some G' => r.level lo sz f it rid ops rest G'
  | none => none
def levelS (r : Rec) (lo sz f it rid : Nat) (ops : Array Oper) (F G : Front) : Option Front := match F with
  | [] => some G
  | (l, t) :: rest => match (readyX ops l).find? (firstX ops l) with
    | some i => levelT r lo sz f it rid ops l t rest [i] G
    | none => match readyX ops l with
      | [] => none
      | is => levelT r lo sz f it rid ops l t rest is G
def sideS (r : Rec) (lo sz f it rid : Nat) (ops : Array Oper) (l : List Bool) (t : List Leaf) (is : List Nat) (G : Front) : Option Front := match is with
  | [] => some G
  | i :: is' => match r.step lo sz f it rid ops i t with
    | none => none
    | some t' => match merge (l.set i true) t' G with
      | none => none
      | some G' => r.side lo sz f it rid ops l t is' G'
def recS (P : Program) (O : Orac) (r : Rec) : Rec := ⟨codeS O r, loopS r, opsS r, stepS P O r, callS P O r, drawS r, levelS r, sideS r⟩
def recN (P : Program) (O : Orac) : Nat → Rec
  | 0 => .zero
  | n + 1 => recS P O (recN P O n)

structure RecEq (P : Program) (O : Orac) (n : Nat) : Prop where
  code : ∀ lo sz f it c fr pc hp, (recN P O n).code lo sz f it c fr pc hp = codeX0 P O lo sz f n it c fr pc hp
  loop : ∀ lo sz f it k c ls, (recN P O n).loop lo sz f it k c ls = loopX0 P O lo sz f n it k c ls
  ops : ∀ lo sz f it rid ops j k ls, (recN P O n).ops lo sz f it rid ops j k ls = opsX0 P O lo sz f n it rid ops j k ls
  step : ∀ lo sz f it rid ops j ls, (recN P O n).step lo sz f it rid ops j ls = stepX0 P O lo sz f n it rid ops j ls
  call : ∀ lo sz f args pc hp, (recN P O n).call lo sz f args pc hp = callX0 P O lo sz n f args pc hp
  draw : ∀ lo sz f it rid ops k F, (recN P O n).draw lo sz f it rid ops k F = drawX0 P O lo sz f n it rid ops k F
  level : ∀ lo sz f it rid ops F G, (recN P O n).level lo sz f it rid ops F G = levelX0 P O lo sz f n it rid ops F G
  side : ∀ lo sz f it rid ops l t is G, (recN P O n).side lo sz f it rid ops l t is G = sideX0 P O lo sz f n it rid ops l t is G

theorem recN_eq (P : Program) (O : Orac) : ∀ n, RecEq P O n
  | 0 => { code := fun _ _ _ _ _ _ _ _ => rfl, loop := fun _ _ _ _ _ _ _ => rfl, ops := fun _ _ _ _ _ _ _ _ _ => rfl, step := fun _ _ _ _ _ _ _ _ => rfl,
           call := fun _ _ _ _ _ _ => rfl, draw := fun _ _ _ _ _ _ _ _ => rfl, level := fun _ _ _ _ _ _ _ _ => rfl, side := fun _ _ _ _ _ _ _ _ _ _ => rfl }
  | n + 1 => by
    have ih := recN_eq P O n
    refine { code := ?_, loop := ?_, ops := ?_, step := ?_, call := ?_, draw := ?_, level := ?_, side := ?_ }
    · intro lo sz f it c fr pc hp
      show codeS O (recN P O n) lo sz f it c fr pc hp = _
      cases c with
      | region rid ops b => cases b <;> simp only [codeX0, codeS, regS, regT, ih.ops, ih.draw]
      | cond x a b => simp only [codeX0, codeS, condS, ih.code]; rfl
      | seq a b =>
        have : seqK (recN P O n) lo sz f it b = fun L => match L.ex with | .normal => codeX0 P O lo sz f n it b L.fr L.pc L.hp | _ => some [L] := by
          funext L; obtain ⟨ex, fr, pc, hp⟩ := L; cases ex <;> simp only [seqK, ih.code]
        simp only [codeX0, codeS, seqS, ih.code, this]; rfl
      | block id a =>
        have : blockK id = fun L => match L.ex with | .exit j => if Nat.beq j id then { L with ex := .normal } else L | _ => L := by
          funext L; obtain ⟨ex, fr, pc, hp⟩ := L; cases ex <;> rfl
        simp only [codeX0, codeS, blockS, ih.code, this]; rfl
      | loop a => simp only [codeX0, codeS, loopC, ih.loop]; rfl
      | _ => simp only [codeX0, codeS]
    · intro lo sz f it k c ls
      show loopS (recN P O n) lo sz f it k c ls = _
      rw [loopX0.eq_def]
      have h2 : loopK (recN P O n) lo sz f it c = fun L => match L.ex with | .normal => codeX0 P O lo sz f n (it + 1) c L.fr L.pc L.hp | _ => some [L] := by
        funext L; obtain ⟨ex, fr, pc, hp⟩ := L; cases ex <;> simp only [loopK, ih.code]
      have h3 : isNormal = fun L => match L.ex with | .normal => true | _ => false := by
        funext L; obtain ⟨ex, fr, pc, hp⟩ := L; cases ex <;> rfl
      unfold loopS
      rw [h3]
      show (match ls.find? _ with | none => _ | some _ => _) = (match ls.find? _ with | none => _ | some _ => _)
      cases ls.find? (fun L => match L.ex with | .normal => true | _ => false) with
      | none => rfl
      | some x =>
        cases k with
        | zero => rfl
        | succ k => simp only [loopR, h2, ih.loop]; rfl
    · intro lo sz f it rid ops j k ls
      show opsS (recN P O n) lo sz f it rid ops j k ls = _
      rw [opsX0.eq_def]
      simp only [opsS, ih.step, ih.ops]; rfl
    · intro lo sz f it rid ops j ls
      show stepS P O (recN P O n) lo sz f it rid ops j ls = _
      rw [stepX0]
      unfold stepS
      cases ops[j]? with
      | none => rfl
      | some o =>
        show bindL _ _ = bindL _ _
        congr 1
        funext L
        obtain ⟨ex, fr, pc, hp⟩ := L
        cases ex with
        | normal =>
          show bindO _ _ = bindO _ _
          congr 1
          funext w
          obtain ⟨q, w⟩ := w
          simp only [stepW, withPc_eq]
          unfold stepW2 stepM
          simp only [opZ_eq]
          cases w with
          | false => rfl
          | true =>
            simp only [if_true]
            split
            · cases opO P O (lo + (it * 2 ^ 20 + rid * 256 + j) * (sz / K0)) fr (q ++ pc) hp o with
              | none => rfl
              | some outs =>
                show bindL _ _ = bindL _ _
                congr 1
                funext x
                obtain ⟨q2, x⟩ := x
                have hck : ∀ d : Option Nat, stepCK d fr = fun c => if c.bad then ⟨.bad, [], c.pc, []⟩ else ⟨.normal, fput fr d c.v, c.pc, c.hp⟩ := by
                  intro d; funext c; obtain ⟨b, v, pc, hp⟩ := c; cases b <;> rfl
                simp only [stepO, withPc_eq]
                unfold stepP
                cases x <;> simp only [stepV, stepN, stepB, stepC, ih.call, hck] <;> rfl
            · rfl
        | _ => rfl
    · intro lo sz f args pc hp
      show callS P O (recN P O n) lo sz f args pc hp = _
      rw [callX0]
      have hL : ∀ fn : Func, callL P fn lo sz = fun L => match L.ex with
          | .normal | .ret => match resX P L.fr L.hp fn.results.toList with
            | some vs => some [⟨false, oneOr vs, L.pc, clean lo (lo + sz) (oneOr vs) L.hp⟩]
            | none => none
          | .bad => some [⟨true, .tup [], L.pc, []⟩]
          | .exit _ => none := by
        intro fn; funext L; obtain ⟨ex, fr, pc, hp⟩ := L; cases ex <;> (simp only [callL, callR] <;> rfl)
      simp only [callS, callB, ih.code, hL]; rfl
    · intro lo sz f it rid ops k F
      show drawS (recN P O n) lo sz f it rid ops k F = _
      rw [drawX0.eq_def]
      simp only [drawS, ih.level, ih.draw]; rfl
    · intro lo sz f it rid ops F G
      show levelS (recN P O n) lo sz f it rid ops F G = _
      rw [levelX0.eq_def]
      simp only [levelS, levelT, ih.side, ih.level]; rfl
    · intro lo sz f it rid ops l t is G
      show sideS (recN P O n) lo sz f it rid ops l t is G = _
      rw [sideX0.eq_def]
      simp only [sideS, ih.step, ih.side]; rfl

def codeX (P : Program) (O : Orac) (lo sz f n it : Nat) (c : Code) (fr : List SV) (pc : PC) (hp : Heap) : Option (List Leaf) := (recN P O n).code lo sz f it c fr pc hp
def callX (P : Program) (O : Orac) (lo sz n f : Nat) (args : List SV) (pc : PC) (hp : Heap) : Option (List CLeaf) := (recN P O n).call lo sz f args pc hp
theorem codeX_eq (P : Program) (O : Orac) (lo sz f n it : Nat) (c : Code) (fr : List SV) (pc : PC) (hp : Heap) : codeX P O lo sz f n it c fr pc hp = codeX0 P O lo sz f n it c fr pc hp := (recN_eq P O n).code ..
theorem callX_eq (P : Program) (O : Orac) (lo sz n f : Nat) (args : List SV) (pc : PC) (hp : Heap) : callX P O lo sz n f args pc hp = callX0 P O lo sz n f args pc hp := (recN_eq P O n).call ..

section
variable {P : Program} {G : Type} {O : Orac} {I : In G}
theorem x_code (pr : PR P) (oo : OOK P O I) {n lo sz f it : Nat} {c : Code} {fr : List SV} {pc : PC} {hp : Heap} {ls : List Leaf} (h : codeX P O lo sz f n it c fr pc hp = some ls) (hp0 : PartOf P f c) (B : Base) (ν0 : Env G) (ρ0 : Nat → Nat) (Q : Exit → Act → World → Prop) (hI : ν0.I = I) (hQ : NP Q)
    (hl : ∀ L ∈ ls, ∀ a w, SatL lo (lo + sz) ν0 ρ0 B L a w → LQ Q L.ex a w) (a : Act) (w : World) (hs : SatL lo (lo + sz) ν0 ρ0 B ⟨.normal, fr, pc, hp⟩ a w) : c.wp P Q a w :=
  (all_ok pr oo n).code (codeX_eq P O lo sz f n it c fr pc hp ▸ h) hp0 B ν0 ρ0 Q hI hQ hl a w hs
theorem x_call (pr : PR P) (oo : OOK P O I) {n lo sz f : Nat} {args : List SV} {pc : PC} {hp : Heap} {cs : List CLeaf} (h : callX P O lo sz n f args pc hp = some cs) (B : Base) (ν : Env G) (ρ : Nat → Nat) (w : World) (R : Ending → World → Prop) (hI : ν.I = I) (hpc : pcDen ν pc) (hw : HW B ν ρ hp w)
    (hc : ∀ c ∈ cs, ∀ ν' ρ' w', Agree lo (lo + sz) ν ν' ρ ρ' → pcDen ν' c.pc → c.bad = false ∧ (HW B ν' ρ' c.hp w' → R (.returned (c.v.den ν' ρ')) w')) : Calls P f (denL ν ρ args).toArray w R :=
  (all_ok pr oo n).call (callX_eq P O lo sz n f args pc hp ▸ h) B ν ρ w R hI hpc hw hc
end
/-- A call, from fuel enough. -/
def runX (P : Program) (O : Orac) (f : Nat) (args : List SV) (pc : PC) (hp : Heap) : Option (List CLeaf) :=
  callX P O LO LO 6000 f args pc hp
/-- A piece of a function's code. -/
def pieceX (P : Program) (O : Orac) (f : Nat) (c : Code) (fr : List SV) (pc : PC) (hp : Heap) : Option (List Leaf) :=
  codeX P O LO LO f 6000 0 c fr pc hp
end Go.Sy
