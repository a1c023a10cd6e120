/- The operations over the plain heap, and that each does in the model what it does there. -/
import Derived.Test.YtoknmodbdlfdmaaSim1
import Derived.Laws.Entries
import Derived.Laws.Append
import Derived.Laws.Unary
namespace Go.Proofs.Ytoknmodbdlfdmaa.Sim
open Go Go.RowKit
set_option linter.unusedVariables false
set_option linter.unusedSimpArgs false
abbrev Fr := Nat → Value
def ev (ρ : Fr) : Operand → Value
  | .tmp t => ρ t
  | .const v => v
  | .global g => .pointer (some ⟨gl.idxOf g, 0, none⟩)
  | .func f => .func (.func f) #[] #[]
def opOk : Operand → Bool
  | .tmp _ => true
  | .const v => plainV v
  | .global g => gl.contains g
  | .func _ => true
inductive EqKind where
  | bool | ptr | slice | iface
inductive ROp where
  | mv (x : Operand)
  | pick (c a b : Operand)
  | newv (ty : TypeId) (zero : List Value)
  | box (ty : TypeId) (x : Operand)
  | build (zero : List Value) (parts : List (Nat × Nat × Operand))
  | bslice (ty : TypeId) (esz len : Nat) (zero : List Value) (parts : List (Nat × Nat × Operand))
  | load (x : Operand)
  | loadn (n : Nat) (x : Operand)
  | store (n : Nat) (x v : Operand)
  | nilCheck (x : Operand)
  | arith (op : BinOp) (x y : Operand)
  | same (neg : Bool) (kind : EqKind) (x y : Operand)
  | un (op : UnOp) (x : Operand)
  | conv (k : IntKind) (x : Operand)
  | fieldA (off : Nat) (x : Operand)
  | part (agg : Bool) (off n : Nat) (x : Operand)
  | idxS (esz : Nat) (x i : Operand)
  | idxA (len esz : Nat) (x i : Operand)
  | idxV (agg : Bool) (len esz : Nat) (x i : Operand)
  | len (str : Bool) (x : Operand)
  | alen (n : Nat)
  | mnmx (mx : Bool) (xs : List Operand)
  | extract (x : Operand) (i : Nat)
  | mkIface (t : TypeId) (x : Operand)
  | sliceS (esz : Nat) (x : Operand) (lo hi : Option Operand)
  | append (ty : TypeId) (esz bytes : Nat) (s x : Operand)
  | sameI (neg : Bool) (x y : Operand)
  | tassert (t : TypeId) (zero : Value) (x : Operand)
  | mkslice (ty : TypeId) (esz bytes : Nat) (zero : List Value) (l c : Operand)
  | mkfn (f : FuncId) (xs : List Operand)
  | mkmap (q : IntKind)
  | look (q : IntKind) (z : Value) (m x : Operand)
  | mupd (q : IntKind) (m x v : Operand)
def binInt (op : BinOp) (k : IntKind) (a : Int) (k' : IntKind) (b : Int) : Option Value :=
  match op with
  | .shl => if b < 0 then none else some (.int k (k.wrap (a * 2 ^ (min b.toNat k.bits))))
  | .shr => if b < 0 then none else some (.int k (a.fdiv (2 ^ (min b.toNat k.bits))))
  | .add => if k = k' then some (.int k (k.wrap (a + b))) else none
  | .sub => if k = k' then some (.int k (k.wrap (a - b))) else none
  | .mul => if k = k' then some (.int k (k.wrap (a * b))) else none
  | .quo => if k = k' then if b = 0 then none else some (.int k (k.wrap (a.tdiv b))) else none
  | .rem => if k = k' then if b = 0 then none else some (.int k (a.tmod b)) else none
  | .and => if k = k' then some (.int k (k.wrap (BitVec.ofInt k.bits a &&& BitVec.ofInt k.bits b).toNat)) else none
  | .or => if k = k' then some (.int k (k.wrap (BitVec.ofInt k.bits a ||| BitVec.ofInt k.bits b).toNat)) else none
  | .xor => if k = k' then some (.int k (k.wrap (BitVec.ofInt k.bits a ^^^ BitVec.ofInt k.bits b).toNat)) else none
  | .andNot => if k = k' then some (.int k (k.wrap (BitVec.ofInt k.bits a &&& ~~~ BitVec.ofInt k.bits b).toNat)) else none
  | .eql => if k = k' then some (.bool (decide (a = b))) else none
  | .neq => if k = k' then some (.bool (!decide (a = b))) else none
  | .lss => if k = k' then some (.bool (decide (a < b))) else none
  | .leq => if k = k' then some (.bool (decide (a ≤ b))) else none
  | .gtr => if k = k' then some (.bool (decide (b < a))) else none
  | .geq => if k = k' then some (.bool (decide (b ≤ a))) else none
def arithV (op : BinOp) : Value → Value → Option Value
  | .int k a, .int k' b => binInt op k a k' b
  | _, _ => none
/-- Equality of values that are no numbers. -/
def eqV : EqKind → Value → Value → Option Bool
  | .bool, .bool a, .bool b => some (a == b)
  | .ptr, .pointer none, .pointer b => some b.isNone
  | .ptr, .pointer (some _), .pointer none => some false
  | .slice, .slice none 0 0, .slice none 0 0 => some true
  | .slice, .slice none 0 0, .slice (some _) _ _ => some false
  | .slice, .slice (some _) _ _, .slice none 0 0 => some false
  | .slice, .slice none 0 (_ + 1), .slice none 0 0 => some false
  | .iface, .nilIface, .nilIface => some true
  | .iface, .nilIface, .iface _ _ => some false
  | .iface, .iface _ _, .nilIface => some false
  | _, _, _ => none
/-- Equality of interfaces neither of which is the constant nil. -/
def eqI : Value → Value → Option Bool
  | .iface t a, .iface u b => if t = u then
      (if t = et then match a, b with
        | .pointer (some ⟨i, 0, none⟩), .pointer (some ⟨j, 0, none⟩) => if gl.length ≤ i ∧ i < 2 * gl.length ∧ gl.length ≤ j ∧ j < 2 * gl.length then some (decide (i = j)) else none
        | _, _ => none
       else none)
    else some false
  | .nilIface, .iface _ _ => some false
  | .iface _ _, .nilIface => some false
  | _, _ => none
def isConst : Operand → Bool
  | .const _ => true
  | _ => false
def sameV (kind : EqKind) (x y : Operand) (v w : Value) : Option Bool :=
  match kind, v, w with
  | .iface, .nilIface, .nilIface => if isConst x || isConst y then some true else none
  | k, v, w => eqV k v w
def tassV (t : TypeId) (z : Value) : Value → Option Value
  | .iface u v => some (.tuple ⟨if u = t then [v, .bool true] else [z, .bool false]⟩)
  | .nilIface => some (.tuple ⟨[z, .bool false]⟩)
  | _ => none
def unV : UnOp → Value → Option Value
  | .neg, .int k n => some (.int k (k.wrap (0 - n)))
  | .xor, .int k n => some (.int k (k.wrap (BitVec.ofInt k.bits (if k.signed then -1 else k.max) ^^^ BitVec.ofInt k.bits n).toNat))
  | .not, .bool b => some (.bool !b)
  | _, _ => none
def fillL (zero : List Value) : List (Nat × Nat × Value) → Option (List Value)
  | [] => some zero
  | (off, n, v) :: rest => if v.cells.toList.length = n ∧ off + n ≤ zero.length then fillL (zero.take off ++ v.cells.toList ++ zero.drop (off + n)) rest else none
def live (H : Heap) (i : Nat) : Option Blk := ((H[i]?).join).filter fun b => b.mp.it.isNone
def mlive (H : Heap) (i : Nat) : Option MRep := ((H[i]?).join).bind fun b => b.mp.it
def findM : List (Int × Value) → Int → Option Value
  | [], _ => none
  | (y, u) :: l, x => if x = y then some u else findM l x
def putM : List (Int × Value) → Int → Value → List (Int × Value)
  | [], x, v => [(x, v)]
  | (y, u) :: l, x, v => if x = y then (y, v) :: l else (y, u) :: putM l x v
/-- The stamps behind a store. -/
def putG (l : List (Int × Value)) (x : Int) (g : Gs) : Gs := match findM l x with | some _ => g | none => (g.1 ++ [g.2], g.2 + 1)
def lookTo (z : Value) : Option Value → Value
  | some v => .tuple ⟨[v, .bool true]⟩
  | none => .tuple ⟨[z, .bool false]⟩
def lookV (q : IntKind) (z : Value) (H : Heap) : Value → Value → Option Value
  | .map (some i), .int q' x => (mlive H i).bind fun p => if p.1 = q ∧ q' = q then some (lookTo z (findM p.2.1 x)) else none
  | _, _ => none
def mupdV (q : IntKind) (H : Heap) : Value → Value → Value → Option Heap
  | .map (some i), .int q' x, v => (mlive H i).bind fun p => if p.1 = q ∧ q' = q then some (H.set i (some (mapB q (putM p.2.1 x v) (putG p.2.1 x p.2.2)))) else none
  | _, _, _ => none
def loadV (H : Heap) : Value → Option Value
  | .pointer (some ⟨i, off, none⟩) => (live H i).bind fun b => b.cells[off]?
  | _ => none
def loadnV (H : Heap) (n : Nat) : Value → Option Value
  | .pointer (some ⟨i, off, none⟩) => (live H i).bind fun b => if off + n ≤ b.cells.length then some (.agg ⟨(b.cells.drop off).take n⟩) else none
  | _ => none
def storeV (H : Heap) (n : Nat) (p v : Value) : Option Heap :=
  match p with
  | .pointer (some ⟨i, off, none⟩) => (live H i).bind fun b =>
    if b.own = true ∧ v.cells.toList.length = n ∧ off + n ≤ b.cells.length ∧ v.cells.toList.all Value.oneCell' = true then
      some (H.set i (some ⟨true, b.ty, b.cells.take off ++ v.cells.toList ++ b.cells.drop (off + n)⟩))
    else none
  | _ => none
def notNil : Value → Option Value
  | .pointer (some a) => some (.pointer (some a))
  | .func (.func f) a b => some (.func (.func f) a b)
  | _ => none
def fieldV (off : Nat) : Value → Option Value
  | .pointer (some ⟨i, o, none⟩) => some (.pointer (some ⟨i, o + off, none⟩))
  | _ => none
def partV (agg : Bool) (off n : Nat) : Value → Option Value
  | .agg cs => if agg then some (.agg ⟨(cs.toList.drop off).take n⟩) else cs.toList[off]?
  | _ => none
def idxSV (esz : Nat) : Value → Value → Option Value
  | .slice (some ⟨i, o, none⟩) len _, .int _ j => if 0 ≤ j ∧ j < len then some (.pointer (some ⟨i, o + j.toNat * esz, none⟩)) else none
  | _, _ => none
def idxAV (len esz : Nat) : Value → Value → Option Value
  | .pointer (some ⟨i, o, none⟩), .int _ j => if 0 ≤ j ∧ j < len then some (.pointer (some ⟨i, o + j.toNat * esz, none⟩)) else none
  | _, _ => none
def idxVV (agg : Bool) (len esz : Nat) : Value → Value → Option Value
  | .agg cs, .int _ j => if 0 ≤ j ∧ j < len then partV agg (j.toNat * esz) esz (.agg cs) else none
  | _, _ => none
def lenV : Bool → Value → Option Value
  | false, .slice _ n _ => some (.int .i64 n)
  | true, .string s => some (.int .i64 s.size)
  | _, _ => none
def mnmx2 (mx : Bool) : Value → Value → Option Value
  | .int k x, .int _ y => some (.int k (if mx then (if x < y then y else x) else (if y < x then y else x)))
  | _, _ => none
def mnmxV (mx : Bool) : List Value → Option Value
  | [] => none
  | v :: l => l.foldl (fun a x => a.bind fun a => mnmx2 mx a x) (some v)
def extractV (i : Nat) : Value → Option Value
  | .tuple vs => vs.toList[i]?
  | _ => none
def boundV (d : Nat) : Option Value → Option Nat
  | none => some d
  | some (.int _ n) => if 0 ≤ n then some n.toNat else none
  | _ => none
def sliceV (esz : Nat) (v : Value) (lo hi : Option Value) : Option Value :=
  match v with
  | .slice none 0 0 => (boundV 0 lo).bind fun l => (boundV 0 hi).bind fun h => if h = 0 ∧ l = 0 then some (.slice none 0 0) else none
  | .slice none 0 (e + 1) => (boundV 0 lo).bind fun l => (boundV 0 hi).bind fun h => if h = 0 ∧ l = 0 then some (.slice none 0 (e + 1)) else none
  | .slice (some ⟨i, o, none⟩) len e => (boundV 0 lo).bind fun l => (boundV len hi).bind fun h =>
      if h ≤ len ∧ (l < h ∨ l = 0 ∧ l ≤ h) then some (.slice (some ⟨i, o + l * esz, none⟩) (h - l) e) else if l = h ∧ h ≤ len then some (.slice none 0 1) else none
  | _ => none
/-- The cells of a slice, or of a string's bytes. -/
def sliceCells (H : Heap) (esz : Nat) : Value → Option (List Value)
  | .slice none 0 _ => some []
  | .slice (some ⟨i, o, none⟩) n _ => (live H i).bind fun b => if o + n * esz ≤ b.cells.length then some ((b.cells.drop o).take (n * esz)) else none
  | _ => none
def sliceLen : Value → Nat
  | .slice _ n _ => n
  | _ => 0
/-- append: what was is there no more under its old name. -/
def appendV (ty : TypeId) (esz bytes : Nat) (H : Heap) (s x : Value) : Option (Value × Heap) :=
  (sliceCells H esz x).bind fun new =>
  match s with
  | .slice none 0 0 =>
    if sliceLen x = 0 then some (.slice none 0 0, H) else
    if sliceLen x * bytes ≤ 140737488355328 then some (.slice (some ⟨H.length, 0, none⟩) (sliceLen x) esz, H ++ [some ⟨true, ty, new⟩]) else none
  | .slice (some ⟨i, 0, none⟩) n e =>
    if sliceLen x = 0 then some (.slice (some ⟨i, 0, none⟩) n e, H) else
    (live H i).bind fun b =>
      if b.own = true ∧ b.ty = ty ∧ e = esz ∧ b.cells.length = n * esz ∧ (n + sliceLen x) * bytes ≤ 140737488355328 ∧ new.all Value.oneCell' = true then
        some (.slice (some ⟨H.length, 0, none⟩) (n + sliceLen x) esz, H.set i none ++ [some ⟨true, ty, b.cells ++ new⟩])
      else none
  | _ => none
def fillZ (z : List Value) : Nat → List Value
  | 0 => []
  | n + 1 => fillZ z n ++ z
def mksliceV (ty : TypeId) (esz bytes : Nat) (z : List Value) (H : Heap) : Value → Value → Option (Value × Heap)
  | .int _ l, .int _ c => if 0 ≤ l ∧ l ≤ c ∧ (bytes : Int) * c ≤ 140737488355328 ∧ c ≤ 140737488355328 then some (.slice (some ⟨H.length, 0, none⟩) l.toNat esz, H ++ [some ⟨true, ty, fillZ z l.toNat⟩]) else none
  | _, _ => none
def stepOp (ρ : Fr) (H : Heap) : ROp → Option (Value × Heap)
  | .mv x => some (ev ρ x, H)
  | .pick c a b => match ev ρ c with | .bool t => some (if t = true then ev ρ a else ev ρ b, H) | _ => none
  | .newv ty z => some (.pointer (some ⟨H.length, 0, none⟩), H ++ [some ⟨true, ty, z⟩])
  | .box ty x => some (.pointer (some ⟨H.length, 0, none⟩), H ++ [some ⟨true, ty, (ev ρ x).cells.toList⟩])
  | .build z ps => (fillL z (ps.map fun p => (p.1, p.2.1, ev ρ p.2.2))).map fun l => (.agg ⟨l⟩, H)
  | .bslice ty esz len z ps => (fillL z (ps.map fun p => (p.1, p.2.1, ev ρ p.2.2))).map fun l => (.slice (some ⟨H.length, 0, none⟩) len esz, H ++ [some ⟨true, ty, l⟩])
  | .load x => (loadV H (ev ρ x)).map fun v => (v, H)
  | .loadn n x => (loadnV H n (ev ρ x)).map fun v => (v, H)
  | .store n p x => (storeV H n (ev ρ p) (ev ρ x)).map fun H' => (undef, H')
  | .nilCheck x => (notNil (ev ρ x)).map fun v => (v, H)
  | .arith op x y => (arithV op (ev ρ x) (ev ρ y)).map fun v => (v, H)
  | .same neg k x y => (sameV k x y (ev ρ x) (ev ρ y)).map fun b => (.bool (if neg = true then !b else b), H)
  | .un op x => (unV op (ev ρ x)).map fun v => (v, H)
  | .conv k x => match ev ρ x with | .int _ n => some (.int k (k.wrap n), H) | _ => none
  | .fieldA off x => (fieldV off (ev ρ x)).map fun v => (v, H)
  | .part agg off n x => (partV agg off n (ev ρ x)).map fun v => (v, H)
  | .idxS esz x i => (idxSV esz (ev ρ x) (ev ρ i)).map fun v => (v, H)
  | .idxA len esz x i => (idxAV len esz (ev ρ x) (ev ρ i)).map fun v => (v, H)
  | .idxV agg len esz x i => (idxVV agg len esz (ev ρ x) (ev ρ i)).map fun v => (v, H)
  | .len str x => (lenV str (ev ρ x)).map fun v => (v, H)
  | .alen n => some (.int .i64 n, H)
  | .mnmx mx xs => (mnmxV mx (xs.map (ev ρ))).map fun v => (v, H)
  | .extract x i => (extractV i (ev ρ x)).map fun v => (v, H)
  | .mkIface t x => some (.iface t (ev ρ x), H)
  | .sliceS esz x lo hi => (sliceV esz (ev ρ x) (lo.map (ev ρ)) (hi.map (ev ρ))).map fun v => (v, H)
  | .append ty esz bytes s x => appendV ty esz bytes H (ev ρ s) (ev ρ x)
  | .sameI neg x y => (eqI (ev ρ x) (ev ρ y)).map fun b => (.bool (if neg = true then !b else b), H)
  | .tassert t z x => (tassV t z (ev ρ x)).map fun v => (v, H)
  | .mkslice ty esz bytes z l c => mksliceV ty esz bytes z H (ev ρ l) (ev ρ c)
  | .mkfn f xs => some (.func (.func f) #[] ⟨xs.map (ev ρ)⟩, H)
  | .mkmap q => some (.map (some H.length), H ++ [some (mapB q [] ([], 0))])
  | .look q z m x => (lookV q z H (ev ρ m) (ev ρ x)).map fun v => (v, H)
  | .mupd q m x v => (mupdV q H (ev ρ m) (ev ρ x) (ev ρ v)).map fun H' => (undef, H')
/-- The type of a map's numbers, and of its elements. -/
def mapOf (P : Program) (t : TypeId) : Option (IntKind × TypeId) := match P.underlying t with
  | some (.map k e) => match P.underlying k with
    | some (.int q) => some (q, e)
    | _ => none
  | _ => none
/-- What an operation of the model is here. -/
def isAggB (d : TypeDesc) : Bool := match d with | .struct _ | .array _ _ => true | _ => false
def fieldsOf (P : Program) (t : TypeId) : Option (Array Field) := match P.underlying t with | some (.struct fs) => some fs | _ => none
def partsOf (P : Program) (place : Nat → Option (Nat × Nat)) : List (Nat × Operand) → Option (List (Nat × Nat × Operand))
  | [] => some []
  | (i, x) :: l => match place i, opOk x, partsOf P place l with
    | some (off, n), true, some r => some ((off, n, x) :: r)
    | _, _, _ => none
def zeroRow (z : Value) (n : Nat) : List Value := ((Array.range n).map (z.cells[· % z.cells.size]!)).toList
def etOk (P : Program) : Bool := match P.underlying et, P.info? et with
  | some (.pointer te), some i => i.comparable && (match P.info? te with | some j => j.size != 0 | none => false)
  | _, _ => false
def resolveOp (P : Program) (op : Op) : Option ROp :=
  match op with
  | .move x | .assign x => if opOk x then some (.mv x) else none
  | .pick c a b => if opOk c && opOk a && opOk b then some (.pick c a b) else none
  | .alloc t => match P.info? t with
    | some i => match i.zero with
      | some z => if z.cells.toList.all plainB then some (.newv t z.cells.toList) else none
      | none => none
    | none => none
  | .box t x => if opOk x then some (.box t x) else none
  | .build t ps => match P.info? t with
    | some i => match i.zero with
      | some z => if z.cells.toList.all plainB then
          match P.underlying t with
          | some (.struct fs) => if fs.all (fun f => (P.info? f.type).isSome) then (partsOf P (fun j => (fs[j]?).map fun f => (f.offset, P.cellsOf f.type)) ps.toList).map fun r => .build z.cells.toList r else none
          | some (.array _ e) => match P.info? e with
            | some ie => (partsOf P (fun j => some (j * ie.size, ie.size)) ps.toList).map fun r => .build z.cells.toList r
            | none => none
          | _ => none
        else none
      | none => none
    | none => none
  | .load t x => if opOk x then match P.underlying t, P.info? t with
      | some d, some i => some (if isAggB d then .loadn i.size x else .load x)
      | _, _ => none else none
  | .store t p x => if opOk p && opOk x then match P.info? t with
      | some i => some (.store i.size p x)
      | none => none else none
  | .nilCheck x => if opOk x then some (.nilCheck x) else none
  | .binOp op t x y _ => if opOk x && opOk y then match P.underlying t with
      | some (.int _) => some (.arith op x y)
      | some .bool => match op with | .eql => some (.same false .bool x y) | .neq => some (.same true .bool x y) | _ => none
      | some (.pointer _) => match op with | .eql => some (.same false .ptr x y) | .neq => some (.same true .ptr x y) | _ => none
      | some (.slice _) => match op with | .eql => some (.same false .slice x y) | .neq => some (.same true .slice x y) | _ => none
      | some (.interface _) => match op with
        | .eql => if isConst x || isConst y then some (.same false .iface x y) else if etOk P then some (.sameI false x y) else none
        | .neq => if isConst x || isConst y then some (.same true .iface x y) else if etOk P then some (.sameI true x y) else none
        | _ => none
      | _ => none else none
  | .unOp op _ x => if opOk x then some (.un op x) else none
  | .convert s d x => if opOk x then match P.underlying s, P.underlying d with
      | some (.int _), some (.int k) => some (.conv k x)
      | _, _ => none else none
  | .fieldAddr s x f => if opOk x then match P.underlying s with
      | some (.struct fs) => match fs[f]? with
        | some fl => match P.info? fl.type with
          | some i => if i.size = 0 then none else some (.fieldA fl.offset x)
          | none => none
        | none => none
      | _ => none else none
  | .field s x f => if opOk x then match P.underlying s with
      | some (.struct fs) => match fs[f]? with
        | some fl => match P.underlying fl.type, P.info? fl.type with
          | some d, some i => some (.part (isAggB d) fl.offset i.size x)
          | _, _ => none
        | none => none
      | _ => none else none
  | .indexAddr t x i => if opOk x && opOk i then match P.underlying t with
      | some (.slice e) => match P.info? e with | some ie => some (.idxS ie.size x i) | none => none
      | some (.array n e) => match P.info? e with | some ie => some (.idxA n ie.size x i) | none => none
      | _ => none else none
  | .index t x i => if opOk x && opOk i then match P.underlying t with
      | some (.array n e) => match P.info? e, P.underlying e with | some ie, some d => some (.idxV (isAggB d) n ie.size x i) | _, _ => none
      | _ => none else none
  | .makeInterface t x => if opOk x then match P.underlying t with
      | some (.interface _) => none
      | some _ => some (.mkIface t x)
      | none => none else none
  | .slice t x lo hi mx => if opOk x && lo.all opOk && hi.all opOk && mx.isNone then match P.underlying t with
      | some (.slice e) => match P.info? e with | some ie => some (.sliceS ie.size x lo hi) | none => none
      | _ => none else none
  | .buildSlice t len ps => match P.underlying t with
    | some (.slice e) => match P.info? e with
      | some ie => match ie.zero with
        | some z => if (zeroRow z (len * ie.size)).all plainB && decide (len * ie.size ≤ 2 ^ 24) then
            (partsOf P (fun j => some (j * ie.size, ie.size)) ps.toList).map fun r => .bslice e ie.size len (zeroRow z (len * ie.size)) r
          else none
        | none => none
      | none => none
    | _ => none
  | .typeAssert x _ t true => if opOk x then match P.underlying t, P.info? t with
      | some d, some i => match d, i.zero with
        | .interface _, _ => none
        | _, some z => if plainB z then some (.tassert t z x) else none
        | _, none => none
      | _, _ => none else none
  | .makeSlice t l c => if opOk l && opOk c then match P.underlying t with
      | some (.slice e) => match P.info? e with
        | some ie => match ie.zero with
          | some z => if z.cells.toList.all plainB && decide (0 < ie.size) && decide (z.cells.size = ie.size) then some (.mkslice e ie.size ie.bytes z.cells.toList l c) else none
          | none => none
        | none => none
      | _ => none else none
  | .makeMap t none => (mapOf P t).map fun p => .mkmap p.1
  | .lookup t m k true => if opOk m && opOk k then match mapOf P t with
      | some (q, e) => match P.info? e with
        | some i => match i.zero with
          | some z => if plainV z then some (.look q z m k) else none
          | none => none
        | none => none
      | none => none else none
  | .mapUpdate t m k v => if opOk m && opOk k && opOk v then (mapOf P t).map fun p => .mupd p.1 m k v else none
  | .extract x i => if opOk x then some (.extract x i) else none
  | .makeFunc fn first captured => match fn, first.toList with
    | .func f, [] => if captured.toList.all opOk then some (.mkfn f captured.toList) else none
    | _, _ => none
  | .call c => if c.args.toList.all opOk then
      match c.callee with
      | .builtin .len => match c.args.toList, c.argTypes[0]? with
        | [x], some t => match P.underlying t with
          | some (.slice _) => some (.len false x)
          | some .string => some (.len true x)
          | some (.array n _) => some (.alen n)
          | _ => none
        | _, _ => none
      | .builtin .max => some (.mnmx true c.args.toList)
      | .builtin .min => some (.mnmx false c.args.toList)
      | .builtin .append => match c.args.toList, c.argTypes.toList with
        | [s, x], [t, t'] => match P.underlying t with
          | some (.slice e) => match P.info? e with
            | some ie => match ie.zero with
              | some z => if (t == t') && decide (0 < ie.size) && decide (z.cells.size = ie.size) && decide (0 < ie.bytes) then some (.append e ie.size ie.bytes s x) else none
              | none => none
            | none => none
          | _ => none
        | _, _ => none
      | _ => none
    else none
  | _ => none
end Go.Proofs.Ytoknmodbdlfdmaa.Sim
