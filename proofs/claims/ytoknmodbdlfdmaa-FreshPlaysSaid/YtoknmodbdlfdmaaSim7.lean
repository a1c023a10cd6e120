/- Code over the plain heap: regions in order, regions that draw their order, branches, loops, calls. -/
import Derived.Test.YtoknmodbdlfdmaaSim6
namespace Go.Proofs.Ytoknmodbdlfdmaa.Sim
open Go Go.RowKit
set_option linter.unusedVariables false
set_option linter.unusedSimpArgs false
inductive SOp where
  | plain (r : ROp)
  | call (f : FuncId) (xs : List Operand)
  | callv (x : Operand) (xs : List Operand)
structure RO where
  dst : Option Nat
  op : SOp
  guard : Option (Nat × Bool) := none
/-- An operation of a region that draws: the operations that come ahead of it in every order; whether it may turn what is there. -/
structure DO extends RO where
  before : List Nat := []
  eff : Bool := false
inductive RCode where
  | skip
  | region (ops : List RO)
  | draw (ops : List DO)
  | seq (a b : RCode)
  | cond (c : Operand) (a b : RCode)
  | block (id : Nat) (b : RCode)
  | loop (b : RCode)
  | exit (id : Nat)
  | ret
  | label (l : Nat)
  | goto (l : Nat)
  /-- A body with one label; what stands behind the label. -/
  | scope (l : Nat) (b rest : RCode)
inductive Ex where
  | normal
  | exit (id : Nat)
  | ret
  | goto (l : Nat)
abbrev CallSem := FuncId → List Value → Heap → Option (Value × Heap)
def upd (ρ : Fr) (d : Nat) (v : Value) : Fr := fun t => if t = d then v else ρ t
def put (ρ : Fr) (d : Option Nat) (v : Value) : Fr := match d with | some d => upd ρ d v | none => ρ
/-- A call of a function's value. -/
def callVal (C : CallSem) (v : Value) (args : List Value) (H : Heap) : Option (Value × Heap) := match v with
  | .func (.func f) ⟨[]⟩ ⟨caps⟩ => C f (args ++ caps) H
  | _ => none
def stepC (C : CallSem) (ρ : Fr) (H : Heap) : SOp → Option (Value × Heap)
  | .call f xs => C f (xs.map (ev ρ)) H
  | .callv x xs => callVal C (ev ρ x) (xs.map (ev ρ)) H
  | .plain op => stepOp ρ H op
def guardOn (ρ : Fr) : Option (Nat × Bool) → Bool
  | none => true
  | some (g, b) => match ρ g with | .bool c => c == b | _ => false
def runOps (C : CallSem) : List RO → Fr → Heap → Option (Fr × Heap)
  | [], ρ, H => some (ρ, H)
  | o :: l, ρ, H => if guardOn ρ o.guard = true then (stepC C ρ H o.op).bind fun r => runOps C l (put ρ o.dst r.1) r.2 else runOps C l (put ρ o.dst undef) H
/-- Does an operation neither read nor write memory? -/
def isPureR : ROp → Bool
  | .mv _ | .pick _ _ _ | .build _ _ | .nilCheck _ | .arith _ _ _ | .same _ _ _ _ | .un _ _ | .conv _ _ | .fieldA _ _ | .part _ _ _ _ | .idxS _ _ _ | .idxA _ _ _ _ | .idxV _ _ _ _ _ | .len _ _ | .alen _ | .mnmx _ _ | .extract _ _ | .mkIface _ _ | .sliceS _ _ _ _ | .sameI _ _ _ | .tassert _ _ _ | .mkfn _ _ => true
  | _ => false
def isPure : SOp → Bool
  | .plain r => isPureR r
  | .call _ _ => false
  | .callv _ _ => false
/-- The block that a load reads. -/
def loadAt (ρ : Fr) : SOp → Option Nat
  | .plain (.load x) | .plain (.loadn _ x) => match ev ρ x with | .pointer (some ⟨i, _, none⟩) => some i | _ => none
  | _ => none
def isLoad : SOp → Bool
  | .plain (.load _) | .plain (.loadn _ _) => true
  | _ => false
/-- A region that draws, on its way in the text's order. -/
structure DS where
  ρ : Fr
  news : List (Nat × Option Blk) := []
  chain : List (Nat × Heap) := []
  loads : List (Nat × Nat) := []
  quiets : List Nat := []
def maskOf (H0 : Heap) (news : List (Nat × Option Blk)) (b : List Nat) : Heap := H0 ++ news.map fun p => if p.1 ∈ b then p.2 else none
def fullOf (H0 : Heap) (news : List (Nat × Option Blk)) : Heap := H0 ++ news.map fun p => p.2
/-- The heap as it is now. -/
def DS.now (H0 : Heap) (st : DS) : Heap := match st.chain with | [] => fullOf H0 st.news | (_, H) :: _ => H
open Classical in
noncomputable def quietOf (M H : Heap) : Option Heap := if H.take M.length = M then some (H.drop M.length) else none
open Classical in
noncomputable def stepD (C : CallSem) (H0 : Heap) (j : Nat) (d : DO) (st : DS) : Option DS :=
  if guardOn st.ρ d.guard = true then
    if isPure d.op = true then (stepC C st.ρ (st.now H0) d.op).map fun r => { st with ρ := put st.ρ d.dst r.1 }
    else if isLoad d.op = true then
      (loadAt st.ρ d.op).bind fun i =>
        if (st.chain.map (·.1)).all (fun e => d.before.contains e) = true ∧ (st.chain = [] → live (maskOf H0 st.news d.before) i = live (st.now H0) i) ∨
            live (maskOf H0 st.news d.before) i = live (st.now H0) i ∧ (∀ p ∈ st.chain, live p.2 i = live (st.now H0) i) then
          (stepC C st.ρ (st.now H0) d.op).map fun r => { st with ρ := put st.ρ d.dst r.1, loads := (j, i) :: st.loads }
        else none
    else
      if d.eff = true then
        (stepC C st.ρ (st.now H0) d.op).bind fun r =>
          if (st.quiets.all (fun q => d.before.contains q) && (st.chain.map (·.1)).all (fun q => d.before.contains q)) = true ∧ ∀ p ∈ st.loads, p.1 ∈ d.before ∨ live (st.now H0) p.2 = live r.2 p.2 then
            some { st with ρ := put st.ρ d.dst r.1, chain := (j, r.2) :: st.chain }
          else none
      else if st.chain = [] then
        (stepC C st.ρ (maskOf H0 st.news d.before) d.op).bind fun q => (quietOf (maskOf H0 st.news d.before) q.2).map fun X => { st with ρ := put st.ρ d.dst q.1, news := st.news ++ X.map (fun b => (j, b)), quiets := j :: st.quiets }
      else none
  else some { st with ρ := put st.ρ d.dst undef }
noncomputable def runD (C : CallSem) (H0 : Heap) : Nat → List DO → DS → Option DS
  | _, [], st => some st
  | j, d :: l, st => (stepD C H0 j d st).bind (runD C H0 (j + 1) l)
def iterC (f : Fr → Heap → Option (Ex × Fr × Heap)) : Nat → Fr → Heap → Option (Ex × Fr × Heap)
  | 0, _, _ => none
  | n + 1, ρ, H => match f ρ H with | some (.normal, ρ', H') => iterC f n ρ' H' | r => r
def jmp (l : Nat) (k : Fr → Heap → Option (Ex × Fr × Heap)) (r : Option (Ex × Fr × Heap)) : Option (Ex × Fr × Heap) := match r with | some (.goto j, ρ, H) => if j = l then k ρ H else none | r => r
def iterJ (l : Nat) (f : Fr → Heap → Option (Ex × Fr × Heap)) : Nat → Fr → Heap → Option (Ex × Fr × Heap)
  | 0, _, _ => none
  | n + 1, ρ, H => jmp l (iterJ l f n) (f ρ H)
/-- What stands behind a label of the body's own row. -/
def findR : RCode → Nat → Option RCode
  | .seq a b, l => match findR a l with | some rest => some (.seq rest b) | none => findR b l
  | .label l', l => if l' == l then some .skip else none
  | _, _ => none
def labelOf : RCode → Option Nat
  | .seq a b => match labelOf a with | some l => some l | none => labelOf b
  | .label l => some l
  | _ => none
noncomputable def evalC (C : CallSem) (n : Nat) : RCode → Fr → Heap → Option (Ex × Fr × Heap)
  | .skip, ρ, H => some (.normal, ρ, H)
  | .region ops, ρ, H => (runOps C ops ρ H).map fun s => (.normal, s.1, s.2)
  | .draw ops, ρ, H => (runD C H 0 ops { ρ := ρ }).map fun st => (.normal, st.ρ, st.now H)
  | .seq a b, ρ, H => match evalC C n a ρ H with | some (.normal, ρ', H') => evalC C n b ρ' H' | r => r
  | .cond c a b, ρ, H => match ev ρ c with | .bool t => if t = true then evalC C n a ρ H else evalC C n b ρ H | _ => none
  | .block id b, ρ, H => match evalC C n b ρ H with | some (.exit j, ρ', H') => if j = id then some (.normal, ρ', H') else some (.exit j, ρ', H') | r => r
  | .loop b, ρ, H => iterC (evalC C n b) n ρ H
  | .exit id, ρ, H => some (.exit id, ρ, H)
  | .ret, ρ, H => some (.ret, ρ, H)
  | .label _, ρ, H => some (.normal, ρ, H)
  | .goto l, ρ, H => some (.goto l, ρ, H)
  | .scope l b rest, ρ, H => jmp l (iterJ l (evalC C n rest) n) (evalC C n b ρ H)
/-- A result: a slot, or the cells that a slot points to. -/
inductive RRes where
  | tmp (t : Nat)
  | cell (t : Nat)
  | cells (t n : Nat)
structure RFunc where
  ntmps : Nat
  res : List RRes
  body : RCode
def resV (ρ : Fr) (H : Heap) : RRes → Option Value
  | .tmp t => some (ρ t)
  | .cell t => loadV H (ρ t)
  | .cells t n => loadnV H n (ρ t)
def resVs (ρ : Fr) (H : Heap) : List RRes → Option (List Value)
  | [] => some []
  | r :: l => (resV ρ H r).bind fun v => (resVs ρ H l).map fun vs => v :: vs
def tup : List Value → Value
  | [v] => v
  | l => .tuple ⟨l⟩
def frame0 (args : List Value) : Fr := fun t => args.getD t undef
/-- A function that is known by a contract: a bank's Tick. Each entry's third number goes up by one, to a thousand. -/
def tickF : Option Nat := some 16
def ageOk : Value → Bool
  | .agg ⟨[.int _ _, .int _ _, .int .i64 _]⟩ => true
  | _ => false
def ageW : Value → Value
  | .agg ⟨[.int a v, .int b s, .int .i64 n]⟩ => .agg ⟨[.int a v, .int b s, .int .i64 (if 1000 < IntKind.i64.wrap (n + 1) then 1000 else IntKind.i64.wrap (n + 1))]⟩
  | v => v
def ageM (l : List (Int × Value)) : List (Int × Value) := l.map fun p => (p.1, ageW p.2)
def tickB (H : Heap) : Option Blk → Option (Value × Heap)
  | some ⟨_, _, [_, .map (some m)]⟩ => (mlive H m).bind fun p => if p.1 = .i64 ∧ p.2.1.all (fun x => ageOk x.2) = true then some (.tuple ⟨[]⟩, H.set m (some (mapB .i64 (ageM p.2.1) p.2.2)) ++ List.replicate (p.2.1.length + 1) none) else none
  | _ => none
def tickV (H : Heap) : List Value → Option (Value × Heap)
  | [.pointer (some ⟨i, 0, none⟩)] => tickB H (live H i)
  | _ => none
def extSem : CallSem := fun f args H => if tickF = some f then tickV H args else none
noncomputable def callN (prog : Nat → Option RFunc) : Nat → CallSem
  | 0, _, _, _ => none
  | n + 1, f, args, H => if (prog f).isNone = true then extSem f args H else (prog f).bind fun rf =>
    if args.length ≤ rf.ntmps then
      (evalC (callN prog n) n rf.body (frame0 args) H).bind fun r =>
        match r.1 with
        | .exit _ => none
        | .goto _ => none
        | _ => (resVs r.2.1 r.2.2 rf.res).map fun vs => (tup vs, r.2.2)
    else none
end Go.Proofs.Ytoknmodbdlfdmaa.Sim
