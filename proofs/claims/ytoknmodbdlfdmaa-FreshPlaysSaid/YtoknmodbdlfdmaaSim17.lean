/- How a run over the plain heap is reckoned: one equation for each step. -/
import Derived.Test.YtoknmodbdlfdmaaSim16
namespace Go.Proofs.Ytoknmodbdlfdmaa.Sim
open Go Go.RowKit
set_option linter.unusedVariables false
set_option linter.unusedSimpArgs false
variable {P : Program} {hs : Nat → Hints} {C : CallSem}
def andThen (r : Option (Ex × Fr × Heap)) (k : Fr → Heap → Option (Ex × Fr × Heap)) : Option (Ex × Fr × Heap) := match r with | some (.normal, ρ, H) => k ρ H | r => r
theorem andThen_n (ρ : Fr) (H : Heap) (k : Fr → Heap → Option (Ex × Fr × Heap)) : andThen (some (.normal, ρ, H)) k = k ρ H := (rfl)
theorem andThen_x (j : Nat) (ρ : Fr) (H : Heap) (k : Fr → Heap → Option (Ex × Fr × Heap)) : andThen (some (.exit j, ρ, H)) k = some (.exit j, ρ, H) := (rfl)
theorem andThen_r (ρ : Fr) (H : Heap) (k : Fr → Heap → Option (Ex × Fr × Heap)) : andThen (some (.ret, ρ, H)) k = some (.ret, ρ, H) := (rfl)
theorem andThen_ite (c : Prop) [Decidable c] (a b : Option (Ex × Fr × Heap)) (k : Fr → Heap → Option (Ex × Fr × Heap)) : andThen (if c then a else b) k = if c then andThen a k else andThen b k := by split <;> rfl
theorem Es (a b : RCode) (ρ : Fr) (H : Heap) : E P hs (.seq a b) ρ H = andThen (E P hs a ρ H) (E P hs b) := E_seq a b ρ H
theorem andThen_g (j : Nat) (ρ : Fr) (H : Heap) (k : Fr → Heap → Option (Ex × Fr × Heap)) : andThen (some (.goto j, ρ, H)) k = some (.goto j, ρ, H) := (rfl)
theorem Eg (l : Nat) (b rest : RCode) (ρ : Fr) (H : Heap) : E P hs (.scope l b rest) ρ H = jmp l (E P hs (.scope l rest rest)) (E P hs b ρ H) := E_scope l b rest ρ H
theorem jmp_n (l : Nat) (k : Fr → Heap → Option (Ex × Fr × Heap)) (ρ : Fr) (H : Heap) : jmp l k (some (.normal, ρ, H)) = some (.normal, ρ, H) := (rfl)
theorem jmp_x (l j : Nat) (k : Fr → Heap → Option (Ex × Fr × Heap)) (ρ : Fr) (H : Heap) : jmp l k (some (.exit j, ρ, H)) = some (.exit j, ρ, H) := (rfl)
theorem jmp_r (l : Nat) (k : Fr → Heap → Option (Ex × Fr × Heap)) (ρ : Fr) (H : Heap) : jmp l k (some (.ret, ρ, H)) = some (.ret, ρ, H) := (rfl)
theorem jmp_g (l : Nat) (k : Fr → Heap → Option (Ex × Fr × Heap)) (ρ : Fr) (H : Heap) : jmp l k (some (.goto l, ρ, H)) = k ρ H := if_pos rfl
theorem jmp_ite (l : Nat) (k : Fr → Heap → Option (Ex × Fr × Heap)) (c : Prop) [Decidable c] (a b : Option (Ex × Fr × Heap)) : jmp l k (if c then a else b) = if c then jmp l k a else jmp l k b := by split <;> rfl
def condB (v : Value) (f g : Fr → Heap → Option (Ex × Fr × Heap)) (ρ : Fr) (H : Heap) : Option (Ex × Fr × Heap) := match v with | .bool t => if t = true then f ρ H else g ρ H | _ => none
theorem Ec (c : Operand) (a b : RCode) (ρ : Fr) (H : Heap) : E P hs (.cond c a b) ρ H = condB (ev ρ c) (E P hs a) (E P hs b) ρ H := E_cond c a b ρ H
theorem condB_t (f g : Fr → Heap → Option (Ex × Fr × Heap)) (ρ : Fr) (H : Heap) : condB (.bool true) f g ρ H = f ρ H := (rfl)
theorem condB_f (f g : Fr → Heap → Option (Ex × Fr × Heap)) (ρ : Fr) (H : Heap) : condB (.bool false) f g ρ H = g ρ H := (rfl)
theorem condB_b (b : Bool) (f g : Fr → Heap → Option (Ex × Fr × Heap)) (ρ : Fr) (H : Heap) : condB (.bool b) f g ρ H = if b = true then f ρ H else g ρ H := (rfl)
def blk (id : Nat) (r : Option (Ex × Fr × Heap)) : Option (Ex × Fr × Heap) := match r with | some (.exit j, ρ', H') => if j = id then some (.normal, ρ', H') else some (.exit j, ρ', H') | r => r
theorem Eb (id : Nat) (b : RCode) (ρ : Fr) (H : Heap) : E P hs (.block id b) ρ H = blk id (E P hs b ρ H) := E_block id b ρ H
theorem blk_n (id : Nat) (ρ : Fr) (H : Heap) : blk id (some (.normal, ρ, H)) = some (.normal, ρ, H) := (rfl)
theorem blk_r (id : Nat) (ρ : Fr) (H : Heap) : blk id (some (.ret, ρ, H)) = some (.ret, ρ, H) := (rfl)
theorem blk_g (id j : Nat) (ρ : Fr) (H : Heap) : blk id (some (.goto j, ρ, H)) = some (.goto j, ρ, H) := (rfl)
theorem blk_x (id j : Nat) (ρ : Fr) (H : Heap) : blk id (some (.exit j, ρ, H)) = if j = id then some (.normal, ρ, H) else some (.exit j, ρ, H) := (rfl)
theorem blk_ite (id : Nat) (c : Prop) [Decidable c] (a b : Option (Ex × Fr × Heap)) : blk id (if c then a else b) = if c then blk id a else blk id b := by split <;> rfl
/-- A loop, unrolled once. -/
theorem El (b : RCode) (ρ : Fr) (H : Heap) : E P hs (.loop b) ρ H = andThen (E P hs b ρ H) (E P hs (.loop b)) := E_loop b ρ H
def regDone (r : Option (Fr × Heap)) : Option (Ex × Fr × Heap) := r.map fun s => (.normal, s.1, s.2)
theorem regDone_s (ρ : Fr) (H : Heap) : regDone (some (ρ, H)) = some (.normal, ρ, H) := (rfl)
theorem Er (ops : List RO) (ρ : Fr) (H : Heap) : E P hs (.region ops) ρ H = regDone (runOps (D P hs) ops ρ H) := E_region ops ρ H
def opThen (r : Option (Value × Heap)) (k : Value → Heap → Option (Fr × Heap)) : Option (Fr × Heap) := r.bind fun p => k p.1 p.2
theorem opThen_s (v : Value) (H : Heap) (k : Value → Heap → Option (Fr × Heap)) : opThen (some (v, H)) k = k v H := (rfl)
def nextOps (C : CallSem) (l : List RO) (ρ : Fr) (d : Option Nat) (v : Value) (H : Heap) : Option (Fr × Heap) := runOps C l (put ρ d v) H
theorem nextOps_e (C : CallSem) (l : List RO) (ρ : Fr) (d : Option Nat) (v : Value) (H : Heap) : nextOps C l ρ d v H = runOps C l (put ρ d v) H := (rfl)
def gOp (g : Bool) (C : CallSem) (d : Option Nat) (op : SOp) (l : List RO) (ρ : Fr) (H : Heap) : Option (Fr × Heap) := match g with | true => opThen (stepC C ρ H op) (nextOps C l ρ d) | false => runOps C l (put ρ d undef) H
theorem gOp_t (C : CallSem) (d : Option Nat) (op : SOp) (l : List RO) (ρ : Fr) (H : Heap) : gOp true C d op l ρ H = opThen (stepC C ρ H op) (nextOps C l ρ d) := (rfl)
theorem gOp_f (C : CallSem) (d : Option Nat) (op : SOp) (l : List RO) (ρ : Fr) (H : Heap) : gOp false C d op l ρ H = runOps C l (put ρ d undef) H := (rfl)
theorem runOps_nil (C : CallSem) (ρ : Fr) (H : Heap) : runOps C [] ρ H = some (ρ, H) := (rfl)
theorem runOps_cons (C : CallSem) (d : Option Nat) (op : SOp) (g : Option (Nat × Bool)) (l : List RO) (ρ : Fr) (H : Heap) : runOps C (⟨d, op, g⟩ :: l) ρ H = gOp (guardOn ρ g) C d op l ρ H := by
  simp only [runOps]
  cases guardOn ρ g <;> rfl
theorem guardOn_n (ρ : Fr) : guardOn ρ none = true := (rfl)
def isB (v : Value) (b : Bool) : Bool := match v with | .bool c => c == b | _ => false
theorem isB_b (c b : Bool) : isB (.bool c) b = (c == b) := (rfl)
theorem isB_u (b : Bool) : isB undef b = false := (rfl)
theorem guardOn_s (ρ : Fr) (g : Nat) (b : Bool) : guardOn ρ (some (g, b)) = isB (ρ g) b := (rfl)
theorem put_s (ρ : Fr) (d : Nat) (v : Value) : put ρ (some d) v = upd ρ d v := (rfl)
theorem put_n (ρ : Fr) (v : Value) : put ρ none v = ρ := (rfl)
theorem upd_eq (ρ : Fr) (d : Nat) (v : Value) : upd ρ d v d = v := if_pos rfl
theorem upd_ne (ρ : Fr) (d t : Nat) (v : Value) (h : (t == d) = false) : upd ρ d v t = ρ t := if_neg (by simpa using h)
theorem frame0_e (args : List Value) (t : Nat) : frame0 args t = args.getD t undef := (rfl)
theorem ev_t (ρ : Fr) (t : Nat) : ev ρ (.tmp t) = ρ t := (rfl)
theorem ev_c (ρ : Fr) (v : Value) : ev ρ (.const v) = v := (rfl)
theorem ev_f (ρ : Fr) (f : Nat) : ev ρ (.func f) = .func (.func f) #[] #[] := (rfl)
theorem stepC_call (C : CallSem) (ρ : Fr) (H : Heap) (f : Nat) (xs : List Operand) : stepC C ρ H (.call f xs) = C f (xs.map (ev ρ)) H := (rfl)
theorem stepC_callv (C : CallSem) (ρ : Fr) (H : Heap) (x : Operand) (xs : List Operand) : stepC C ρ H (.callv x xs) = callVal C (ev ρ x) (xs.map (ev ρ)) H := (rfl)
theorem callVal_f (C : CallSem) (f : Nat) (caps args : List Value) (H : Heap) : callVal C (.func (.func f) ⟨[]⟩ ⟨caps⟩) args H = C f (args ++ caps) H := (rfl)
theorem stepC_plain (C : CallSem) (ρ : Fr) (H : Heap) (o : ROp) : stepC C ρ H (.plain o) = stepOp ρ H o := (rfl)
/- The heap. -/
theorem live_app (H X : Heap) (i : Nat) (h : i < H.length) : live (H ++ X) i = live H i := by simp [live, List.getElem?_append_left h]
theorem live_app_add (H X : Heap) (k : Nat) : live (H ++ X) (H.length + k) = live X k := by unfold live; rw [List.getElem?_append_right (by omega), show H.length + k - H.length = k by omega]
theorem live_app_len (H X : Heap) : live (H ++ X) H.length = live X 0 := live_app_add H X 0
theorem live_app_ge (G X : Heap) (k : Nat) (h : G.length ≤ k) : live (G ++ X) k = live X (k - G.length) := by unfold live; rw [List.getElem?_append_right h]
theorem set_app_ge (G X : Heap) (k : Nat) (x : Option Blk) (h : G.length ≤ k) : (G ++ X).set k x = G ++ X.set (k - G.length) x := List.set_append_right _ _ h
/-- A block of cells, or none. -/
class Cel (x : Option Blk) : Prop where
  out : (x.filter fun b => b.mp.it.isNone) = x
instance celN : Cel none := ⟨rfl⟩
instance celS (o : Bool) (t : TypeId) (l : List Value) : Cel (some ⟨o, t, l⟩) := ⟨rfl⟩
theorem live_cons_zero (x : Option Blk) (X : Heap) [h : Cel x] : live (x :: X) 0 = x := by simp [live, h.out]
theorem mlive_app (H X : Heap) (i : Nat) (h : i < H.length) : mlive (H ++ X) i = mlive H i := by simp [mlive, List.getElem?_append_left h]
theorem mlive_app_add (H X : Heap) (k : Nat) : mlive (H ++ X) (H.length + k) = mlive X k := by unfold mlive; rw [List.getElem?_append_right (by omega)]; rw [show H.length + k - H.length = k by omega]
theorem mlive_app_len (H X : Heap) : mlive (H ++ X) H.length = mlive X 0 := mlive_app_add H X 0
theorem mlive_app_ge (G X : Heap) (k : Nat) (h : G.length ≤ k) : mlive (G ++ X) k = mlive X (k - G.length) := by unfold mlive; rw [List.getElem?_append_right h]
theorem mlive_cons_zero (q : IntKind) (l : List (Int × Value)) (g : Gs) (X : Heap) : mlive (some (mapB q l g) :: X) 0 = some (q, l, g) := (rfl)
theorem mlive_cons_succ (x : Option Blk) (X : Heap) (k : Nat) : mlive (x :: X) (k + 1) = mlive X k := by simp [mlive]
theorem mlive_set_eq (H : Heap) (i : Nat) (q : IntKind) (l : List (Int × Value)) (g : Gs) (h : i < H.length) : mlive (H.set i (some (mapB q l g))) i = some (q, l, g) := by simp [mlive, h]; rfl
theorem mlive_set_ne (H : Heap) (i j : Nat) (x : Option Blk) (h : i ≠ j) : mlive (H.set i x) j = mlive H j := by simp [mlive, List.getElem?_set_ne h]
theorem mlive_lt {H : Heap} {i : Nat} {p : MRep} (h : mlive H i = some p) : i < H.length := by
  obtain ⟨b, h1, _⟩ := mlive_some h
  rcases Nat.lt_or_ge i H.length with g | g
  · exact g
  · rw [List.getElem?_eq_none g] at h1; cases h1
/-- A block of cells and a map's block are not one. -/
theorem live_ne_mlive {H : Heap} {i j : Nat} {b : Blk} {p : MRep} (h : live H i = some b) (g : mlive H j = some p) : j ≠ i := by
  rintro rfl
  obtain ⟨c, h1, h2⟩ := mlive_some g
  obtain ⟨h3, h4⟩ := live_iff.1 h
  rw [h1] at h3; cases h3
  rw [h2] at h4; cases h4
theorem live_cons_succ (x : Option Blk) (X : Heap) (k : Nat) : live (x :: X) (k + 1) = live X k := by simp [live]
theorem live_set_eq (H : Heap) (i : Nat) (x : Option Blk) (h : i < H.length) [hc : Cel x] : live (H.set i x) i = x := by simp [live, h, hc.out]
theorem live_set_ne (H : Heap) (i j : Nat) (x : Option Blk) (h : i ≠ j) : live (H.set i x) j = live H j := by simp [live, List.getElem?_set_ne h]
theorem set_app (H X : Heap) (i : Nat) (x : Option Blk) (h : i < H.length) : (H ++ X).set i x = H.set i x ++ X := List.set_append_left _ _ h
theorem set_app_add (H X : Heap) (k : Nat) (x : Option Blk) : (H ++ X).set (H.length + k) x = H ++ X.set k x := by rw [List.set_append_right _ _ (by omega)]; congr 2; omega
theorem set_app_len (H X : Heap) (x : Option Blk) : (H ++ X).set H.length x = H ++ X.set 0 x := by rw [List.set_append_right _ _ (Nat.le_refl _)]; simp
/- Regions that draw their order. -/
inductive Knd where
  | pure
  | load
  | other
def kndR : ROp → Knd
  | .load _ | .loadn _ _ => .load
  | .newv _ _ | .box _ _ | .bslice _ _ _ _ _ | .store _ _ _ | .append _ _ _ _ _ | .mkslice _ _ _ _ _ _ | .mkmap _ | .look _ _ _ _ | .mupd _ _ _ _ => .other
  | _ => .pure
def knd : SOp → Knd
  | .plain r => kndR r
  | .call _ _ => .other
  | .callv _ _ => .other
def nowOf (H0 : Heap) (news : List (Nat × Option Blk)) (chain : List (Nat × Heap)) : Heap := match chain with | [] => fullOf H0 news | (_, H) :: _ => H
def okLoad (H0 : Heap) (news : List (Nat × Option Blk)) (chain : List (Nat × Heap)) (b : List Nat) (i : Nat) : Prop :=
  (chain.map (·.1)).all (fun e => b.contains e) = true ∧ (chain = [] → live (maskOf H0 news b) i = live (nowOf H0 news chain) i) ∨
    live (maskOf H0 news b) i = live (nowOf H0 news chain) i ∧ (∀ p ∈ chain, live p.2 i = live (nowOf H0 news chain) i)
noncomputable def RD (C : CallSem) (H0 : Heap) (j : Nat) (l : List DO) (ρ : Fr) (news : List (Nat × Option Blk)) (chain : List (Nat × Heap)) (loads : List (Nat × Nat)) (quiets : List Nat) : Option (Fr × Heap) :=
  (runD C H0 j l ⟨ρ, news, chain, loads, quiets⟩).map fun st => (st.ρ, st.now H0)
theorem Ed (ops : List DO) (ρ : Fr) (H : Heap) : E P hs (.draw ops) ρ H = regDone (RD (D P hs) H 0 ops ρ [] [] [] []) := by
  rw [E_draw]
  unfold regDone RD
  rw [Option.map_map]
  rfl
theorem RD_nil (C : CallSem) (H0 : Heap) (j : Nat) (ρ : Fr) (news : List (Nat × Option Blk)) (chain : List (Nat × Heap)) (loads : List (Nat × Nat)) (quiets : List Nat) : RD C H0 j [] ρ news chain loads quiets = some (ρ, nowOf H0 news chain) := (rfl)
noncomputable def nextPure (C : CallSem) (H0 : Heap) (j : Nat) (l : List DO) (d : Option Nat) (ρ : Fr) (news : List (Nat × Option Blk)) (chain : List (Nat × Heap)) (loads : List (Nat × Nat)) (quiets : List Nat) (v : Value) (H : Heap) : Option (Fr × Heap) :=
  RD C H0 (j + 1) l (put ρ d v) news chain loads quiets
theorem nextPure_e (C : CallSem) (H0 : Heap) (j : Nat) (l : List DO) (d : Option Nat) (ρ : Fr) (news : List (Nat × Option Blk)) (chain : List (Nat × Heap)) (loads : List (Nat × Nat)) (quiets : List Nat) (v : Value) (H : Heap) :
  nextPure C H0 j l d ρ news chain loads quiets v H = RD C H0 (j + 1) l (put ρ d v) news chain loads quiets := (rfl)
open Classical in
noncomputable def loadThen (ok : Nat → Prop) (i : Option Nat) (r : Option (Value × Heap)) (k : Nat → Value → Option (Fr × Heap)) : Option (Fr × Heap) := i.bind fun i => if ok i then r.bind fun p => k i p.1 else none
noncomputable def nextLoad (C : CallSem) (H0 : Heap) (j : Nat) (l : List DO) (d : Option Nat) (ρ : Fr) (news : List (Nat × Option Blk)) (chain : List (Nat × Heap)) (loads : List (Nat × Nat)) (quiets : List Nat) (i : Nat) (v : Value) : Option (Fr × Heap) :=
  RD C H0 (j + 1) l (put ρ d v) news chain ((j, i) :: loads) quiets
theorem nextLoad_e (C : CallSem) (H0 : Heap) (j : Nat) (l : List DO) (d : Option Nat) (ρ : Fr) (news : List (Nat × Option Blk)) (chain : List (Nat × Heap)) (loads : List (Nat × Nat)) (quiets : List Nat) (i : Nat) (v : Value) :
  nextLoad C H0 j l d ρ news chain loads quiets i v = RD C H0 (j + 1) l (put ρ d v) news chain ((j, i) :: loads) quiets := (rfl)
theorem loadThen_s (ok : Nat → Prop) (i : Nat) (v : Value) (H : Heap) (k : Nat → Value → Option (Fr × Heap)) (h : ok i) : loadThen ok (some i) (some (v, H)) k = k i v := by
  simp only [loadThen, Option.bind_some]; rw [if_pos h]
noncomputable def quietThen (C : CallSem) (H0 : Heap) (j : Nat) (l : List DO) (d : Option Nat) (M : Heap) (ρ : Fr) (news : List (Nat × Option Blk)) (loads : List (Nat × Nat)) (quiets : List Nat) (r : Option (Value × Heap)) : Option (Fr × Heap) :=
  r.bind fun q => (quietOf M q.2).bind fun X => RD C H0 (j + 1) l (put ρ d q.1) (news ++ X.map (fun b => (j, b))) [] loads (j :: quiets)
def okChain (H0 : Heap) (news : List (Nat × Option Blk)) (chain : List (Nat × Heap)) (loads : List (Nat × Nat)) (quiets : List Nat) (b : List Nat) (G : Heap) : Prop :=
  (quiets.all (fun q => b.contains q) && (chain.map (·.1)).all (fun q => b.contains q)) = true ∧ ∀ p ∈ loads, p.1 ∈ b ∨ live (nowOf H0 news chain) p.2 = live G p.2
open Classical in
noncomputable def chainThen (C : CallSem) (H0 : Heap) (j : Nat) (l : List DO) (d : Option Nat) (b : List Nat) (ρ : Fr) (news : List (Nat × Option Blk)) (chain : List (Nat × Heap)) (loads : List (Nat × Nat)) (quiets : List Nat) (r : Option (Value × Heap)) : Option (Fr × Heap) :=
  r.bind fun r => if okChain H0 news chain loads quiets b r.2 then RD C H0 (j + 1) l (put ρ d r.1) news ((j, r.2) :: chain) loads quiets else none
noncomputable def otherThen (e : Bool) (C : CallSem) (H0 : Heap) (j : Nat) (l : List DO) (d : Option Nat) (op : SOp) (b : List Nat) (ρ : Fr) (news : List (Nat × Option Blk)) (chain : List (Nat × Heap)) (loads : List (Nat × Nat)) (quiets : List Nat) : Option (Fr × Heap) :=
  match e, chain with
  | true, _ => chainThen C H0 j l d b ρ news chain loads quiets (stepC C ρ (nowOf H0 news chain) op)
  | false, [] => quietThen C H0 j l d (maskOf H0 news b) ρ news loads quiets (stepC C ρ (maskOf H0 news b) op)
  | false, _ => none
noncomputable def gD (g : Bool) (k : Knd) (C : CallSem) (H0 : Heap) (j : Nat) (l : List DO) (d : Option Nat) (op : SOp) (b : List Nat) (e : Bool) (ρ : Fr) (news : List (Nat × Option Blk)) (chain : List (Nat × Heap)) (loads : List (Nat × Nat)) (quiets : List Nat) : Option (Fr × Heap) :=
  match g, k with
  | false, _ => RD C H0 (j + 1) l (put ρ d undef) news chain loads quiets
  | true, .pure => opThen (stepC C ρ (nowOf H0 news chain) op) (nextPure C H0 j l d ρ news chain loads quiets)
  | true, .load => loadThen (okLoad H0 news chain b) (loadAt ρ op) (stepC C ρ (nowOf H0 news chain) op) (nextLoad C H0 j l d ρ news chain loads quiets)
  | true, .other => otherThen e C H0 j l d op b ρ news chain loads quiets
section
variable (C : CallSem) (H0 : Heap) (j : Nat) (l : List DO) (d : Option Nat) (op : SOp) (b : List Nat) (e : Bool) (ρ : Fr) (news : List (Nat × Option Blk)) (chain : List (Nat × Heap)) (loads : List (Nat × Nat)) (quiets : List Nat)
theorem gD_f (k : Knd) : gD false k C H0 j l d op b e ρ news chain loads quiets = RD C H0 (j + 1) l (put ρ d undef) news chain loads quiets := (rfl)
theorem gD_p : gD true .pure C H0 j l d op b e ρ news chain loads quiets = opThen (stepC C ρ (nowOf H0 news chain) op) (nextPure C H0 j l d ρ news chain loads quiets) := (rfl)
theorem gD_l : gD true .load C H0 j l d op b e ρ news chain loads quiets = loadThen (okLoad H0 news chain b) (loadAt ρ op) (stepC C ρ (nowOf H0 news chain) op) (nextLoad C H0 j l d ρ news chain loads quiets) := (rfl)
theorem gD_o : gD true .other C H0 j l d op b e ρ news chain loads quiets = otherThen e C H0 j l d op b ρ news chain loads quiets := (rfl)
theorem other_t : otherThen true C H0 j l d op b ρ news chain loads quiets = chainThen C H0 j l d b ρ news chain loads quiets (stepC C ρ (nowOf H0 news chain) op) := (rfl)
theorem other_f : otherThen false C H0 j l d op b ρ news [] loads quiets = quietThen C H0 j l d (maskOf H0 news b) ρ news loads quiets (stepC C ρ (maskOf H0 news b) op) := (rfl)
theorem RD_cons (g : Option (Nat × Bool)) : RD C H0 j (⟨⟨d, op, g⟩, b, e⟩ :: l) ρ news chain loads quiets = gD (guardOn ρ g) (knd op) C H0 j l d op b e ρ news chain loads quiets := by
  have hn : DS.now H0 ⟨ρ, news, chain, loads, quiets⟩ = nowOf H0 news chain := (rfl)
  unfold RD
  simp only [runD]
  unfold stepD
  rw [hn]
  simp only
  cases guardOn ρ g with
  | false => rfl
  | true =>
    simp only [if_true]
    cases hk : knd op with
    | pure =>
      have hp : isPure op = true := by
        cases op with
        | call f xs => cases hk
        | callv x xs => cases hk
        | plain r => cases r <;> first | rfl | cases hk
      rw [if_pos hp, gD_p]
      cases stepC C ρ (nowOf H0 news chain) op with
      | none => rfl
      | some p => rfl
    | load =>
      have hp : isPure op = false := by
        cases op with
        | call f xs => cases hk
        | callv x xs => cases hk
        | plain r => cases r <;> first | rfl | cases hk
      have hl : isLoad op = true := by
        cases op with
        | call f xs => cases hk
        | callv x xs => cases hk
        | plain r => cases r <;> first | rfl | cases hk
      rw [hp, if_neg (by simp), if_pos hl, gD_l]
      unfold loadThen okLoad
      cases loadAt ρ op with
      | none => rfl
      | some i =>
        simp only [Option.bind_some]
        split
        · cases stepC C ρ (nowOf H0 news chain) op with
          | none => rfl
          | some p => rfl
        · rfl
    | other =>
      have hp : isPure op = false := by
        cases op with
        | call f xs => rfl
        | callv x xs => rfl
        | plain r => cases r <;> first | rfl | cases hk
      have hl : isLoad op = false := by
        cases op with
        | call f xs => rfl
        | callv x xs => rfl
        | plain r => cases r <;> first | rfl | cases hk
      rw [hp, hl, if_neg (by simp), if_neg (by simp), gD_o]
      cases e with
      | true =>
        simp only [if_true]
        rw [other_t]
        unfold chainThen okChain
        cases stepC C ρ (nowOf H0 news chain) op with
        | none => rfl
        | some p =>
          simp only [Option.bind_some]
          split <;> rfl
      | false =>
        simp only [Bool.false_eq_true, if_false]
        cases chain with
        | nil =>
          simp only [if_true]
          rw [other_f]
          unfold quietThen
          cases stepC C ρ (maskOf H0 news b) op with
          | none => rfl
          | some q =>
            simp only [Option.bind_some]
            cases quietOf (maskOf H0 news b) q.2 with
            | none => rfl
            | some X => rfl
        | cons c cs => simp only [reduceCtorEq, if_false]; rfl
theorem maskOf_nil : maskOf H0 [] b = H0 := by simp [maskOf]
theorem fullOf_nil : fullOf H0 [] = H0 := by simp [fullOf]
theorem nowOf_n : nowOf H0 news [] = fullOf H0 news := (rfl)
theorem nowOf_c (e : Nat) (H : Heap) (c : List (Nat × Heap)) : nowOf H0 news ((e, H) :: c) = H := (rfl)
theorem okLoad_nil (i : Nat) : okLoad H0 [] [] b i := .inl ⟨rfl, fun _ => by rw [nowOf_n, maskOf_nil, fullOf_nil]⟩
/-- A load ahead of the chain: of a block that was there at the region's start. -/
theorem okLoad_old (i : Nat) (h : i < H0.length) : okLoad H0 news [] b i := .inl ⟨rfl, fun _ => by rw [nowOf_n, maskOf, fullOf, live_app _ _ _ h, live_app _ _ _ h]⟩
/-- A load behind all of the chain. -/
theorem okLoad_after (i e : Nat) (H : Heap) (c : List (Nat × Heap)) (h : (((e, H) :: c).map (·.1)).all (fun e => b.contains e) = true) : okLoad H0 news ((e, H) :: c) b i := .inl ⟨h, fun h => by cases h⟩
/-- A load beside one operation of the chain that leaves the block alone. -/
theorem okLoad_one (i e : Nat) (H : Heap) (h : i < H0.length) (hl : live H i = live H0 i) : okLoad H0 news [(e, H)] b i := .inr ⟨by rw [nowOf_c, hl, maskOf, live_app _ _ _ h], fun p hp => by simp only [List.mem_singleton] at hp; subst hp; rfl⟩
theorem quietOf_app (M X : Heap) : quietOf M (M ++ X) = some X := by
  unfold quietOf
  rw [if_pos (by simp)]
  simp
theorem quietOf_self (M : Heap) : quietOf M M = some [] := by have := quietOf_app M []; simpa using this
/-- A call, or a new block, that leaves alone what was there. -/
noncomputable def qNext (C : CallSem) (H0 : Heap) (j : Nat) (l : List DO) (d : Option Nat) (ρ : Fr) (news : List (Nat × Option Blk)) (loads : List (Nat × Nat)) (quiets : List Nat) (v : Value) (o : Option Heap) : Option (Fr × Heap) :=
  o.bind fun X => RD C H0 (j + 1) l (put ρ d v) (news ++ X.map (fun b => (j, b))) [] loads (j :: quiets)
theorem quietThen_e (M G : Heap) (v : Value) : quietThen C H0 j l d M ρ news loads quiets (some (v, G)) = qNext C H0 j l d ρ news loads quiets v (quietOf M G) := (rfl)
theorem qNext_s (v : Value) (X : Heap) : qNext C H0 j l d ρ news loads quiets v (some X) = RD C H0 (j + 1) l (put ρ d v) (news ++ X.map (fun b => (j, b))) [] loads (j :: quiets) := (rfl)
theorem quietOf_cons (x : Option Blk) (A B : Heap) : quietOf (x :: A) (x :: B) = quietOf A B := by
  unfold quietOf
  by_cases h : B.take A.length = A
  · rw [if_pos h, if_pos (by simp [h])]; simp
  · rw [if_neg h, if_neg (by simp [h])]
theorem quietOf_two (M A B : Heap) : quietOf (M ++ A) (M ++ B) = quietOf A B := by
  induction M with
  | nil => rfl
  | cons x M ih => rw [List.cons_append, List.cons_append, quietOf_cons, ih]
theorem quietOf_nil (B : Heap) : quietOf [] B = some B := by have := quietOf_app [] B; simpa using this
/-- One that may turn something: it comes behind all that was new, and what was read beside it stays. -/
theorem chainThen_s (v : Value) (G : Heap) (h : okChain H0 news chain loads quiets b G) : chainThen C H0 j l d b ρ news chain loads quiets (some (v, G)) = RD C H0 (j + 1) l (put ρ d v) news ((j, G) :: chain) loads quiets := by
  simp only [chainThen, Option.bind_some]; rw [if_pos h]
def okLoads (loads : List (Nat × Nat)) (b : List Nat) (A B : Heap) : Prop := ∀ p ∈ loads, p.1 ∈ b ∨ live A p.2 = live B p.2
theorem okChain_i (G : Heap) (h1 : (quiets.all (fun q => b.contains q) && (chain.map (·.1)).all (fun q => b.contains q)) = true) (h2 : okLoads loads b (nowOf H0 news chain) G) : okChain H0 news chain loads quiets b G := ⟨h1, h2⟩
theorem okLoads_nil (A B : Heap) : okLoads [] b A B := fun p hp => by simp at hp
theorem okLoads_in (A B : Heap) (e i : Nat) (r : List (Nat × Nat)) (h : b.contains e = true) (hr : okLoads r b A B) : okLoads ((e, i) :: r) b A B := fun p hp => by
  rcases List.mem_cons.1 hp with rfl | hp
  · exact .inl (by simpa using h)
  · exact hr p hp
theorem okLoads_eq (A B : Heap) (e i : Nat) (r : List (Nat × Nat)) (h : live A i = live B i) (hr : okLoads r b A B) : okLoads ((e, i) :: r) b A B := fun p hp => by
  rcases List.mem_cons.1 hp with rfl | hp
  · exact .inr h
  · exact hr p hp
theorem mask_len : (maskOf H0 news b).length = H0.length + news.length := by simp [maskOf]
theorem full_len : (fullOf H0 news).length = H0.length + news.length := by simp [fullOf]
theorem live_mask (i : Nat) (h : i < H0.length) : live (maskOf H0 news b) i = live H0 i := live_app _ _ _ h
theorem live_full (i : Nat) (h : i < H0.length) : live (fullOf H0 news) i = live H0 i := live_app _ _ _ h
theorem fullOf_cons (n : Nat) (x : Option Blk) (r : List (Nat × Option Blk)) : fullOf H0 ((n, x) :: r) = fullOf (H0 ++ [x]) r := by simp [fullOf]
end
/- The operations, one equation each. -/
section
variable (ρ : Fr) (H : Heap)
theorem s_mv (x : Operand) : stepOp ρ H (.mv x) = some (ev ρ x, H) := (rfl)
def pickV (c a b : Value) (H : Heap) : Option (Value × Heap) := match c with | .bool t => some (if t = true then a else b, H) | _ => none
theorem s_pick (c a b : Operand) : stepOp ρ H (.pick c a b) = pickV (ev ρ c) (ev ρ a) (ev ρ b) H := (rfl)
theorem pickV_t (a b : Value) : pickV (.bool true) a b H = some (a, H) := (rfl)
theorem pickV_f (a b : Value) : pickV (.bool false) a b H = some (b, H) := (rfl)
theorem pickV_and (t u : Bool) : pickV (.bool t) (.bool u) (.bool false) H = some (.bool (t && u), H) := by cases t <;> rfl
theorem pickV_or (t u : Bool) : pickV (.bool t) (.bool true) (.bool u) H = some (.bool (t || u), H) := by cases t <;> rfl
/-- 'a && b' where a is false: b has not been asked. -/
theorem pickV_no (b : Bool) : pickV (.bool false) undef (.bool b) H = some (.bool b, H) := (rfl)
theorem s_new (ty : TypeId) (z : List Value) : stepOp ρ H (.newv ty z) = some (.pointer (some ⟨H.length, 0, none⟩), H ++ [some ⟨true, ty, z⟩]) := (rfl)
theorem s_box (ty : TypeId) (x : Operand) : stepOp ρ H (.box ty x) = some (.pointer (some ⟨H.length, 0, none⟩), H ++ [some ⟨true, ty, (ev ρ x).cells.toList⟩]) := (rfl)
def okV (o : Option Value) (H : Heap) : Option (Value × Heap) := o.map fun v => (v, H)
theorem okV_s (v : Value) : okV (some v) H = some (v, H) := (rfl)
theorem s_build (z : List Value) (ps : List (Nat × Nat × Operand)) : stepOp ρ H (.build z ps) = okV ((fillL z (ps.map fun p => (p.1, p.2.1, ev ρ p.2.2))).map fun l => .agg ⟨l⟩) H := by simp only [stepOp, okV, Option.map_map]; rfl
theorem s_bslice (ty : TypeId) (e n : Nat) (z : List Value) (ps : List (Nat × Nat × Operand)) : stepOp ρ H (.bslice ty e n z ps) = (fillL z (ps.map fun p => (p.1, p.2.1, ev ρ p.2.2))).map fun l => (.slice (some ⟨H.length, 0, none⟩) n e, H ++ [some ⟨true, ty, l⟩]) := (rfl)
theorem s_load (x : Operand) : stepOp ρ H (.load x) = okV (loadV H (ev ρ x)) H := (rfl)
theorem s_loadn (n : Nat) (x : Operand) : stepOp ρ H (.loadn n x) = okV (loadnV H n (ev ρ x)) H := (rfl)
def okH (o : Option Heap) : Option (Value × Heap) := o.map fun H => (undef, H)
theorem okH_s : okH (some H) = some (undef, H) := (rfl)
theorem s_store (n : Nat) (p x : Operand) : stepOp ρ H (.store n p x) = okH (storeV H n (ev ρ p) (ev ρ x)) := (rfl)
theorem s_nil (x : Operand) : stepOp ρ H (.nilCheck x) = okV (notNil (ev ρ x)) H := (rfl)
theorem s_arith (op : BinOp) (x y : Operand) : stepOp ρ H (.arith op x y) = okV (arithV op (ev ρ x) (ev ρ y)) H := (rfl)
theorem s_same (neg : Bool) (k : EqKind) (x y : Operand) : stepOp ρ H (.same neg k x y) = okV ((sameV k x y (ev ρ x) (ev ρ y)).map fun b => .bool (if neg = true then !b else b)) H := by simp only [stepOp, okV, Option.map_map]; rfl
theorem s_un (op : UnOp) (x : Operand) : stepOp ρ H (.un op x) = okV (unV op (ev ρ x)) H := (rfl)
def convV (k : IntKind) (v : Value) : Option Value := match v with | .int _ n => some (.int k (k.wrap n)) | _ => none
theorem convV_i (k k' : IntKind) (n : Int) : convV k (.int k' n) = some (.int k (k.wrap n)) := (rfl)
theorem s_conv (k : IntKind) (x : Operand) : stepOp ρ H (.conv k x) = okV (convV k (ev ρ x)) H := by simp only [stepOp, okV, convV]; generalize ev ρ x = q; cases q <;> rfl
theorem s_fieldA (o : Nat) (x : Operand) : stepOp ρ H (.fieldA o x) = okV (fieldV o (ev ρ x)) H := (rfl)
theorem s_part (g : Bool) (o n : Nat) (x : Operand) : stepOp ρ H (.part g o n x) = okV (partV g o n (ev ρ x)) H := (rfl)
theorem s_idxS (e : Nat) (x i : Operand) : stepOp ρ H (.idxS e x i) = okV (idxSV e (ev ρ x) (ev ρ i)) H := (rfl)
theorem s_idxA (l e : Nat) (x i : Operand) : stepOp ρ H (.idxA l e x i) = okV (idxAV l e (ev ρ x) (ev ρ i)) H := (rfl)
theorem s_idxV (g : Bool) (l e : Nat) (x i : Operand) : stepOp ρ H (.idxV g l e x i) = okV (idxVV g l e (ev ρ x) (ev ρ i)) H := (rfl)
theorem s_len (b : Bool) (x : Operand) : stepOp ρ H (.len b x) = okV (lenV b (ev ρ x)) H := (rfl)
theorem s_alen (n : Nat) : stepOp ρ H (.alen n) = some (.int .i64 n, H) := (rfl)
theorem s_mnmx (b : Bool) (xs : List Operand) : stepOp ρ H (.mnmx b xs) = okV (mnmxV b (xs.map (ev ρ))) H := (rfl)
theorem s_extract (x : Operand) (i : Nat) : stepOp ρ H (.extract x i) = okV (extractV i (ev ρ x)) H := (rfl)
theorem s_iface (t : TypeId) (x : Operand) : stepOp ρ H (.mkIface t x) = some (.iface t (ev ρ x), H) := (rfl)
theorem s_slice (e : Nat) (x : Operand) (lo hi : Option Operand) : stepOp ρ H (.sliceS e x lo hi) = okV (sliceV e (ev ρ x) (lo.map (ev ρ)) (hi.map (ev ρ))) H := (rfl)
theorem s_sameI (neg : Bool) (x y : Operand) : stepOp ρ H (.sameI neg x y) = okV ((eqI (ev ρ x) (ev ρ y)).map fun b => .bool (if neg = true then !b else b)) H := by simp only [stepOp, okV, Option.map_map]; rfl
theorem s_tassert (t : TypeId) (z : Value) (x : Operand) : stepOp ρ H (.tassert t z x) = okV (tassV t z (ev ρ x)) H := (rfl)
theorem s_mkfn (f : Nat) (xs : List Operand) : stepOp ρ H (.mkfn f xs) = some (.func (.func f) ⟨[]⟩ ⟨xs.map (ev ρ)⟩, H) := (rfl)
theorem s_mkslice (ty : TypeId) (e b : Nat) (z : List Value) (l c : Operand) : stepOp ρ H (.mkslice ty e b z l c) = mksliceV ty e b z H (ev ρ l) (ev ρ c) := (rfl)
theorem ev_g (g : Nat) : ev ρ (.global g) = .pointer (some ⟨gl.idxOf g, 0, none⟩) := (rfl)
theorem mkslice_i (ty : TypeId) (esz bytes : Nat) (z : List Value) (k k' : IntKind) (l c : Int) (h0 : 0 ≤ l) (h1 : l ≤ c) (h2 : (bytes : Int) * c ≤ 140737488355328) (h3 : c ≤ 140737488355328) : mksliceV ty esz bytes z H (.int k l) (.int k' c) = some (.slice (some ⟨H.length, 0, none⟩) l.toNat esz, H ++ [some ⟨true, ty, fillZ z l.toNat⟩]) := if_pos ⟨h0, h1, h2, h3⟩
theorem tassV_i (t u : TypeId) (z v : Value) : tassV t z (.iface u v) = some (.tuple ⟨if u = t then [v, .bool true] else [z, .bool false]⟩) := (rfl)
theorem tassV_n (t : TypeId) (z : Value) : tassV t z .nilIface = some (.tuple ⟨[z, .bool false]⟩) := (rfl)
theorem same_bb (x y : Operand) (a b : Bool) : sameV .bool x y (.bool a) (.bool b) = some (a == b) := (rfl)
theorem same_pn (x y : Operand) (b : Option Addr) : sameV .ptr x y (.pointer none) (.pointer b) = some b.isNone := (rfl)
theorem same_ps (x y : Operand) (a : Addr) : sameV .ptr x y (.pointer (some a)) (.pointer none) = some false := (rfl)
theorem same_s1 (x y : Operand) : sameV .slice x y (.slice none 0 0) (.slice none 0 0) = some true := (rfl)
theorem same_s2 (x y : Operand) (a : Addr) (l c : Nat) : sameV .slice x y (.slice (some a) l c) (.slice none 0 0) = some false := (rfl)
theorem same_s3 (x y : Operand) (a : Addr) (l c : Nat) : sameV .slice x y (.slice none 0 0) (.slice (some a) l c) = some false := (rfl)
theorem same_s4 (x y : Operand) (e : Nat) : sameV .slice x y (.slice none 0 (e + 1)) (.slice none 0 0) = some false := (rfl)
theorem same_i1 (x : Operand) (v : Value) : sameV .iface x (.const v) .nilIface .nilIface = some true := by simp [sameV, isConst, eqV]
theorem same_i2 (x y : Operand) (t : TypeId) (v : Value) : sameV .iface x y (.iface t v) .nilIface = some false := (rfl)
theorem same_i3 (x y : Operand) (t : TypeId) (v : Value) : sameV .iface x y .nilIface (.iface t v) = some false := (rfl)
theorem s_append (ty : TypeId) (e b : Nat) (s x : Operand) : stepOp ρ H (.append ty e b s x) = appendV ty e b H (ev ρ s) (ev ρ x) := (rfl)
theorem s_mkmap (q : IntKind) : stepOp ρ H (.mkmap q) = some (.map (some H.length), H ++ [some (mapB q [] ([], 0))]) := (rfl)
theorem s_look (q : IntKind) (z : Value) (m x : Operand) : stepOp ρ H (.look q z m x) = okV (lookV q z H (ev ρ m) (ev ρ x)) H := (rfl)
theorem s_mupd (q : IntKind) (m x v : Operand) : stepOp ρ H (.mupd q m x v) = okH (mupdV q H (ev ρ m) (ev ρ x) (ev ρ v)) := (rfl)
def lookO (q : IntKind) (z : Value) (p : Option MRep) (x : Int) : Option Value := p.bind fun p => if p.1 = q then some (lookTo z (findM p.2.1 x)) else none
theorem lookO_s (q : IntKind) (z : Value) (l : List (Int × Value)) (g : Gs) (x : Int) : lookO q z (some (q, l, g)) x = some (lookTo z (findM l x)) := by simp [lookO]
theorem lookV_p (q : IntKind) (z : Value) (i : Nat) (x : Int) : lookV q z H (.map (some i)) (.int q x) = lookO q z (mlive H i) x := by simp [lookV, lookO]
def mupdO (q : IntKind) (H : Heap) (i : Nat) (p : Option MRep) (x : Int) (v : Value) : Option Heap := p.bind fun p => if p.1 = q then some (H.set i (some (mapB q (putM p.2.1 x v) (putG p.2.1 x p.2.2)))) else none
theorem mupdO_s (q : IntKind) (i : Nat) (l : List (Int × Value)) (g : Gs) (x : Int) (v : Value) : mupdO q H i (some (q, l, g)) x v = some (H.set i (some (mapB q (putM l x v) (putG l x g)))) := by simp [mupdO]
theorem mupdV_p (q : IntKind) (i : Nat) (x : Int) (v : Value) : mupdV q H (.map (some i)) (.int q x) v = mupdO q H i (mlive H i) x v := by simp [mupdV, mupdO]
theorem lookTo_s (z v : Value) : lookTo z (some v) = .tuple ⟨[v, .bool true]⟩ := (rfl)
theorem lookTo_n (z : Value) : lookTo z none = .tuple ⟨[z, .bool false]⟩ := (rfl)
theorem one_map (a : Option Nat) : Value.oneCell' (.map a) = true := (rfl)
theorem cells_map (a : Option Nat) : (Value.map a).cells.toList = [.map a] := (rfl)
/- What they reckon. -/
def cellO (b : Option Blk) (off : Nat) : Option Value := b.bind fun b => b.cells[off]?
theorem cellO_s (o : Bool) (t : TypeId) (cs : List Value) (off : Nat) : cellO (some ⟨o, t, cs⟩) off = cs[off]? := (rfl)
theorem loadV_p (i off : Nat) : loadV H (.pointer (some ⟨i, off, none⟩)) = cellO (live H i) off := (rfl)
def cellsO (b : Option Blk) (off n : Nat) : Option Value := b.bind fun b => if off + n ≤ b.cells.length then some (.agg ⟨(b.cells.drop off).take n⟩) else none
theorem cellsO_s (o : Bool) (t : TypeId) (cs : List Value) (off n : Nat) (h : off + n ≤ cs.length) : cellsO (some ⟨o, t, cs⟩) off n = some (.agg ⟨(cs.drop off).take n⟩) := if_pos h
theorem loadnV_p (n i off : Nat) : loadnV H n (.pointer (some ⟨i, off, none⟩)) = cellsO (live H i) off n := (rfl)
def putO (H : Heap) (i : Nat) (b : Option Blk) (off n : Nat) (v : Value) : Option Heap := b.bind fun b =>
    if b.own = true ∧ v.cells.toList.length = n ∧ off + n ≤ b.cells.length ∧ v.cells.toList.all Value.oneCell' = true then some (H.set i (some ⟨true, b.ty, b.cells.take off ++ v.cells.toList ++ b.cells.drop (off + n)⟩)) else none
theorem putO_one (i : Nat) (t : TypeId) (cs : List Value) (off : Nat) (v : Value) (h : off < cs.length) (hv : v.oneCell' = true) : putO H i (some ⟨true, t, cs⟩) off 1 v = some (H.set i (some ⟨true, t, cs.set off v⟩)) := by
  have hc : v.cells.toList = [v] := by cases v <;> first | rfl | cases hv
  simp only [putO, Option.bind_some, hc]
  rw [if_pos ⟨trivial, rfl, by omega, by simp [hv]⟩]
  congr 4
  rw [List.set_eq_take_append_cons_drop, if_pos h]
  simp
theorem putO_n (i : Nat) (t : TypeId) (cs l : List Value) (off n : Nat) (h : off + n ≤ cs.length) (hl : l.length = n) (hv : l.all Value.oneCell' = true) : putO H i (some ⟨true, t, cs⟩) off n (.agg ⟨l⟩) = some (H.set i (some ⟨true, t, cs.take off ++ l ++ cs.drop (off + n)⟩)) := by
  simp only [putO, Option.bind_some]
  rw [if_pos ⟨trivial, hl, h, hv⟩]
  rfl
theorem storeV_p (n i off : Nat) (v : Value) : storeV H n (.pointer (some ⟨i, off, none⟩)) v = putO H i (live H i) off n v := (rfl)
theorem notNil_p (a : Addr) : notNil (.pointer (some a)) = some (.pointer (some a)) := (rfl)
theorem fieldV_p (i o off : Nat) : fieldV off (.pointer (some ⟨i, o, none⟩)) = some (.pointer (some ⟨i, o + off, none⟩)) := (rfl)
theorem done_n (rs : List RRes) : done rs (some (.normal, ρ, H)) = (resVs ρ H rs).map fun vs => (tup vs, H) := (rfl)
theorem done_r (rs : List RRes) : done rs (some (.ret, ρ, H)) = (resVs ρ H rs).map fun vs => (tup vs, H) := (rfl)
theorem done_ite (rs : List RRes) (c : Prop) [Decidable c] (a b : Option (Ex × Fr × Heap)) : done rs (if c then a else b) = if c then done rs a else done rs b := by split <;> rfl
theorem resVs_nil : resVs ρ H [] = some [] := (rfl)
theorem resVs_cons (r : RRes) (l : List RRes) : resVs ρ H (r :: l) = (resV ρ H r).bind fun v => (resVs ρ H l).map fun vs => v :: vs := (rfl)
theorem tup_nil : tup [] = .tuple ⟨[]⟩ := (rfl)
theorem tup_one (v : Value) : tup [v] = v := (rfl)
theorem tup_two (v u : Value) (l : List Value) : tup (v :: u :: l) = .tuple ⟨v :: u :: l⟩ := (rfl)
theorem idxS_s (e i o len x : Nat) (k : IntKind) (j : Int) (h0 : 0 ≤ j) (h1 : j < len) : idxSV e (.slice (some ⟨i, o, none⟩) len x) (.int k j) = some (.pointer (some ⟨i, o + j.toNat * e, none⟩)) := if_pos ⟨h0, h1⟩
theorem idxA_s (l e i o : Nat) (k : IntKind) (j : Int) (h0 : 0 ≤ j) (h1 : j < l) : idxAV l e (.pointer (some ⟨i, o, none⟩)) (.int k j) = some (.pointer (some ⟨i, o + j.toNat * e, none⟩)) := if_pos ⟨h0, h1⟩
theorem arithV_i (op : BinOp) (k k' : IntKind) (a b : Int) : arithV op (.int k a) (.int k' b) = binInt op k a k' b := (rfl)
end
theorem wrap64 (n : Int) (h1 : -9223372036854775808 ≤ n) (h2 : n ≤ 9223372036854775807) : IntKind.i64.wrap n = n := by
  simp only [IntKind.wrap, IntKind.bits, IntKind.signed]
  simp
  split <;> omega
theorem tdivL (a b : Int) (h : 0 ≤ a) : a.tdiv b = a / b := Int.tdiv_eq_ediv_of_nonneg h
theorem tmodL (a b : Int) (h : 0 ≤ a) : a.tmod b = a % b := Int.tmod_eq_emod_of_nonneg h
theorem lt_more (i n k : Nat) (h : i < n) : i < n + k := by omega
theorem ne_add (n k : Nat) (h : 0 < k) : ¬ (n = n + k) := by omega
theorem one_bool (b : Bool) : Value.oneCell' (.bool b) = true := (rfl)
theorem cells_bool (b : Bool) : (Value.bool b).cells.toList = [.bool b] := (rfl)
theorem one_int (k : IntKind) (n : Int) : Value.oneCell' (.int k n) = true := (rfl)
theorem cells_int (k : IntKind) (n : Int) : (Value.int k n).cells.toList = [.int k n] := (rfl)
theorem one_string (s : ByteArray) : Value.oneCell' (.string s) = true := (rfl)
theorem cells_string (s : ByteArray) : (Value.string s).cells.toList = [.string s] := (rfl)
theorem one_pointer (a : Option Addr) : Value.oneCell' (.pointer a) = true := (rfl)
theorem cells_pointer (a : Option Addr) : (Value.pointer a).cells.toList = [.pointer a] := (rfl)
theorem one_slice (a : Option Addr) (l c : Nat) : Value.oneCell' (.slice a l c) = true := (rfl)
theorem cells_slice (a : Option Addr) (l c : Nat) : (Value.slice a l c).cells.toList = [.slice a l c] := (rfl)
theorem one_iface (t : TypeId) (v : Value) : Value.oneCell' (.iface t v) = true := (rfl)
theorem cells_iface (t : TypeId) (v : Value) : (Value.iface t v).cells.toList = [.iface t v] := (rfl)
theorem one_nilIface : Value.oneCell' .nilIface = true := (rfl)
theorem cells_nilIface : Value.nilIface.cells.toList = [.nilIface] := (rfl)
theorem cells_agg (l : List Value) : (Value.agg ⟨l⟩).cells.toList = l := (rfl)
end Go.Proofs.Ytoknmodbdlfdmaa.Sim
