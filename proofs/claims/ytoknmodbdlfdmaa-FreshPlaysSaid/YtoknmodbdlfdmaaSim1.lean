/- A plain heap beside the model's: which values stand for which, what a plain heap says of a world, and what a step keeps. -/
import Derived.Orders
import Derived.Below
import Derived.Laws.CopyRow
import Derived.Laws.Cells
import Derived.Laws.Rows
import Derived.MapKept
namespace Go.Proofs.Ytoknmodbdlfdmaa.Sim
open Go Go.RowKit
set_option linter.unusedVariables false
/-- Where the plain heap's blocks lie: the block's number in the world, how many cells it has there, and where its first one is. -/
abbrev Loc := Nat → Option (Nat × Nat × Nat)
mutual
inductive VR (φ : Loc) : Value → Value → Prop
  | bool (b : Bool) : VR φ (.bool b) (.bool b)
  | int (k : IntKind) (n : Int) : VR φ (.int k n) (.int k n)
  | string (s : ByteArray) : VR φ (.string s) (.string s)
  | ptrNil : VR φ (.pointer none) (.pointer none)
  | ptr {i off : Nat} {k : Nat × Nat × Nat} : φ i = some k → VR φ (.pointer (some ⟨i, off, none⟩)) (.pointer (some ⟨k.1, k.2.2 + off, none⟩))
  | sliceNil : VR φ (.slice none 0 0) (.slice none 0 0)
  | slice {i off len esz cap : Nat} {k : Nat × Nat × Nat} : φ i = some k → len ≤ cap → (off = 0 → cap * esz ≤ k.2.1) → VR φ (.slice (some ⟨i, off, none⟩) len esz) (.slice (some ⟨k.1, k.2.2 + off, none⟩) len cap)
  | sliceE {e cap : Nat} {ad : Addr} : VR φ (.slice none 0 (e + 1)) (.slice (some ad) 0 cap)
  | func (fn : Fn) {l m : List Value} : VRs φ l m → VR φ (.func fn #[] ⟨l⟩) (.func fn #[] ⟨m⟩)
  | nilFunc : VR φ .nilFunc .nilFunc
  | iface (t : TypeId) {v w : Value} : VR φ v w → VR φ (.iface t v) (.iface t w)
  | nilIface : VR φ .nilIface .nilIface
  | agg {l m : List Value} : VRs φ l m → VR φ (.agg ⟨l⟩) (.agg ⟨m⟩)
  | tuple {l m : List Value} : VRs φ l m → VR φ (.tuple ⟨l⟩) (.tuple ⟨m⟩)
  | mapNil : VR φ (.map none) (.map none)
  | map {i : Nat} {k : Nat × Nat × Nat} : φ i = some k → VR φ (.map (some i)) (.map (some k.1))
inductive VRs (φ : Loc) : List Value → List Value → Prop
  | nil : VRs φ [] []
  | cons {v w : Value} {l m : List Value} : VR φ v w → VRs φ l m → VRs φ (v :: l) (w :: m)
end
def Loc.le (φ ψ : Loc) : Prop := ∀ i k, φ i = some k → ψ i = some k
theorem Loc.le_refl (φ : Loc) : Loc.le φ φ := fun _ _ h => h
theorem Loc.le_trans {φ ψ χ : Loc} (h : Loc.le φ ψ) (g : Loc.le ψ χ) : Loc.le φ χ := fun i k e => g i k (h i k e)
theorem VR.mono {φ ψ : Loc} (h : Loc.le φ ψ) {v w : Value} (r : VR φ v w) : VR ψ v w :=
  VR.rec (motive_1 := fun v w _ => VR ψ v w) (motive_2 := fun l m _ => VRs ψ l m)
    .bool .int .string .ptrNil (fun e => .ptr (h _ _ e)) .sliceNil (fun e a b => .slice (h _ _ e) a b) .sliceE (fun fn _ _ _ r => .func fn r) .nilFunc (fun t _ _ _ r => .iface t r) .nilIface (fun _ r => .agg r) (fun _ r => .tuple r) .mapNil (fun e => .map (h _ _ e))
    .nil (fun _ _ r s => .cons r s) r
theorem VRs.mono {φ ψ : Loc} (h : Loc.le φ ψ) {l m : List Value} (r : VRs φ l m) : VRs ψ l m := by
  induction l generalizing m with
  | nil => cases r; exact .nil
  | cons v l ih => cases r with | cons a b => exact .cons (a.mono h) (ih b)
theorem VRs.length {φ : Loc} {l m : List Value} (r : VRs φ l m) : m.length = l.length := by
  induction l generalizing m with
  | nil => cases r; rfl
  | cons v l ih => cases r with | cons a b => simp [ih b]
theorem VRs.get {φ : Loc} {l m : List Value} (r : VRs φ l m) {i : Nat} {v : Value} (h : l[i]? = some v) : ∃ w, m[i]? = some w ∧ VR φ v w := by
  induction l generalizing m i with
  | nil => simp at h
  | cons x l ih =>
    cases r with
    | cons a b =>
      cases i with
      | zero => simp at h; subst h; exact ⟨_, rfl, a⟩
      | succ i => simp at h ⊢; exact ih b h
theorem VRs.append {φ : Loc} {l m l' m' : List Value} (r : VRs φ l m) (s : VRs φ l' m') : VRs φ (l ++ l') (m ++ m') := by
  induction l generalizing m with
  | nil => cases r; exact s
  | cons v l ih => cases r with | cons a b => exact .cons a (ih b)
theorem VRs.take {φ : Loc} {l m : List Value} (r : VRs φ l m) (n : Nat) : VRs φ (l.take n) (m.take n) := by
  induction l generalizing m n with
  | nil => cases r; simp; exact .nil
  | cons v l ih =>
    cases r with
    | cons a b => cases n with
      | zero => exact .nil
      | succ n => exact .cons a (ih b n)
theorem VRs.drop {φ : Loc} {l m : List Value} (r : VRs φ l m) (n : Nat) : VRs φ (l.drop n) (m.drop n) := by
  induction l generalizing m n with
  | nil => cases r; simp; exact .nil
  | cons v l ih =>
    cases r with
    | cons a b => cases n with
      | zero => exact .cons a b
      | succ n => exact ih b n
theorem VRs.set {φ : Loc} {l m : List Value} (r : VRs φ l m) (n : Nat) {v w : Value} (h : VR φ v w) : VRs φ (l.set n v) (m.set n w) := by
  induction l generalizing m n with
  | nil => cases r; exact .nil
  | cons x l ih =>
    cases r with
    | cons a b => cases n with
      | zero => exact .cons h b
      | succ n => exact .cons a (ih b n)
/-- A value that holds no address stands for itself. -/
def plainB : Value → Bool
  | .bool _ | .int _ _ | .string _ | .pointer none | .nilFunc | .nilIface | .map none => true
  | .slice none 0 0 => true
  | .func _ a b => a.toList.isEmpty && b.toList.isEmpty
  | _ => false
def plainV : Value → Bool
  | .agg cs | .tuple cs => cs.toList.all plainB
  | v => plainB v
theorem VR.plainB {φ : Loc} {v : Value} (h : plainB v = true) : VR φ v v := by
  unfold Sim.plainB at h
  split at h
  · exact .bool _
  · exact .int _ _
  · exact .string _
  · exact .ptrNil
  · exact .nilFunc
  · exact .nilIface
  · exact .mapNil
  · exact .sliceNil
  · rename_i fn a b
    obtain ⟨a⟩ := a
    obtain ⟨b⟩ := b
    simp at h
    obtain ⟨rfl, rfl⟩ := h
    exact .func _ .nil
  · simp at h
theorem VRs.plain {φ : Loc} {l : List Value} (h : l.all plainB = true) : VRs φ l l := by
  induction l with
  | nil => exact .nil
  | cons v l ih => simp at h; exact .cons (VR.plainB h.1) (ih (by simpa using h.2))
theorem VR.plain {φ : Loc} {v : Value} (h : plainV v = true) : VR φ v v := by
  unfold plainV at h
  split at h
  · rename_i cs; obtain ⟨l⟩ := cs; exact .agg (VRs.plain h)
  · rename_i cs; obtain ⟨l⟩ := cs; exact .tuple (VRs.plain h)
  · exact VR.plainB h
theorem VR.cells {φ : Loc} {v w : Value} (h : VR φ v w) : VRs φ v.cells.toList w.cells.toList := by
  cases h with
  | agg r => exact r
  | tuple r => exact .cons (.tuple r) .nil
  | mapNil => exact .cons .mapNil .nil
  | map e => exact .cons (.map e) .nil
  | bool b => exact .cons (.bool b) .nil
  | int k n => exact .cons (.int k n) .nil
  | string s => exact .cons (.string s) .nil
  | ptrNil => exact .cons .ptrNil .nil
  | ptr e => exact .cons (.ptr e) .nil
  | sliceNil => exact .cons .sliceNil .nil
  | slice e a b => exact .cons (.slice e a b) .nil
  | sliceE => exact .cons .sliceE .nil
  | func fn r => exact .cons (.func fn r) .nil
  | nilFunc => exact .cons .nilFunc .nil
  | iface t r => exact .cons (.iface t r) .nil
  | nilIface => exact .cons .nilIface .nil
theorem VR.one {φ : Loc} {v w : Value} (h : VR φ v w) : w.oneCell' = v.oneCell' := by cases h <;> rfl
theorem VRs.one {φ : Loc} {l m : List Value} (r : VRs φ l m) (h : l.all Value.oneCell' = true) : ∀ v ∈ m, v.oneCell' = true := by
  induction l generalizing m with
  | nil => cases r; simp
  | cons x l ih =>
    cases r with
    | cons a b =>
      simp at h
      intro v hv
      rcases List.mem_cons.1 hv with rfl | hv
      · rw [a.one]; exact h.1
      · exact ih b (by simpa using h.2) v hv
/-- A map's stamps: each entry's, and the next one's. -/
abbrev Gs := List Nat × Nat
/-- What a block holds that holds no cells: a map's entries, by their keys, which are numbers; its stamps. -/
abbrev MRep := IntKind × List (Int × Value) × Gs
class Mp where
  it : Option MRep
instance noMp : Mp := ⟨none⟩
/-- A block of the plain heap: ours, or one that came in and is only read; its element's type; its cells. -/
structure Blk where
  own : Bool
  ty : TypeId
  cells : List Value
  [mp : Mp]
def mapB (q : IntKind) (l : List (Int × Value)) (g : Gs) : Blk := @Blk.mk true 0 [] ⟨some (q, l, g)⟩
/-- A map's entries, one by one. -/
inductive EsR (φ : Loc) (q : IntKind) : List (Int × Value) → List MapEntry → Prop
  | nil : EsR φ q [] []
  | cons {p : Int × Value} {e : MapEntry} {l : List (Int × Value)} {es : List MapEntry} : e.key = .int q p.1 → VR φ p.2 e.val → EsR φ q l es → EsR φ q (p :: l) (e :: es)
theorem EsR.mono {φ ψ : Loc} (h : Loc.le φ ψ) {q : IntKind} {l : List (Int × Value)} {es : List MapEntry} (r : EsR φ q l es) : EsR ψ q l es := by
  induction r with
  | nil => exact .nil
  | cons a b _ ih => exact .cons a (b.mono h) ih
abbrev Heap := List (Option Blk)
def HeldC (φ : Loc) (w : World) (k : Nat × Nat × Nat) (b : Blk) : Prop :=
  ∃ pre m rest fz, w.heap[k.1]? = some (.cells ⟨pre ++ (m ++ rest)⟩ b.ty fz) ∧ (b.own = true → fz = (0, 0) ∧ pre = []) ∧ VRs φ b.cells m ∧ k.2.1 = (m ++ rest).length ∧ pre.length = k.2.2
def HeldM (φ : Loc) (w : World) (k : Nat × Nat × Nat) (q : IntKind) (l : List (Int × Value)) (g : Gs) : Prop :=
  ∃ es, w.heap[k.1]? = some (.map es g.2) ∧ MapKept.Stamped es g.2 ∧ EsR φ q l es.toList ∧ es.toList.map (·.born) = g.1
def Held (φ : Loc) (w : World) (k : Nat × Nat × Nat) (b : Blk) : Prop :=
  (b.mp.it = none ∧ HeldC φ w k b) ∨ ∃ q l g, b.mp.it = some (q, l, g) ∧ b.own = true ∧ HeldM φ w k q l g
theorem Held.mono {φ φ' : Loc} {w w' : World} {k : Nat × Nat × Nat} {b : Blk} (h : Held φ w k b) (hle : Loc.le φ φ') (hw : w'.heap[k.1]? = w.heap[k.1]?) : Held φ' w' k b := by
  rcases h with ⟨h0, pre, m, rest, fz, h1, h2, h3, h4⟩ | ⟨q, l, g, h0, ho, es, h1, h2, h3, h4⟩
  · exact .inl ⟨h0, pre, m, rest, fz, hw.trans h1, h2, h3.mono hle, h4⟩
  · exact .inr ⟨q, l, g, h0, ho, es, hw.trans h1, h2, h3.mono hle, h4⟩
theorem Held.lt {φ : Loc} {w : World} {k : Nat × Nat × Nat} {b : Blk} (h : Held φ w k b) : k.1 < w.heap.size := by
  rcases h with ⟨_, pre, m, rest, fz, hw, _⟩ | ⟨_, _, _, _, _, es, hw, _⟩ <;>
  · rcases Nat.lt_or_ge k.1 w.heap.size with g | g
    · exact g
    · rw [Array.getElem?_eq_none g] at hw; cases hw
/-- The package-level variables that hold an error each: by their numbers; the plain heap's first blocks are these, the next ones what they point to. -/
def gl : List Nat := []
/-- The errors' type. -/
def et : TypeId := 0
structure Seal (φ : Loc) (w : World) : Prop where
  at_ : ∀ i g, gl[i]? = some g → ∃ n, φ i = some (g, n, 0)
  pt : ∀ i, i < gl.length → ∃ k c ty, φ (gl.length + i) = some k ∧ w.heap[k.1]? = some (.cells c ty (0, 0))
  inj : ∀ i j k l, i < gl.length → j < gl.length → φ (gl.length + i) = some k → φ (gl.length + j) = some l → k.1 = l.1 → k.2.2 = l.2.2 → i = j
theorem Seal.mono {φ φ' : Loc} {w w' : World} (s : Seal φ w) (hle : Loc.le φ φ') (hw : ∀ (b : Nat) (c : Array Value) (ty : TypeId), w.heap[b]? = some (.cells c ty (0, 0)) → ∃ c' ty', w'.heap[b]? = some (.cells c' ty' (0, 0))) : Seal φ' w' := by
  refine ⟨fun i g h => ?_, fun i h => ?_, fun i j k l hi hj ek el h1 h2 => ?_⟩
  · obtain ⟨n, e⟩ := s.at_ i g h; exact ⟨n, hle _ _ e⟩
  · obtain ⟨k, c, ty, e, h1⟩ := s.pt i h
    obtain ⟨c', ty', h2⟩ := hw _ _ _ h1
    exact ⟨k, c', ty', hle _ _ e, h2⟩
  · obtain ⟨k', _, _, e, _⟩ := s.pt i hi
    obtain ⟨l', _, _, e', _⟩ := s.pt j hj
    have q1 := hle _ _ e
    have q2 := hle _ _ e'
    rw [ek] at q1; rw [el] at q2
    cases q1; cases q2
    exact s.inj i j k l hi hj e e' h1 h2
structure Rel (lim : Nat) (φ : Loc) (H : Heap) (w : World) : Prop where
  dom : ∀ i, H.length ≤ i → i < lim → φ i = none
  blk : ∀ i b, H[i]? = some (some b) → ∃ k, φ i = some k ∧ Held φ w k b
  inj : ∀ i j b c k l, H[i]? = some (some b) → b.own = true → H[j]? = some (some c) → φ i = some k → φ j = some l → k.1 = l.1 → i = j
  sld : Seal φ w
structure Keeps (φ : Loc) (H : Heap) (w : World) (φ' : Loc) (H' : Heap) (w' : World) : Prop where
  os : w'.os = w.os
  tape : w'.tape = w.tape
  output : w'.output = w.output
  size : w.heap.size ≤ w'.heap.size
  ext : Loc.le φ φ'
  len : H.length ≤ H'.length
  same : ∀ i, i < H.length ∨ H'.length ≤ i → φ' i = φ i
  kind : ∀ (j : Nat) (c : Blk), H'[j]? = some (some c) → c.own = true ∨ ∃ b : Blk, H[j]? = some (some b) ∧ b.own = c.own
  own : ∀ j c l, H'[j]? = some (some c) → c.own = true → φ' j = some l → w.heap.size ≤ l.1 ∨ ∃ i b k, H[i]? = some (some b) ∧ b.own = true ∧ φ i = some k ∧ k.1 = l.1
  old : ∀ b, b < w.heap.size → (∀ i bl k, H[i]? = some (some bl) → bl.own = true → φ i = some k → k.1 ≠ b) → w'.heap[b]? = w.heap[b]?
theorem Keeps.refl (φ : Loc) (H : Heap) (w : World) : Keeps φ H w φ H w :=
  ⟨rfl, rfl, rfl, Nat.le_refl _, Loc.le_refl _, Nat.le_refl _, fun _ _ => rfl, fun j c h => .inr ⟨c, h, rfl⟩, fun j c l h o e => .inr ⟨j, c, l, h, o, e, rfl⟩, fun _ _ _ => rfl⟩
theorem Keeps.trans {φ φ' φ'' : Loc} {H H' H'' : Heap} {w w' w'' : World} (a : Keeps φ H w φ' H' w') (b : Keeps φ' H' w' φ'' H'' w'') : Keeps φ H w φ'' H'' w'' where
  os := b.os.trans a.os
  tape := b.tape.trans a.tape
  output := b.output.trans a.output
  size := Nat.le_trans a.size b.size
  ext := Loc.le_trans a.ext b.ext
  len := Nat.le_trans a.len b.len
  same := fun i hi => by
    have h1 := a.len
    have h2 := b.len
    rw [b.same i (by omega), a.same i (by omega)]
  kind := fun j c h => by
    rcases b.kind j c h with g | ⟨d, h1, h2⟩
    · exact .inl g
    · rcases a.kind j d h1 with g | ⟨e, h3, h4⟩
      · exact .inl (h2 ▸ g)
      · exact .inr ⟨e, h3, h4.trans h2⟩
  own := fun j c l h o e => by
    rcases b.own j c l h o e with g | ⟨i, d, k, hi, od, ek, rfl'⟩
    · exact .inl (Nat.le_trans a.size g)
    · rw [← rfl']; exact a.own i d k hi od ek
  old := fun n hn ho => by
    rw [b.old n (Nat.lt_of_lt_of_le hn a.size) fun j c l h o e => ?_]
    · exact a.old n hn ho
    · intro e'
      rcases a.own j c l h o e with g | ⟨i, d, k, hi, od, ek, hk⟩
      · omega
      · exact ho i d k hi od ek (hk.trans e')
theorem Keeps.below {φ φ' : Loc} {H H' : Heap} {w w' : World} (a : Keeps φ H w φ' H' w') (h : ∀ (i : Nat) (b : Blk), H[i]? = some (some b) → b.own = true → False) : Below w.heap.size w w' :=
  ⟨a.os, a.tape, a.output, a.size, fun k hk => a.old k hk fun i bl k h1 h2 _ => (h i bl h1 h2).elim⟩
/-- The world's own counters do not matter. -/
theorem Rel.same {lim : Nat} {φ : Loc} {H : Heap} {w w' : World} (r : Rel lim φ H w) (h : w'.heap = w.heap) : Rel lim φ H w' :=
  ⟨r.dom, fun i b hb => by obtain ⟨k, e, g⟩ := r.blk i b hb; exact ⟨k, e, g.mono (Loc.le_refl _) (by rw [h])⟩, r.inj, r.sld.mono (Loc.le_refl _) (fun b c ty e => ⟨c, ty, by rw [h]; exact e⟩)⟩
theorem Rel.lt {lim : Nat} {φ : Loc} {H : Heap} {w : World} (r : Rel lim φ H w) {i : Nat} {b : Blk} {k : Nat × Nat × Nat} (h : H[i]? = some (some b)) (e : φ i = some k) : k.1 < w.heap.size := by
  obtain ⟨k', e', g⟩ := r.blk i b h
  rw [e] at e'
  cases e'
  exact g.lt
theorem Rel.load {lim : Nat} {φ : Loc} {H : Heap} {w : World} (r : Rel lim φ H w) {i off : Nat} {b : Blk} {v : Value} {k : Nat × Nat × Nat} (h : H[i]? = some (some b)) (hmp : b.mp.it = none) (hv : b.cells[off]? = some v) (e : φ i = some k) :
    ∃ v', w.cell? ⟨k.1, k.2.2 + off, none⟩ = some v' ∧ VR φ v v' := by
  obtain ⟨k', e', g⟩ := r.blk i b h
  rw [e] at e'
  cases e'
  rcases g with ⟨_, pre, m, rest, fz, hw, _, hm, _, hpre⟩ | ⟨q, l, g, h0, _⟩
  case inr => rw [hmp] at h0; cases h0
  obtain ⟨v', h1, h2⟩ := hm.get hv
  refine ⟨v', ?_, h2⟩
  rw [cell_of_row w k.1 _ _ _ _ hw]
  have hl : off < m.length := by
    rcases Nat.lt_or_ge off m.length with g | g
    · exact g
    · rw [List.getElem?_eq_none g] at h1; cases h1
  simp only [List.getElem?_toArray]
  rw [List.getElem?_append_right (by omega), List.getElem?_append_left (by omega)]
  have : k.2.2 + off - pre.length = off := by omega
  rw [this]
  exact h1
/-- A new block. -/
def Loc.add (φ : Loc) (i : Nat) (k : Nat × Nat × Nat) : Loc := fun j => if j = i then some k else φ j
theorem Loc.le_add {φ : Loc} {i : Nat} {k : Nat × Nat × Nat} (h : φ i = none) : Loc.le φ (φ.add i k) := fun j l e => by
  unfold Loc.add
  split
  · rename_i hj; subst hj; rw [h] at e; cases e
  · exact e
theorem Rel.allocB {lim : Nat} {φ : Loc} {H : Heap} {w : World} (r : Rel lim φ H w) (hlim : H.length < lim) (o : Obj) (B : Blk) (ho : B.own = true) (n : Nat)
    (hB : Held (φ.add H.length (w.heap.size, n, 0)) (w.alloc o) (w.heap.size, n, 0) B) :
    Rel lim (φ.add H.length (w.heap.size, n, 0)) (H ++ [some B]) (w.alloc o) ∧ Keeps φ H w (φ.add H.length (w.heap.size, n, 0)) (H ++ [some B]) (w.alloc o) := by
  have hle : Loc.le φ (φ.add H.length (w.heap.size, n, 0)) := Loc.le_add (r.dom _ (Nat.le_refl _) hlim)
  have hne : ∀ i, i < H.length → (φ.add H.length (w.heap.size, n, 0)) i = φ i := fun i hi => by unfold Loc.add; rw [if_neg (by omega)]
  have hnew : (φ.add H.length (w.heap.size, n, 0)) H.length = some (w.heap.size, n, 0) := by unfold Loc.add; rw [if_pos rfl]
  have hcase : ∀ i b, (H ++ [some B])[i]? = some (some b) → (i < H.length ∧ H[i]? = some (some b)) ∨ (i = H.length ∧ b = B) := by
    intro i b h
    rcases Nat.lt_trichotomy i H.length with g | g | g
    · left; rw [List.getElem?_append_left g] at h; exact ⟨g, h⟩
    · right; subst g; simp at h; exact ⟨rfl, h.symm⟩
    · rw [List.getElem?_eq_none (by simp; omega)] at h; cases h
  refine ⟨⟨fun i hi hil => ?_, fun i b h => ?_, fun i j b c k q h ob g ek eq hkq => ?_, r.sld.mono hle (fun b c t e => ⟨c, t, by
    have hb : b < w.heap.size := by
      rcases Nat.lt_or_ge b w.heap.size with g | g
      · exact g
      · rw [Array.getElem?_eq_none g] at e; cases e
    rw [heap_alloc_old w _ _ hb]; exact e⟩)⟩, ⟨rfl, rfl, rfl, by simp, hle, by simp, fun i hi => ?_, fun j c h => ?_, fun j c q h oc e => ?_, fun n hn _ => ?_⟩⟩
  · simp at hi
    unfold Loc.add
    rw [if_neg (by omega)]
    exact r.dom i (by omega) hil
  · rcases hcase i b h with ⟨hi, g⟩ | ⟨rfl, rfl⟩
    · obtain ⟨k, e, q⟩ := r.blk i b g
      exact ⟨k, by rw [hne i hi]; exact e, q.mono hle (heap_alloc_old w _ _ (r.lt g e))⟩
    · exact ⟨_, hnew, hB⟩
  · rcases hcase i b h with ⟨hi, hb⟩ | ⟨rfl, rfl⟩ <;> rcases hcase j c g with ⟨hj, hc⟩ | ⟨rfl, rfl⟩
    · rw [hne i hi] at ek; rw [hne j hj] at eq
      exact r.inj i j b c k q hb ob hc ek eq hkq
    · rw [hne i hi] at ek; rw [hnew] at eq
      have := r.lt hb ek
      cases eq; simp at hkq; omega
    · rw [hne j hj] at eq; rw [hnew] at ek
      have := r.lt hc eq
      cases ek; simp at hkq; omega
    · rfl
  · unfold Loc.add; simp at hi; rw [if_neg (by omega)]
  · rcases hcase j c h with ⟨hj, hc⟩ | ⟨rfl, rfl⟩
    · exact .inr ⟨c, hc, rfl⟩
    · exact .inl ho
  · rcases hcase j c h with ⟨hj, hc⟩ | ⟨rfl, rfl⟩
    · rw [hne j hj] at e; exact .inr ⟨j, c, q, hc, oc, e, rfl⟩
    · rw [hnew] at e; cases e; exact .inl (Nat.le_refl _)
  · exact heap_alloc_old w _ _ hn
theorem Rel.alloc {lim : Nat} {φ : Loc} {H : Heap} {w : World} (r : Rel lim φ H w) (hlim : H.length < lim) (ty : TypeId) {l m : List Value} (hl : VRs φ l m) (rest : List Value) :
    Rel lim (φ.add H.length (w.heap.size, (m ++ rest).length, 0)) (H ++ [some ⟨true, ty, l⟩]) (w.alloc (.cells ⟨m ++ rest⟩ ty)) ∧ Keeps φ H w (φ.add H.length (w.heap.size, (m ++ rest).length, 0)) (H ++ [some ⟨true, ty, l⟩]) (w.alloc (.cells ⟨m ++ rest⟩ ty)) := by
  exact r.allocB hlim _ _ rfl _ (.inl ⟨rfl, [], m, rest, (0, 0), heap_alloc_new w _, fun _ => ⟨rfl, rfl⟩, hl.mono (Loc.le_add (r.dom _ (Nat.le_refl _) hlim)), rfl, rfl⟩)
/-- Cells of a block of ours are written anew. -/
theorem Rel.writeB {lim : Nat} {φ : Loc} {H : Heap} {w w' : World} (r : Rel lim φ H w) {i : Nat} {b : Blk} {k : Nat × Nat × Nat} (h : H[i]? = some (some b)) (ho : b.own = true) (e : φ i = some k) (B : Blk) (hBo : B.own = true)
    (hB : Held φ w' k B) (h1 : ∀ c t, w.heap[k.1]? = some (.cells c t (0, 0)) → ∃ c' t', w'.heap[k.1]? = some (.cells c' t' (0, 0)))
    (h2 : ∀ n, n ≠ k.1 → w'.heap[n]? = w.heap[n]?) (h3 : w'.heap.size = w.heap.size) (os : w'.os = w.os) (tape : w'.tape = w.tape) (output : w'.output = w.output) :
    Rel lim φ (H.set i (some B)) w' ∧ Keeps φ H w φ (H.set i (some B)) w' := by
  have hi : i < H.length := by
    rcases Nat.lt_or_ge i H.length with g | g
    · exact g
    · rw [List.getElem?_eq_none g] at h; cases h
  have hcase : ∀ j c, (H.set i (some B))[j]? = some (some c) → (j ≠ i ∧ H[j]? = some (some c)) ∨ (j = i ∧ c = B) := by
    intro j c g
    by_cases hj : j = i
    · subst hj; rw [List.getElem?_set_self hi] at g; simp at g; exact .inr ⟨rfl, g.symm⟩
    · rw [List.getElem?_set_ne (by omega)] at g; exact .inl ⟨hj, g⟩
  refine ⟨⟨fun j hj => r.dom j (by simpa using hj), fun j c g => ?_, fun j j' c c' q q' g o g' eq eq' hq => ?_, r.sld.mono (Loc.le_refl _) (fun b' c t e' => by
    by_cases hb : b' = k.1
    · subst hb; exact h1 _ _ e'
    · exact ⟨c, t, by rw [h2 b' hb]; exact e'⟩)⟩, ⟨os, tape, output, by omega, Loc.le_refl _, by simp, fun _ _ => rfl, fun j c g => ?_, fun j c q g o eq => ?_, fun n hn hnone => ?_⟩⟩
  · rcases hcase j c g with ⟨hj, hc⟩ | ⟨rfl, rfl⟩
    · obtain ⟨q, eq, g'⟩ := r.blk j c hc
      exact ⟨q, eq, g'.mono (Loc.le_refl _) (h2 q.1 fun heq => hj (r.inj i j b c k q h ho hc e eq heq.symm).symm)⟩
    · exact ⟨k, e, hB⟩
  · have a : ∃ d, H[j]? = some (some d) ∧ d.own = true := by
      rcases hcase j c g with ⟨_, hc⟩ | ⟨rfl, rfl⟩
      · exact ⟨c, hc, o⟩
      · exact ⟨b, h, ho⟩
    have a' : ∃ d, H[j']? = some (some d) := by
      rcases hcase j' c' g' with ⟨_, hc⟩ | ⟨rfl, rfl⟩
      · exact ⟨c', hc⟩
      · exact ⟨b, h⟩
    obtain ⟨d, hd, od⟩ := a
    obtain ⟨d', hd'⟩ := a'
    exact r.inj j j' d d' q q' hd od hd' eq eq' hq
  · rcases hcase j c g with ⟨_, hc⟩ | ⟨rfl, rfl⟩
    · exact .inr ⟨c, hc, rfl⟩
    · exact .inl hBo
  · rcases hcase j c g with ⟨_, hc⟩ | ⟨rfl, rfl⟩
    · exact .inr ⟨j, c, q, hc, o, eq, rfl⟩
    · exact .inr ⟨j, b, q, h, ho, eq, rfl⟩
  · exact h2 n fun heq => hnone i b k h ho e heq.symm
theorem Rel.write {lim : Nat} {φ : Loc} {H : Heap} {w w' : World} (r : Rel lim φ H w) {i : Nat} {b : Blk} {k : Nat × Nat × Nat} (h : H[i]? = some (some b)) (ho : b.own = true) (e : φ i = some k) {l m rest : List Value}
    (hm : VRs φ l m) (hl : k.2.1 = (m ++ rest).length) (hk0 : k.2.2 = 0)
    (h1 : w'.heap[k.1]? = some (.cells ⟨m ++ rest⟩ b.ty (0, 0))) (h2 : ∀ n, n ≠ k.1 → w'.heap[n]? = w.heap[n]?) (h3 : w'.heap.size = w.heap.size) (os : w'.os = w.os) (tape : w'.tape = w.tape) (output : w'.output = w.output) :
    Rel lim φ (H.set i (some ⟨true, b.ty, l⟩)) w' ∧ Keeps φ H w φ (H.set i (some ⟨true, b.ty, l⟩)) w' := by
  exact r.writeB h ho e _ rfl (.inl ⟨rfl, [], m, rest, (0, 0), h1, fun _ => ⟨rfl, rfl⟩, hm, hl, hk0.symm⟩) (fun _ _ _ => ⟨_, _, h1⟩) h2 h3 os tape output
/-- What is forgotten does no harm. -/
theorem Rel.forget {lim : Nat} {φ : Loc} {H H' : Heap} {w : World} (r : Rel lim φ H w) (hl : H'.length = H.length) (h : ∀ (i : Nat) (b : Blk), H'[i]? = some (some b) → H[i]? = some (some b)) : Rel lim φ H' w ∧ Keeps φ H w φ H' w :=
  ⟨⟨fun i hi => r.dom i (by omega), fun i b g => r.blk i b (h i b g), fun i j b c k l g o g' ek el e => r.inj i j b c k l (h i b g) o (h j c g') ek el e, r.sld⟩,
   ⟨rfl, rfl, rfl, Nat.le_refl _, Loc.le_refl _, by omega, fun _ _ => rfl, fun j c g => .inr ⟨c, h j c g, rfl⟩, fun j c l g o e => .inr ⟨j, c, l, h j c g, o, e, rfl⟩, fun _ _ _ => rfl⟩⟩
end Go.Proofs.Ytoknmodbdlfdmaa.Sim
