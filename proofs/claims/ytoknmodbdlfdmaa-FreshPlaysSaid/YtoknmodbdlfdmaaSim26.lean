/- What a walk round a map's entries needs: operations that the plain heap does not know, worlds beside it, entries that are done. -/
import Derived.Test.YtoknmodbdlfdmaaSim22
import Derived.Maps.RangeRun
namespace Go.Proofs.Ytoknmodbdlfdmaa.Sim
open Go Go.RowKit
set_option linter.unusedVariables false
set_option linter.unusedSimpArgs false
variable {P : Program} {lim N : Nat} {φ : Loc} {H : Heap} {w : World} {v : Value} {H' : Heap} {ρ ρ' : Fr} {a : Act} {C : CallSem}
def noC : CallSem := fun _ _ _ => none
theorem noC_sound : CSound P noC := fun f args H v H' h => by cases h
theorem noC_len : CLen noC := fun f args H v H' h => by cases h
theorem Er0 (n : Nat) (ops : List RO) (ρ : Fr) (H : Heap) : evalC C n (.region ops) ρ H = regDone (runOps C ops ρ H) := (rfl)
theorem Ed0 (n : Nat) (ops : List DO) (ρ : Fr) (H : Heap) : evalC C n (.draw ops) ρ H = regDone (RD C H 0 ops ρ [] [] [] []) := by
  simp only [evalC, regDone, RD]
  rw [Option.map_map]
  rfl
theorem Es0 (n : Nat) (x y : RCode) (ρ : Fr) (H : Heap) : evalC C n (.seq x y) ρ H = andThen (evalC C n x ρ H) (evalC C n y) := by
  simp only [evalC, andThen]
  cases evalC C n x ρ H with
  | none => rfl
  | some r => obtain ⟨e, ρ1, H1⟩ := r; cases e <;> rfl
theorem list_wp2 (hC : CSound P C) (hL : CLen C) {ops : Array Oper} {Q : Exit → Act → World → Prop} (l2 : List Oper) : ∀ (l : List Oper) (rs : List RO), resolveL P ops N l = some rs → ∀ (ρ : Fr) (H : Heap) (φ : Loc) (a : Act) (w : World) (ρ' : Fr) (H' : Heap), runOps C rs ρ H = some (ρ', H') →
    H'.length ≤ lim → Rel lim φ H w → FR N φ ρ a → (∀ a' w' φ', a'.defers = a.defers → FR N φ' ρ' a' → Rel lim φ' H' w' → Keeps φ H w φ' H' w' → wpList P ops Q l2 a' w') → wpList P ops Q (l ++ l2) a w := by
  intro l
  induction l with
  | nil =>
    intro rs hr ρ H φ a w ρ' H' hs hlim hR hF h
    simp only [resolveL, Option.some.injEq] at hr
    subst hr
    simp only [runOps, Option.some.injEq, Prod.mk.injEq] at hs
    obtain ⟨rfl, rfl⟩ := hs
    exact h a w φ rfl hF hR (Keeps.refl _ _ _)
  | cons o l ih =>
    intro rs hr ρ H φ a w ρ' H' hs hlim hR hF h
    simp only [resolveL] at hr
    split at hr
    · rename_i r rs' h1 h2
      simp only [Option.some.injEq] at hr
      subst hr
      obtain ⟨g1, g2, g3⟩ := resolveRO_op h1
      simp only [runOps] at hs
      simp only [List.cons_append, wpList]
      rw [wanted_ok h1 hF]
      split at hs
      · rename_i hg
        rw [if_pos hg]
        left
        cases hst : stepC C ρ H r.op with
        | none => rw [hst] at hs; cases hs
        | some p =>
          rw [hst] at hs
          simp only [Option.bind_some] at hs
          have hl1 := runOps_len hL _ _ _ _ _ hs
          refine stepC_wp hC g1 (v := p.1) (H' := p.2) hst (by omega) hR hF fun v' w' φ' k1 k2 k3 => ?_
          refine ih rs' h2 _ _ φ' _ w' ρ' H' hs hlim k2 ?_ fun a' w'' φ'' e1 e2 e3 e4 => h a' w'' φ'' (e1.trans (defers_put _ _ _)) e2 e3 (k3.trans e4)
          rw [g2]
          exact (hF.mono k3.ext).put g3 k1
      · rename_i hg
        rw [if_neg hg]
        refine ih rs' h2 _ _ φ _ w ρ' H' hs hlim hR ?_ fun a' w'' φ'' e1 e2 e3 e4 => h a' w'' φ'' (e1.trans (defers_put _ _ _)) e2 e3 e4
        rw [g2]
        exact hF.put g3 (.tuple .nil)
    · cases hr
theorem wp_regionL {id : Nat} {ops : Array Oper} {Q : Exit → Act → World → Prop} (h : wpList P ops Q ops.toList a w) : (Code.region id ops false).wp P Q a w := by
  refine wp_region ?_
  have := wpOps_eq_wpList (P := P) (ops := ops) (Q := Q) ops.toList 0 (fun j => by simp)
  rw [List.range_eq_range']
  have hl : ops.toList.length = ops.size := by simp
  rw [← hl, this]
  exact h
theorem wpList_val {ops : Array Oper} {Q : Exit → Act → World → Prop} {o : Oper} {rest : List Oper} {v : Value} {w' : World} (hg : o.guard = none) (hrun : (execOp a.eval o).run P w = .ok (.value v) w') (h : wpList P ops Q rest (a.put o.dst v) w') : wpList P ops Q (o :: rest) a w := by
  refine wpList_plain hg fun K' hK' => ?_
  unfold Oper.wp
  simp [hrun]
  exact hK' _ _ h
/-- Something beside the plain heap's blocks has turned. -/
theorem Rel.aside {r : Nat} {w' : World} (hR : Rel lim φ H w) (hr : ∀ (i : Nat) (b : Blk) (k : Nat × Nat × Nat), H[i]? = some (some b) → φ i = some k → k.1 ≠ r) (h : ∀ n, n ≠ r → w'.heap[n]? = w.heap[n]?) (hc : ∀ c t, w.heap[r]? ≠ some (.cells c t (0, 0))) : Rel lim φ H w' :=
  ⟨hR.dom, fun i b hb => by obtain ⟨k, e, g⟩ := hR.blk i b hb; exact ⟨k, e, g.mono (Loc.le_refl _) (h k.1 (hr i b k hb e))⟩, hR.inj, hR.sld.mono (Loc.le_refl _) (fun b c t e => by
    by_cases hb : b = r
    · subst hb; exact absurd e (hc c t)
    · exact ⟨c, t, by rw [h b hb]; exact e⟩)⟩
theorem Keeps.aside {φ' : Loc} {w1 w2 : World} {r : Nat} (k : Keeps φ H w φ' H' w1) (hr : w.heap.size ≤ r) (h : ∀ n, n ≠ r → w2.heap[n]? = w1.heap[n]?) (hs : w2.heap.size = w1.heap.size) (os : w2.os = w1.os) (tape : w2.tape = w1.tape) (output : w2.output = w1.output) : Keeps φ H w φ' H' w2 :=
  ⟨os.trans k.os, tape.trans k.tape, output.trans k.output, by rw [hs]; exact k.size, k.ext, k.len, k.same, k.kind, k.own, fun b hb ho => by rw [h b (by omega)]; exact k.old b hb ho⟩
/-- A block of another kind is laid; the plain heap keeps a place for it. -/
theorem Rel.grow (hR : Rel lim φ H w) (hlim : H.length < lim) (o : Obj) :
    Rel lim (φ.add H.length (w.heap.size, 0, 0)) (H ++ [none]) (w.alloc o) ∧ Keeps φ H w (φ.add H.length (w.heap.size, 0, 0)) (H ++ [none]) (w.alloc o) := by
  have hle : Loc.le φ (φ.add H.length (w.heap.size, 0, 0)) := Loc.le_add (hR.dom _ (Nat.le_refl _) hlim)
  have hne : ∀ i, i < H.length → (φ.add H.length (w.heap.size, 0, 0)) i = φ i := fun i hi => by unfold Loc.add; rw [if_neg (by omega)]
  have hcase : ∀ (i : Nat) (b : Blk), (H ++ [none])[i]? = some (some b) → i < H.length ∧ H[i]? = some (some b) := by
    intro i b h
    rcases Nat.lt_trichotomy i H.length with g | g | g
    · rw [List.getElem?_append_left g] at h; exact ⟨g, h⟩
    · subst g; simp at h
    · rw [List.getElem?_eq_none (by simp; omega)] at h; cases h
  refine ⟨⟨fun i hi hil => ?_, fun i b h => ?_, fun i j b c k q h ob g ek eq hkq => ?_, hR.sld.mono hle (fun b c t e => ⟨c, t, ?_⟩)⟩, ⟨rfl, rfl, rfl, by simp, hle, by simp, fun i hi => ?_, fun j c h => ?_, fun j c q h oc e => ?_, fun n hn _ => ?_⟩⟩
  · simp at hi
    unfold Loc.add
    rw [if_neg (by omega)]
    exact hR.dom i (by omega) hil
  · obtain ⟨hi, g⟩ := hcase i b h
    obtain ⟨k, e, q⟩ := hR.blk i b g
    exact ⟨k, by rw [hne i hi]; exact e, q.mono hle (Go.heap_alloc_old w _ (hR.lt g e))⟩
  · obtain ⟨hi, hb⟩ := hcase i b h
    obtain ⟨hj, hc⟩ := hcase j c g
    rw [hne i hi] at ek; rw [hne j hj] at eq
    exact hR.inj i j b c k q hb ob hc ek eq hkq
  · have hb : b < w.heap.size := by
      rcases Nat.lt_or_ge b w.heap.size with g | g
      · exact g
      · rw [Array.getElem?_eq_none g] at e; cases e
    rw [Go.heap_alloc_old w _ hb]; exact e
  · unfold Loc.add; simp at hi; rw [if_neg (by omega)]
  · exact .inr ⟨c, (hcase j c h).2, rfl⟩
  · obtain ⟨hj, hc⟩ := hcase j c h
    rw [hne j hj] at e
    exact .inr ⟨j, c, q, hc, oc, e, rfl⟩
  · exact Go.heap_alloc_old w _ hn
/-- What is forgotten, and places that are kept, do no harm. -/
theorem Rel.pad (r : Rel lim φ H w) (hl : H.length ≤ H'.length) (h : ∀ (i : Nat) (b : Blk), H'[i]? = some (some b) → H[i]? = some (some b)) : Rel lim φ H' w ∧ Keeps φ H w φ H' w :=
  ⟨⟨fun i hi => r.dom i (by omega), fun i b g => r.blk i b (h i b g), fun i j b c k l g o g' ek el e => r.inj i j b c k l (h i b g) o (h j c g') ek el e, r.sld⟩,
   ⟨rfl, rfl, rfl, Nat.le_refl _, Loc.le_refl _, hl, fun _ _ => rfl, fun j c g => .inr ⟨c, h j c g, rfl⟩, fun j c l g o e => .inr ⟨j, c, l, h j c g, o, e, rfl⟩, fun _ _ _ => rfl⟩⟩
/-- A block beside the plain heap stays beside it. -/
theorem Keeps.beside {φ' : Loc} {w' : World} {r : Nat} (k : Keeps φ H w φ' H' w') (hR : Rel lim φ H w) (hr : ∀ (i : Nat) (b : Blk) (l : Nat × Nat × Nat), H[i]? = some (some b) → φ i = some l → l.1 ≠ r) (hlt : r < w.heap.size) :
    (∀ (i : Nat) (b : Blk) (l : Nat × Nat × Nat), H'[i]? = some (some b) → φ' i = some l → l.1 ≠ r) ∧ w'.heap[r]? = w.heap[r]? := by
  refine ⟨fun i b l hb e => ?_, k.old r hlt fun i bl l hb _ e => hr i bl l hb e⟩
  by_cases ho : b.own = true
  · rcases k.own i b l hb ho e with g | ⟨j, c, q, hc, _, eq, hq⟩
    · omega
    · rw [← hq]; exact hr j c q hc eq
  · rcases k.kind i b hb with g | ⟨c, hc, _⟩
    · exact absurd g ho
    · obtain ⟨q, eq, _⟩ := hR.blk i c hc
      have := k.ext i q eq
      rw [e] at this
      cases this
      exact hr i c _ hc eq
theorem EsR.get {q : IntKind} {l : List (Int × Value)} {es : List MapEntry} (h : EsR φ q l es) : ∀ {j : Nat} {e : MapEntry}, es[j]? = some e → ∃ p, l[j]? = some p ∧ e.key = .int q p.1 ∧ VR φ p.2 e.val := by
  induction h with
  | nil => intro j e he; simp at he
  | @cons p e0 l es hk hv hr ih =>
    intro j e he
    cases j with
    | zero => simp at he; subst he; exact ⟨p, rfl, hk, hv⟩
    | succ j => rw [List.getElem?_cons_succ] at he ⊢; exact ih he
theorem EsR.keys {q : IntKind} {l : List (Int × Value)} {es : List MapEntry} (h : EsR φ q l es) : es.map (·.key) = (l.map (·.1)).map (Value.int q) := by
  induction h with
  | nil => rfl
  | cons hk _ _ ih => simp only [List.map_cons, hk, ih]
/-- The entries that have been seen are a cycle older. -/
def doneB (seen : Array Nat) (l : List (Int × Value)) (B : List Nat) : List (Int × Value) := List.zipWith (fun p b => if seen.contains b = true then (p.1, ageW p.2) else p) l B
theorem done_nil : ∀ (l : List (Int × Value)) (B : List Nat), l.length = B.length → doneB #[] l B = l := by
  intro l
  induction l with
  | nil => intro B h; rfl
  | cons p l ih =>
    intro B h
    cases B with
    | nil => simp at h
    | cons b B =>
      have := ih B (by simpa using h)
      unfold doneB at this ⊢
      rw [List.zipWith_cons_cons, this]
      simp
theorem done_keys (seen : Array Nat) : ∀ (l : List (Int × Value)) (B : List Nat), l.length = B.length → (doneB seen l B).map (·.1) = l.map (·.1) := by
  intro l
  induction l with
  | nil => intro B h; rfl
  | cons p l ih =>
    intro B h
    cases B with
    | nil => simp at h
    | cons b B =>
      have := ih B (by simpa using h)
      unfold doneB at this ⊢
      rw [List.zipWith_cons_cons, List.map_cons, List.map_cons, this]
      split <;> rfl
theorem contains_pushG (seen : Array Nat) (b c : Nat) : (seen.push b).contains c = (seen.contains c || b == c) := by
  rw [contains_push]
  congr 1
  exact Bool.beq_comm
theorem done_other (seen : Array Nat) (b : Nat) : ∀ (l : List (Int × Value)) (B : List Nat), b ∉ B → doneB (seen.push b) l B = doneB seen l B := by
  intro l
  induction l with
  | nil => intro B h; rfl
  | cons p l ih =>
    intro B h
    cases B with
    | nil => rfl
    | cons c B =>
      simp only [List.mem_cons, not_or] at h
      have := ih B h.2
      unfold doneB at this ⊢
      rw [List.zipWith_cons_cons, List.zipWith_cons_cons, this, contains_pushG]
      have hb : (b == c) = false := by simpa using h.1
      rw [hb, Bool.or_false]
theorem done_get (seen : Array Nat) : ∀ (l : List (Int × Value)) (B : List Nat) (j : Nat) (p : Int × Value) (b : Nat), (doneB seen l B)[j]? = some p → B[j]? = some b → seen.contains b = false → l[j]? = some p := by
  intro l B j p b h hb hs
  unfold doneB at h
  rw [List.getElem?_zipWith] at h
  split at h
  · rename_i x y hx hy
    rw [hb] at hy; cases hy
    rw [hs] at h
    simp only [Bool.false_eq_true, if_false, Option.some.injEq] at h
    rw [hx, h]
  · cases h
theorem done_step (seen : Array Nat) (x : Int) (u : Value) (b : Nat) (hs : seen.contains b = false) : ∀ (l : List (Int × Value)) (B : List Nat) (j : Nat), l.length = B.length → B.Nodup → (l.map (·.1)).Nodup → l[j]? = some (x, u) → B[j]? = some b →
    putM (doneB seen l B) x (ageW u) = doneB (seen.push b) l B := by
  intro l
  induction l with
  | nil => intro B j _ _ _ h; simp at h
  | cons p l ih =>
    intro B j hlen hB hl hj hb
    cases B with
    | nil => simp at hlen
    | cons c B =>
      obtain ⟨hc, hB⟩ := List.nodup_cons.1 hB
      rw [List.map_cons] at hl
      obtain ⟨hp, hl⟩ := List.nodup_cons.1 hl
      cases j with
      | zero =>
        simp only [List.getElem?_cons_zero, Option.some.injEq] at hj hb
        subst hj hb
        have e1 : doneB seen ((x, u) :: l) (c :: B) = (x, u) :: doneB seen l B := by unfold doneB; rw [List.zipWith_cons_cons, hs]; rfl
        have e2 : doneB (seen.push c) ((x, u) :: l) (c :: B) = (x, ageW u) :: doneB (seen.push c) l B := by
          unfold doneB; rw [List.zipWith_cons_cons, contains_pushG]; simp
        rw [e1, e2, done_other seen c l B hc]
        simp only [putM, if_true]
      | succ j =>
        simp only [List.getElem?_cons_succ] at hj hb
        have hpx : ¬ x = p.1 := fun e => hp (by rw [← e]; exact List.mem_map.2 ⟨(x, u), List.mem_of_getElem? hj, rfl⟩)
        have hbc : ¬ b = c := fun e => hc (by rw [← e]; exact List.mem_of_getElem? hb)
        have ih' := ih B j (by simpa using hlen) hB hl hj hb
        have hcb : (seen.push b).contains c = seen.contains c := by
          rw [contains_pushG]
          have : (b == c) = false := by simpa using hbc
          rw [this, Bool.or_false]
        unfold doneB at ih' ⊢
        rw [List.zipWith_cons_cons, List.zipWith_cons_cons, hcb, ← ih']
        split
        · simp only [putM, hpx, if_false]
        · obtain ⟨y, z⟩ := p
          simp only at hpx
          simp only [putM, hpx, if_false]
theorem done_all (seen : Array Nat) : ∀ (l : List (Int × Value)) (B : List Nat), l.length = B.length → (∀ b ∈ B, seen.contains b = true) → doneB seen l B = ageM l := by
  intro l
  induction l with
  | nil => intro B h _; rfl
  | cons p l ih =>
    intro B h hs
    cases B with
    | nil => simp at h
    | cons b B =>
      have := ih B (by simpa using h) fun c hc => hs c (List.mem_cons_of_mem _ hc)
      unfold doneB ageM at this ⊢
      rw [List.zipWith_cons_cons, this, hs b List.mem_cons_self]
      rfl
/-- How many stamps have not been seen. -/
def leftN (seen : Array Nat) (B : List Nat) : Nat := (B.filter fun b => !seen.contains b).length
theorem leftOf_N (es : Array MapEntry) (seen : Array Nat) : (leftOf es seen).size = leftN seen (es.toList.map (·.born)) := by
  unfold leftOf leftN
  rw [← Array.length_toList, Array.toList_filter, List.filter_map, List.length_map]
  rfl
end Go.Proofs.Ytoknmodbdlfdmaa.Sim
