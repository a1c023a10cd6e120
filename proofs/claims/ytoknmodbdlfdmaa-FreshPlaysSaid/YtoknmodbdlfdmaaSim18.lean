/- From a run over the plain heap to the model's call: numbers, and slices that came in. -/
import Derived.Test.YtoknmodbdlfdmaaSim17
namespace Go.Proofs.Ytoknmodbdlfdmaa.Sim
open Go Go.RowKit
set_option linter.unusedVariables false
set_option linter.unusedSimpArgs false
variable {P : Program} {hs : Nat → Hints}
theorem end_of [Known P] (hm : P.follows .mixedOrders = true) {f : FuncId} {args : List Value} {H : Heap} {H' : Heap} (h : D P hs f args H = some (.bool true, H')) {φ : Loc} {w : World} {args' : List Value} (hR : ∀ lim, Rel lim φ H w) (hro : ∀ (i : Nat) (b : Blk), H[i]? = some (some b) → b.own = false) (ha : VRs φ args args') :
    Calls P f ⟨args'⟩ w fun e w' => e = .returned (.bool true) ∧ Below w.heap.size w w' := by
  refine (D_sound hm h (hR _) ha).mono ?_
  rintro e w' ⟨v', φ', rfl, h1, h2, h3⟩
  rw [bool_inv h1]
  exact ⟨rfl, h3.below fun i b h o => by rw [hro i b h] at o; cases o⟩
/-- A loop that goes round so often, and then leaves. -/
theorem loop_inv {b : RCode} {id : Nat} (I : Nat → Fr → Heap → Prop) (J : Fr → Heap → Prop) (N : Nat) (hstep : ∀ k ρ H, k < N → I k ρ H → ∃ ρ' H', E P hs b ρ H = some (.normal, ρ', H') ∧ I (k + 1) ρ' H')
    (hlast : ∀ ρ H, I N ρ H → ∃ ρ' H', E P hs b ρ H = some (.exit id, ρ', H') ∧ J ρ' H') (ρ : Fr) (H : Heap) (h0 : I 0 ρ H) : ∃ ρ' H', E P hs (.loop b) ρ H = some (.exit id, ρ', H') ∧ J ρ' H' := by
  have key : ∀ (d k : Nat), k + d = N → ∀ ρ H, I k ρ H → ∃ ρ' H', E P hs (.loop b) ρ H = some (.exit id, ρ', H') ∧ J ρ' H' := by
    intro d
    induction d with
    | zero =>
      intro k hk ρ H h
      have : k = N := by omega
      subst this
      obtain ⟨ρ', H', h1, h2⟩ := hlast ρ H h
      exact ⟨ρ', H', by rw [El, h1, andThen_x], h2⟩
    | succ d ih =>
      intro k hk ρ H h
      obtain ⟨ρ1, H1, h1, h2⟩ := hstep k ρ H (by omega) h
      obtain ⟨ρ', H', h3, h4⟩ := ih (k + 1) (by omega) ρ1 H1 h2
      exact ⟨ρ', H', by rw [El, h1, andThen_n, h3], h4⟩
  exact key N 0 (by omega) ρ H h0
def Ok (o : Option (Value × Heap)) : Prop := ∃ H', o = some (.bool true, H')
theorem Ok.mk (H : Heap) : Ok (some (.bool true, H)) := ⟨H, rfl⟩
theorem cut_loop {b : RCode} {id : Nat} {rs : List RRes} {ρ : Fr} {H : Heap} {k : Fr → Heap → Option (Ex × Fr × Heap)} (I : Fr → Heap → Prop) (J : Fr → Heap → Prop) (hI : I ρ H)
    (hl : ∀ ρ H, I ρ H → ∃ ρ' H', E P hs (.loop b) ρ H = some (.exit id, ρ', H') ∧ J ρ' H') (hk : ∀ ρ' H', J ρ' H' → Ok (done rs (k ρ' H'))) : Ok (done rs (andThen (blk id (E P hs (.loop b) ρ H)) k)) := by
  obtain ⟨ρ', H', h1, h2⟩ := hl ρ H hI
  rw [h1, blk_x, if_pos rfl, andThen_n]
  exact hk ρ' H' h2
/-- A call whose outcome is known in part. -/
theorem cut_call {Q : Option (Value × Heap) → Prop} {f : FuncId} {args : List Value} {G : Heap} {rs : List RRes} {k1 : Value → Heap → Option (Fr × Heap)} {k2 : Fr → Heap → Option (Ex × Fr × Heap)} (J : Value → Heap → Prop)
    (h : ∃ v G', D P hs f args G = some (v, G') ∧ J v G') (hk : ∀ v G', J v G' → Q (done rs (andThen (regDone (k1 v G')) k2))) : Q (done rs (andThen (regDone (opThen (D P hs f args G) k1)) k2)) := by
  obtain ⟨v, G', h1, h2⟩ := h
  rw [h1, opThen_s]
  exact hk v G' h2
def OkOn (H : Heap) (o : Option (Value × Heap)) : Prop := ∃ X, o = some (.bool true, H ++ X)
theorem Rel.nil (lim : Nat) (w : World) (hg : gl = []) : Rel lim (fun _ => none) [] w :=
  ⟨fun _ _ _ => rfl, fun i b h => by simp at h, fun i j b c k l h => by simp at h, ⟨fun i g h => by rw [hg] at h; simp at h, fun i h => by rw [hg] at h; simp at h, fun i j k l h => by rw [hg] at h; simp at h⟩⟩
/-- Cells that lie one behind another are a row. -/
theorem row_of_cells {w : World} {ad : Addr} {n : Nat} {f : Nat → Value} (hn : 0 < n) (h : ∀ i, i < n → w.cell? (ad.add i) = some (f i)) :
    ad.spot = none ∧ ∃ pre rest ty fz, w.heap[ad.block]? = some (.cells ⟨pre ++ ((List.range n).map f ++ rest)⟩ ty fz) ∧ pre.length = ad.off := by
  obtain ⟨b, o, s⟩ := ad
  have h0 := h 0 hn
  have hs : s = none := by
    have : (⟨b, o, s⟩ : Addr).add 0 = ⟨b, o, s⟩ := rfl
    rw [this] at h0
    unfold World.cell? at h0
    split at h0
    · simp only at h0
      cases s with
      | none => rfl
      | some x => simp at h0
    · cases h0
  subst hs
  refine ⟨rfl, ?_⟩
  have hc : ∀ i, i < n → w.cell? ⟨b, o + i, none⟩ = some (f i) := fun i hi => by rw [← add_off]; exact h i hi
  cases hb : w.heap[b]? with
  | none => have := hc 0 hn; unfold World.cell? at this; simp [hb] at this
  | some ob =>
    have hcells : ∃ c ty fz, ob = .cells c ty fz := by
      have := hc 0 hn
      unfold World.cell? at this
      simp only [hb] at this
      cases ob <;> first | exact ⟨_, _, _, rfl⟩ | (simp at this)
    obtain ⟨c, ty, fz, rfl⟩ := hcells
    have hcc : ∀ i, i < n → c.toList[o + i]? = some (f i) := fun i hi => by
      have := hc i hi
      rw [cell_of_row w b _ _ _ _ hb] at this
      simpa using this
    have hlen : o + n ≤ c.toList.length := by
      have := hcc (n - 1) (by omega)
      rcases Nat.lt_or_ge (o + (n - 1)) c.toList.length with g | g
      · omega
      · rw [List.getElem?_eq_none g] at this; cases this
    refine ⟨c.toList.take o, c.toList.drop (o + n), ty, fz, ?_, by simp at hlen ⊢; omega⟩
    have e : (⟨c.toList.take o ++ ((List.range n).map f ++ c.toList.drop (o + n))⟩ : Array Value) = c := by
      apply Array.ext'
      show c.toList.take o ++ ((List.range n).map f ++ c.toList.drop (o + n)) = c.toList
      have hm : (List.range n).map f = (c.toList.drop o).take n := by
        apply List.ext_getElem?
        intro i
        rw [List.getElem?_map, List.getElem?_take, List.getElem?_drop]
        by_cases hi : i < n
        · rw [if_pos hi, hcc i hi, List.getElem?_range hi]; rfl
        · rw [if_neg hi, List.getElem?_eq_none (by simp; omega)]; rfl
      rw [hm]
      have : c.toList.drop (o + n) = (c.toList.drop o).drop n := by rw [List.drop_drop]
      rw [this, List.take_append_drop, List.take_append_drop]
    rw [e]
/-- A slice that came in, as the plain heap has it. -/
def argV (i n x : Nat) : Value := if n = 0 then .slice none 0 x else .slice (some ⟨i, 0, none⟩) n 0
def argB (ty : TypeId) (cells : List Value) : Option Blk := if cells.length = 0 then none else some ⟨false, ty, cells⟩
structure Ins (φ : Loc) (H : Heap) (w : World) : Prop where
  rel : ∀ lim, Rel lim φ H w
  ro : ∀ (i : Nat) (b : Blk), H[i]? = some (some b) → b.own = false
theorem Ins.nil (w : World) (hg : gl = [] := by rfl) : Ins (fun _ => none) [] w := ⟨fun lim => Rel.nil lim w hg, fun i b h => by simp at h⟩
theorem Ins.add {φ : Loc} {H : Heap} {w : World} (h : Ins φ H w) {α : Type} (l : List α) (f : α → Value) (d : α) (hf : ∀ x, plainB (f x) = true) {A : Option Addr} {c : Nat}
    (hr : ∀ i, i < l.length → ∃ ad, A = some ad ∧ w.cell? (ad.add i) = some (f (l.getD i d))) (hc : l.length ≤ c) (hz : A = none → c = 0) :
    ∃ φ' ty x, Ins φ' (H ++ [argB ty (l.map f)]) w ∧ Loc.le φ φ' ∧ VR φ' (argV H.length l.length x) (.slice A l.length c) := by
  have hdom : ∀ i, H.length ≤ i → φ i = none := fun i hi => (h.rel (i + 1)).dom i hi (by omega)
  by_cases hn : l.length = 0
  · have hl : l = [] := List.eq_nil_of_length_eq_zero hn
    subst hl
    have hcase : ∀ (i : Nat) (b : Blk), (H ++ [argB 0 (([] : List α).map f)])[i]? = some (some b) → H[i]? = some (some b) := by
      intro i b hi
      rcases Nat.lt_or_ge i H.length with g | g
      · rw [List.getElem?_append_left g] at hi; exact hi
      · rw [List.getElem?_append_right g] at hi
        cases hq : i - H.length with
        | zero => rw [hq] at hi; simp [argB] at hi
        | succ k => rw [hq] at hi; simp at hi
    have hins : Ins φ (H ++ [argB 0 (([] : List α).map f)]) w := ⟨fun lim => ⟨fun i hi hl => hdom i (by simp at hi; omega), fun i b hi => (h.rel lim).blk i b (hcase i b hi), fun i j b c k l hi o hj => (h.rel lim).inj i j b c k l (hcase i b hi) o (hcase j c hj), (h.rel lim).sld⟩, fun i b hi => h.ro i b (hcase i b hi)⟩
    cases A with
    | none =>
      rw [hz rfl]
      exact ⟨φ, 0, 0, hins, Loc.le_refl _, .sliceNil⟩
    | some ad => exact ⟨φ, 0, 1, hins, Loc.le_refl _, .sliceE⟩
  · have hn0 : 0 < l.length := by omega
    obtain ⟨ad, rfl, _⟩ := hr 0 hn0
    obtain ⟨hs, pre, rest, ty, fz, hb, hpre⟩ := row_of_cells (w := w) (ad := ad) (f := fun i => f (l.getD i d)) hn0 fun i hi => by
      obtain ⟨ad', e, h1⟩ := hr i hi
      cases e; exact h1
    have hmap : (List.range l.length).map (fun i => f (l.getD i d)) = l.map f := by
      apply List.ext_getElem?
      intro i
      rw [List.getElem?_map, List.getElem?_map]
      by_cases hi : i < l.length
      · rw [List.getElem?_range hi]; simp [List.getD_eq_getElem?_getD, hi]
      · rw [List.getElem?_eq_none (by simp; omega), List.getElem?_eq_none (by omega)]; rfl
    rw [hmap] at hb
    have hB : argB ty (l.map f) = some ⟨false, ty, l.map f⟩ := by unfold argB; rw [if_neg (by simpa using hn)]
    have hle : Loc.le φ (φ.add H.length (ad.block, (l.map f ++ rest).length, ad.off)) := Loc.le_add (hdom _ (Nat.le_refl _))
    have hnew : (φ.add H.length (ad.block, (l.map f ++ rest).length, ad.off)) H.length = some (ad.block, (l.map f ++ rest).length, ad.off) := by unfold Loc.add; rw [if_pos rfl]
    have hne : ∀ j, j < H.length → (φ.add H.length (ad.block, (l.map f ++ rest).length, ad.off)) j = φ j := fun j hj => by unfold Loc.add; rw [if_neg (by omega)]
    have hcase : ∀ (i : Nat) (b : Blk), (H ++ [argB ty (l.map f)])[i]? = some (some b) → (i < H.length ∧ H[i]? = some (some b)) ∨ (i = H.length ∧ b = ⟨false, ty, l.map f⟩) := by
      intro i b hi
      rcases Nat.lt_trichotomy i H.length with g | g | g
      · rw [List.getElem?_append_left g] at hi; exact .inl ⟨g, hi⟩
      · subst g; rw [hB] at hi; simp at hi; exact .inr ⟨rfl, hi.symm⟩
      · rw [List.getElem?_eq_none (by simp; omega)] at hi; cases hi
    have hro : ∀ (i : Nat) (b : Blk), (H ++ [argB ty (l.map f)])[i]? = some (some b) → b.own = false := by
      intro i b hi
      rcases hcase i b hi with ⟨_, g⟩ | ⟨_, rfl⟩
      · exact h.ro i b g
      · rfl
    have hplain : VRs (φ.add H.length (ad.block, (l.map f ++ rest).length, ad.off)) (l.map f) (l.map f) := VRs.plain (by rw [List.all_eq_true]; intro y hy; obtain ⟨x, _, rfl⟩ := List.mem_map.1 hy; exact hf x)
    refine ⟨_, ty, 0, ⟨fun lim => ⟨fun i hi hl => ?_, fun i b hi => ?_, fun i j b c k q hi o => ?_, (h.rel lim).sld.mono hle (fun b c t e => ⟨c, t, e⟩)⟩, hro⟩, hle, ?_⟩
    · simp at hi; unfold Loc.add; rw [if_neg (by omega)]; exact hdom i (by omega)
    · rcases hcase i b hi with ⟨g, hg⟩ | ⟨rfl, rfl⟩
      · obtain ⟨k, ek, hh⟩ := (h.rel lim).blk i b hg
        exact ⟨k, by rw [hne i g]; exact ek, hh.mono hle rfl⟩
      · exact ⟨_, hnew, .inl ⟨rfl, pre, l.map f, rest, fz, hb, (fun h => by cases h), hplain, rfl, hpre⟩⟩
    · rw [hro i b hi] at o; cases o
    · unfold argV
      rw [if_neg hn]
      obtain ⟨ab, ao, as⟩ := ad
      simp only at hs
      subst hs
      refine VR.slice (k := (ab, (l.map f ++ rest).length, ao)) (off := 0) hnew hc (fun _ => by simp)
end Go.Proofs.Ytoknmodbdlfdmaa.Sim
