/- Slices of bytes, and what append does with any slice behind it. -/
import Derived.Test.YtoknmodbdlfdmaaSim23
namespace Go.Proofs.Ytoknmodbdlfdmaa.Sim
open Go
set_option linter.unusedVariables false
set_option linter.unusedSimpArgs false
/-- A slice of bytes: what they are. -/
def BS (H : Heap) (v : Value) (A : List Int) : Prop := (A = [] ∧ ∃ e, v = .slice none 0 e) ∨ ∃ i o e ow ty cells, v = .slice (some ⟨i, o, none⟩) A.length e ∧ live H i = some ⟨ow, ty, cells⟩ ∧ o + A.length ≤ cells.length ∧ ∀ j a, A[j]? = some a → cells[o + j]? = some (.int .u8 a)
theorem BS.mono {H G : Heap} {v : Value} {A : List Int} (h : BS H v A) (k : ∀ (i : Nat) (b : Blk), live H i = some b → live G i = some b) : BS G v A := by
  rcases h with h | ⟨i, o, e, ow, ty, cells, h1, h2, h3⟩
  · exact .inl h
  · exact .inr ⟨i, o, e, ow, ty, cells, h1, k _ _ h2, h3⟩
theorem BS.more {H : Heap} {v : Value} {A : List Int} (h : BS H v A) (X : Heap) : BS (H ++ X) v A := h.mono fun i b e => (Ext.more H X).live e
theorem BS.ext {H G : Heap} {v : Value} {A : List Int} (h : BS H v A) (e : Ext H G) : BS G v A := h.mono fun i b x => e.live x
theorem BS.len {H : Heap} {v : Value} {A : List Int} (h : BS H v A) : lenV false v = some (.int .i64 A.length) := by
  rcases h with ⟨rfl, e, rfl⟩ | ⟨i, o, e, ow, ty, cells, rfl, _, _, _⟩ <;> rfl
theorem BS.idx {H : Heap} {v : Value} {A : List Int} (h : BS H v A) {j : Nat} {a : Int} (ha : A[j]? = some a) : ∃ i o, idxSV 1 v (.int .i64 j) = some (.pointer (some ⟨i, o, none⟩)) ∧ ∃ ow ty cells, live H i = some ⟨ow, ty, cells⟩ ∧ cells[o]? = some (.int .u8 a) := by
  rcases h with ⟨rfl, e, rfl⟩ | ⟨i, o, e, ow, ty, cells, rfl, h2, hle, h3⟩
  · simp at ha
  · have hj : j < A.length := by
      rcases Nat.lt_or_ge j A.length with q | q
      · exact q
      · rw [List.getElem?_eq_none q] at ha; cases ha
    exact ⟨i, o + j, by rw [idxS_s _ _ _ _ _ _ _ (by omega) (by omega)]; simp, ow, ty, cells, h2, h3 j a ha⟩
theorem BS.one {H : Heap} {v : Value} {A : List Int} (h : BS H v A) : v.oneCell' = true ∧ v.cells.toList = [v] := by
  rcases h with ⟨rfl, e, rfl⟩ | ⟨i, o, e, ow, ty, cells, rfl, _, _, _⟩ <;> exact ⟨rfl, rfl⟩
theorem BS.nil (H : Heap) (e : Nat) : BS H (.slice none 0 e) [] := .inl ⟨rfl, e, rfl⟩
def bL (l : List Int) : List Value := l.map (Value.int .u8)
theorem bL_len (l : List Int) : (bL l).length = l.length := by simp [bL]
theorem bL_app (l m : List Int) : bL (l ++ m) = bL l ++ bL m := by simp [bL]
theorem bL_one (l : List Int) : (bL l).all Value.oneCell' = true := by
  rw [List.all_eq_true]; intro x hx; obtain ⟨a, _, rfl⟩ := List.mem_map.1 hx; rfl
theorem BS.of {H : Heap} {c : Nat} {ow : Bool} {ty : TypeId} {A : List Int} {e : Nat} (h : live H c = some ⟨ow, ty, bL A⟩) : BS H (.slice (some ⟨c, 0, none⟩) A.length e) A :=
  .inr ⟨c, 0, e, ow, ty, bL A, rfl, h, by rw [bL_len]; omega, fun j a ha => by rw [Nat.zero_add]; unfold bL; rw [List.getElem?_map, ha]; rfl⟩
theorem BS.cells {H : Heap} {v : Value} {A : List Int} (h : BS H v A) : sliceCells H 1 v = some (bL A) ∧ sliceLen v = A.length := by
  rcases h with ⟨rfl, e, rfl⟩ | ⟨i, o, e, ow, ty, cells, rfl, h2, hl, h3⟩
  · exact ⟨rfl, rfl⟩
  · refine ⟨?_, rfl⟩
    simp only [sliceCells]
    rw [h2]
    simp only [Option.bind_some, Nat.mul_one]
    rw [if_pos hl]
    congr 1
    apply List.ext_getElem?
    intro j
    unfold bL
    rw [List.getElem?_take, List.getElem?_drop, List.getElem?_map]
    by_cases hj : j < A.length
    · rw [if_pos hj, h3 j A[j] (List.getElem?_eq_getElem hj), List.getElem?_eq_getElem hj]; rfl
    · rw [if_neg hj, List.getElem?_eq_none (by omega)]; rfl
theorem bound_nat (d : Nat) (k : IntKind) (n : Nat) : boundV d (some (.int k (n : Int))) = some n := by
  simp [boundV]
/-- A part of a slice of bytes. -/
theorem BS.cut {H : Heap} {v : Value} {A : List Int} (h : BS H v A) {lo hi : Option Value} {l r : Nat} (hlo : boundV 0 lo = some l) (hhi : boundV A.length hi = some r) (h1 : l ≤ r) (h2 : r ≤ A.length) :
    ∃ v', sliceV 1 v lo hi = some v' ∧ BS H v' ((A.take r).drop l) := by
  rcases h with ⟨rfl, e, rfl⟩ | ⟨i, o, e, ow, ty, cells, rfl, h3, hle, h4⟩
  · simp only [List.length_nil] at hhi h2
    have hr : r = 0 := by omega
    subst hr
    have hl : l = 0 := by omega
    subst hl
    refine ⟨.slice none 0 e, ?_, .inl ⟨by simp, e, rfl⟩⟩
    cases e with
    | zero => simp only [sliceV, hlo, hhi, Option.bind_some]; rfl
    | succ e => simp only [sliceV, hlo, hhi, Option.bind_some]; rfl
  · by_cases hc : l < r ∨ l = 0 ∧ l ≤ r
    · refine ⟨.slice (some ⟨i, o + l * 1, none⟩) (r - l) e, ?_, .inr ⟨i, o + l * 1, e, ow, ty, cells, ?_, h3, ?_, fun j a ha => ?_⟩⟩
      · simp only [sliceV, hlo, hhi, Option.bind_some]
        exact if_pos ⟨h2, hc⟩
      · rw [List.length_drop, List.length_take, Nat.min_eq_left h2]
      · rw [List.length_drop, List.length_take]; omega
      · rw [List.getElem?_drop, List.getElem?_take] at ha
        split at ha
        · rw [← h4 (l + j) a ha]; congr 1; omega
        · cases ha
    · have : l = r := by omega
      subst this
      refine ⟨.slice none 0 1, ?_, .inl ⟨?_, 1, rfl⟩⟩
      · simp only [sliceV, hlo, hhi, Option.bind_some]
        rw [if_neg (fun h => hc h.2)]; exact if_pos ⟨trivial, h2⟩
      · rw [List.drop_eq_nil_of_le (by rw [List.length_take]; omega)]
/-- Behind an append of any slice. -/
theorem SM.appendX {ty esz bytes : Nat} {H G F : Heap} {v : Value} {n : Nat} {cells : List Value} (h : SM ty esz H G v n cells) (hG : Ext H G) (hF : Ext G F) {x : Value} {m : Nat} {new : List Value} (hx : sliceCells F esz x = some new) (hm : sliceLen x = m) (hl : new.length = m * esz) (hb : (n + m) * bytes ≤ 140737488355328) (h1 : new.all Value.oneCell' = true) :
    ∃ v' F', appendV ty esz bytes F v x = some (v', F') ∧ SM ty esz H F' v' (n + m) (cells ++ new) ∧ Ext H F' ∧ (∀ i b, ¬ owns v i → live F i = some b → live F' i = some b) ∧ (∀ i, i < F.length → ¬ owns v i → ¬ owns v' i) ∧ F.length ≤ F'.length := by
  subst hm
  by_cases hz : sliceLen x = 0
  · have hnew : new = [] := List.eq_nil_of_length_eq_zero (by rw [hl, hz, Nat.zero_mul])
    subst hnew
    refine ⟨v, F, ?_, by rw [hz, List.append_nil]; exact h.ext hF, hG.trans hF, fun i b _ hb => hb, fun i _ ho => ho, Nat.le_refl _⟩
    rcases h with ⟨rfl, rfl, _⟩ | ⟨c, _, rfl, _, _⟩
    · simp only [appendV, hx, Option.bind_some]; rw [if_pos hz]
    · simp only [appendV, hx, Option.bind_some]; rw [if_pos hz]
  · rcases h with ⟨rfl, rfl, rfl⟩ | ⟨c, h2, rfl, h3, h4⟩
    · refine ⟨.slice (some ⟨F.length, 0, none⟩) (sliceLen x) esz, F ++ [some ⟨true, ty, new⟩], ?_, .inr ⟨F.length, (hG.trans hF).le, by rw [Nat.zero_add], (live_app_len _ _).trans rfl, by simpa using hl⟩, (hG.trans hF).app _, fun i b _ hb => (Ext.more _ _).live hb, fun i hi _ hq => ?_, by simp⟩
      · simp only [appendV, hx, Option.bind_some]
        rw [if_neg hz, if_pos (by rw [Nat.zero_add] at hb; exact hb)]
      · obtain ⟨n, e, h⟩ := hq; injection h with h _ _; injection h with h; injection h with h; omega
    · have h3' := hF.live h3
      have ic := live_ltG h3'
      refine ⟨.slice (some ⟨F.length, 0, none⟩) (n + sliceLen x) esz, F.set c none ++ [some ⟨true, ty, cells ++ new⟩], ?_, .inr ⟨F.length, (hG.trans hF).le, rfl, ?_, ?_⟩, ((hG.trans hF).set h2 none).app _, fun i b ho hb => ?_, fun i hi _ hq => ?_, by simp⟩
      · simp only [appendV, hx, Option.bind_some]
        rw [if_neg hz, h3', Option.bind_some]
        exact if_pos ⟨rfl, rfl, trivial, h4, hb, h1⟩
      · rw [show F.length = (F.set c none).length by simp]
        exact (live_app_len _ _).trans rfl
      · rw [List.length_append, h4, hl, Nat.add_mul]
      · exact (Ext.more _ _).live (live_put hb (fun e => ho ⟨n, esz, by rw [e]⟩) none)
      · obtain ⟨n, e, h⟩ := hq; injection h with h _ _; injection h with h; injection h with h; omega
theorem SM.putlt {ty esz : Nat} {H G : Heap} {v : Value} {n : Nat} {cells : List Value} (h : SM ty esz H G v n cells) {p : Nat} (hp : p < H.length) (y : Option Blk) : SM ty esz H (G.set p y) v n cells := by
  rcases h with h | ⟨c, h1, h2, h3, h4⟩
  · exact .inl h
  · exact .inr ⟨c, h1, h2, live_put h3 (by omega) y, h4⟩
theorem SM.BS {H G : Heap} {v : Value} {A : List Int} (h : SM 5 1 H G v A.length (bL A)) : Sim.BS G v A := by
  rcases h with ⟨h1, rfl, _⟩ | ⟨c, _, rfl, h3, _⟩
  · rw [List.eq_nil_of_length_eq_zero h1]; exact BS.nil _ _
  · exact BS.of h3
end Go.Proofs.Ytoknmodbdlfdmaa.Sim
