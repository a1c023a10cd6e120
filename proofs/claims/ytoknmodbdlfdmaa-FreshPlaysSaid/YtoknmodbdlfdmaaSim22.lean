/- Heaps that grow, and slices that are made here: what append does to them, in one word. -/
import Derived.Test.YtoknmodbdlfdmaaSim19
namespace Go.Proofs.Ytoknmodbdlfdmaa.Sim
open Go
set_option linter.unusedVariables false
set_option linter.unusedSimpArgs false
def Ext (H G : Heap) : Prop := ∃ X, G = H ++ X
theorem Ext.refl (H : Heap) : Ext H H := ⟨[], by simp⟩
theorem Ext.more (H X : Heap) : Ext H (H ++ X) := ⟨X, rfl⟩
theorem Ext.trans {H G F : Heap} (h : Ext H G) (g : Ext G F) : Ext H F := by
  obtain ⟨X, rfl⟩ := h
  obtain ⟨Y, rfl⟩ := g
  exact ⟨X ++ Y, by simp⟩
theorem Ext.app {H G : Heap} (h : Ext H G) (Y : Heap) : Ext H (G ++ Y) := h.trans (Ext.more G Y)
theorem Ext.set {H G : Heap} (h : Ext H G) {i : Nat} (hi : H.length ≤ i) (y : Option Blk) : Ext H (G.set i y) := by
  obtain ⟨X, rfl⟩ := h
  exact ⟨X.set (i - H.length) y, by rw [List.set_append_right _ _ hi]⟩
theorem Ext.le {H G : Heap} (h : Ext H G) : H.length ≤ G.length := by
  obtain ⟨X, rfl⟩ := h
  simp
theorem live_ltG {H : Heap} {i : Nat} {b : Blk} (h : live H i = some b) : i < H.length := by
  rcases Nat.lt_or_ge i H.length with g | g
  · exact g
  · unfold live at h; rw [List.getElem?_eq_none g] at h; cases h
theorem Ext.live {H G : Heap} (h : Ext H G) {i : Nat} {b : Blk} (hb : live H i = some b) : Sim.live G i = some b := by
  obtain ⟨X, rfl⟩ := h
  rw [live_app _ _ _ (live_ltG hb)]; exact hb
theorem live_put {G : Heap} {p e : Nat} {B : Blk} (he : live G e = some B) (hne : p ≠ e) (y : Option Blk) : live (G.set p y) e = some B := by rw [live_set_ne _ _ _ _ hne]; exact he
/-- A slice that was made behind a heap, with its cells. -/
def SM (ty esz : Nat) (H G : Heap) (v : Value) (n : Nat) (cells : List Value) : Prop :=
  (n = 0 ∧ v = .slice none 0 0 ∧ cells = []) ∨ ∃ c, H.length ≤ c ∧ v = .slice (some ⟨c, 0, none⟩) n esz ∧ live G c = some ⟨true, ty, cells⟩ ∧ cells.length = n * esz
theorem SM.nil (ty esz : Nat) (H G : Heap) : SM ty esz H G (.slice none 0 0) 0 [] := .inl ⟨rfl, rfl, rfl⟩
theorem SM.ext {ty esz : Nat} {H G F : Heap} {v : Value} {n : Nat} {cells : List Value} (h : SM ty esz H G v n cells) (e : Ext G F) : SM ty esz H F v n cells := by
  rcases h with h | ⟨c, h1, h2, h3, h4⟩
  · exact .inl h
  · exact .inr ⟨c, h1, h2, e.live h3, h4⟩
theorem SM.len {ty esz : Nat} {H G : Heap} {v : Value} {n : Nat} {cells : List Value} (h : SM ty esz H G v n cells) : lenV false v = some (.int .i64 n) := by
  rcases h with ⟨rfl, rfl, _⟩ | ⟨c, _, rfl, _⟩ <;> rfl
theorem SM.one {ty esz : Nat} {H G : Heap} {v : Value} {n : Nat} {cells : List Value} (h : SM ty esz H G v n cells) : v.oneCell' = true ∧ v.cells.toList = [v] := by
  rcases h with ⟨rfl, rfl, _⟩ | ⟨c, _, rfl, _⟩ <;> exact ⟨rfl, rfl⟩
theorem SM.size {ty esz : Nat} {H G : Heap} {v : Value} {n : Nat} {cells : List Value} (h : SM ty esz H G v n cells) : cells.length = n * esz := by
  rcases h with ⟨rfl, _, rfl⟩ | ⟨c, _, _, _, h⟩
  · simp
  · exact h
/-- Is a block this slice's own? -/
def owns (v : Value) (j : Nat) : Prop := ∃ n e, v = .slice (some ⟨j, 0, none⟩) n e
theorem SM.put {ty esz : Nat} {H G : Heap} {v : Value} {n : Nat} {cells : List Value} (h : SM ty esz H G v n cells) {p : Nat} (hp : ¬ owns v p) (y : Option Blk) : SM ty esz H (G.set p y) v n cells := by
  rcases h with h | ⟨c, h1, h2, h3, h4⟩
  · exact .inl h
  · exact .inr ⟨c, h1, h2, live_put h3 (fun e => hp ⟨n, esz, by rw [h2, e]⟩) y, h4⟩
theorem append_nilG {ty esz bytes : Nat} {H : Heap} {i n e t : Nat} {o : Bool} {cs : List Value} (h : live H i = some ⟨o, t, cs⟩) (hn : 0 < n) (hl : n * esz ≤ cs.length) (hb : n * bytes ≤ 140737488355328) :
    appendV ty esz bytes H (.slice none 0 0) (.slice (some ⟨i, 0, none⟩) n e) = some (.slice (some ⟨H.length, 0, none⟩) n esz, H ++ [some ⟨true, ty, cs.take (n * esz)⟩]) := by
  unfold appendV
  simp only [sliceCells, h, Option.bind_some]
  rw [if_pos (by omega), Option.bind_some]
  refine (if_neg (show ¬ n = 0 by omega)).trans ((if_pos hb).trans ?_)
  simp only [List.drop_zero]
  rfl
theorem append_consG {ty esz bytes : Nat} {H : Heap} {i n e j m t : Nat} {o : Bool} {cs ds : List Value} (hi : live H i = some ⟨true, ty, ds⟩) (hd : ds.length = n * esz) (h : live H j = some ⟨o, t, cs⟩) (hm : 0 < m) (hl : m * esz ≤ cs.length) (hb : (n + m) * bytes ≤ 140737488355328)
    (h1 : (cs.take (m * esz)).all Value.oneCell' = true) :
    appendV ty esz bytes H (.slice (some ⟨i, 0, none⟩) n esz) (.slice (some ⟨j, 0, none⟩) m e) = some (.slice (some ⟨H.length, 0, none⟩) (n + m) esz, H.set i none ++ [some ⟨true, ty, ds ++ cs.take (m * esz)⟩]) := by
  unfold appendV
  simp only [sliceCells, h, Option.bind_some]
  rw [if_pos (by omega), Option.bind_some]
  refine (if_neg (show ¬ m = 0 by omega)).trans ?_
  rw [hi, Option.bind_some]
  simp only [List.drop_zero]
  exact if_pos ⟨trivial, trivial, trivial, hd, hb, h1⟩
/-- Behind an append: the slice with more cells, and all else as it was. -/
theorem SM.append {ty esz bytes : Nat} {H G F : Heap} {v : Value} {n : Nat} {cells : List Value} (h : SM ty esz H G v n cells) (hG : Ext H G) (hF : Ext G F) {j m e t : Nat} {o : Bool} {cs : List Value} (hj : live F j = some ⟨o, t, cs⟩) (hm : 0 < m) (hl : cs.length = m * esz) (hb : (n + m) * bytes ≤ 140737488355328) (h1 : cs.all Value.oneCell' = true) :
    ∃ v' F', appendV ty esz bytes F v (.slice (some ⟨j, 0, none⟩) m e) = some (v', F') ∧ SM ty esz H F' v' (n + m) (cells ++ cs) ∧ Ext H F' ∧ (∀ i b, ¬ owns v i → live F i = some b → live F' i = some b) ∧ (∀ i, i < F.length → ¬ owns v' i) ∧ F.length ≤ F'.length := by
  have htk : cs.take (m * esz) = cs := List.take_of_length_le (by omega)
  rcases h with ⟨rfl, rfl, rfl⟩ | ⟨c, h2, rfl, h3, h4⟩
  · refine ⟨_, _, append_nilG hj hm (by omega) (by rw [Nat.zero_add] at hb; exact hb), .inr ⟨F.length, (hG.trans hF).le, by rw [Nat.zero_add], (live_app_len _ _).trans ?_, by simpa using hl⟩, (hG.trans hF).app _, fun i b _ hb => (Ext.more _ _).live hb, fun i hi hq => ?_, by simp⟩
    · rw [htk]; rfl
    · obtain ⟨n, e, h⟩ := hq; injection h with h _ _; injection h with h; injection h with h; omega
  · have h3' := hF.live h3
    have ic := live_ltG h3'
    refine ⟨_, _, append_consG h3' h4 hj hm (by omega) hb (by rw [htk]; exact h1), .inr ⟨F.length, (hG.trans hF).le, rfl, ?_, ?_⟩, ((hG.trans hF).set h2 none).app _, fun i b ho hb => ?_, fun i hi hq => ?_, by simp⟩
    · rw [htk, show F.length = (F.set c none).length by simp]
      exact (live_app_len _ _).trans rfl
    · rw [List.length_append, h4, hl, Nat.add_mul]
    · exact (Ext.more _ _).live (live_put hb (fun e => ho ⟨n, esz, by rw [e]⟩) none)
    · obtain ⟨n, e, h⟩ := hq; injection h with h _ _; injection h with h; injection h with h; omega
theorem fullOf_appG (H0 : Heap) (a b : List (Nat × Option Blk)) : fullOf H0 (a ++ b) = fullOf (fullOf H0 a) b := by simp [fullOf]
theorem fullOf_mapG (H0 : Heap) (j : Nat) (X : Heap) : fullOf H0 (List.map (fun b => (j, b)) X) = H0 ++ X := by simp [fullOf, List.map_map, Function.comp_def]
theorem take_getG {α : Type} (A : List α) (k : Nat) (a : α) (h : A[k]? = some a) : A.take (k + 1) = A.take k ++ [a] := by
  rw [List.take_add_one, h]; rfl
end Go.Proofs.Ytoknmodbdlfdmaa.Sim
