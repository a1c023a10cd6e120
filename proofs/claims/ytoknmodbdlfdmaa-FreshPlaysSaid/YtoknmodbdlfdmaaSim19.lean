/- Values of any shape that came in, as the plain heap has them. -/
import Derived.Test.YtoknmodbdlfdmaaSim18
import Derived.OpenShut
import Derived.WideShapes
import Derived.Deep.Slices
import Derived.ChangeOld
import Derived.Carry
import Derived.Below
namespace Go.Proofs.Ytoknmodbdlfdmaa.Sim
open Go Go.RowKit Go.ChangeShapes Go.WideShapes Go.Deep
set_option linter.unusedVariables false
set_option linter.unusedSimpArgs false
mutual
/-- A type's shape. -/
inductive Sh where
  | int (k : IntKind)
  | bool
  | str
  | agg (ss : Shs)
  | slice (e : Sh)
inductive Shs where
  | nil
  | cons (s : Sh) (ss : Shs)
end
def Shs.len : Shs → Nat
  | .nil => 0
  | .cons _ ss => ss.len + 1
mutual
def chk (P : Program) : Sh → TypeId → Bool
  | .int k, t => match P.underlying t with | some (.int k') => decide (k' = k) && (P.cellsOf t == 1) | _ => false
  | .bool, t => match P.underlying t with | some .bool => P.cellsOf t == 1 | _ => false
  | .str, t => match P.underlying t with | some .string => P.cellsOf t == 1 | _ => false
  | .agg ss, t => match P.underlying t with
    | some (.struct fs) => chkF P ss 0 fs.toList (P.cellsOf t)
    | some (.array n e) => (ss.len == n) && chkA P ss e && (P.cellsOf t == n * P.cellsOf e)
    | _ => false
  | .slice e, t => match P.underlying t with | some (.slice te) => chk P e te && decide (0 < P.cellsOf te) && (P.cellsOf t == 1) | _ => false
def chkF (P : Program) : Shs → Nat → List Field → Nat → Bool
  | .nil, off, fs, n => fs.isEmpty && (off == n)
  | .cons s ss, off, fs, n => match fs with
    | f :: fs => (f.offset == off) && chk P s f.type && chkF P ss (off + P.cellsOf f.type) fs n
    | [] => false
def chkA (P : Program) : Shs → TypeId → Bool
  | .nil, _ => true
  | .cons s ss, e => chk P s e && chkA P ss e
end
mutual
/-- Cells of a value of this shape, on the plain heap. -/
def Opn (H : Heap) : Sh → List Value → Prop
  | .int k, l => ∃ a, l = [.int k a] ∧ (Lit.int k a).wf = true
  | .bool, l => ∃ b, l = [.bool b]
  | .str, l => ∃ s : ByteArray, l = [.string s] ∧ s.size ≤ maxLen
  | .agg ss, l => OpnL H ss l
  | .slice e, l => ∃ (i x ty : Nat) (L : List (List Value)), l = [argV i L.length x] ∧ L.length ≤ maxLen ∧ (∀ c ∈ L, Opn H e c) ∧ (0 < L.length → live H i = some ⟨false, ty, L.flatten⟩)
def OpnL (H : Heap) : Shs → List Value → Prop
  | .nil, l => l = []
  | .cons s ss, l => ∃ a b, l = a ++ b ∧ Opn H s a ∧ OpnL H ss b
end
def Kept (H G : Heap) : Prop := ∀ (i : Nat) (b : Blk), live H i = some b → live G i = some b
theorem Kept.app (H X : Heap) : Kept H (H ++ X) := fun i b h => by
  have : i < H.length := by
    rcases Nat.lt_or_ge i H.length with g | g
    · exact g
    · unfold live at h; rw [List.getElem?_eq_none g] at h; cases h
  rw [live_app _ _ _ this]; exact h
mutual
theorem Opn.mono {H G : Heap} (hk : Kept H G) : ∀ (s : Sh) (l : List Value), Opn H s l → Opn G s l
  | .int k, l, h => h
  | .bool, l, h => h
  | .str, l, h => h
  | .agg ss, l, h => by simp only [Opn] at h ⊢; exact OpnL.mono hk ss l h
  | .slice e, l, h => by
    simp only [Opn] at h ⊢
    obtain ⟨i, x, ty, L, h1, h2, h3, h4⟩ := h
    exact ⟨i, x, ty, L, h1, h2, fun c hc => Opn.mono hk e c (h3 c hc), fun hl => hk _ _ (h4 hl)⟩
theorem OpnL.mono {H G : Heap} (hk : Kept H G) : ∀ (ss : Shs) (l : List Value), OpnL H ss l → OpnL G ss l
  | .nil, l, h => h
  | .cons s ss, l, h => by
    simp only [OpnL] at h ⊢
    obtain ⟨a, b, h1, h2, h3⟩ := h
    exact ⟨a, b, h1, Opn.mono hk s a h2, OpnL.mono hk ss b h3⟩
end
theorem VRs.snoc {φ : Loc} {l m l' m' : List Value} (r : VRs φ l m) (s : VRs φ l' m') : VRs φ (l ++ l') (m ++ m') := r.append s
/-- A row of cells that is only read. -/
theorem Ins.addRow {φ : Loc} {H : Heap} {w : World} (h : Ins φ H w) {l m : List Value} (hv : VRs φ l m) {ad : Addr} (hm : 0 < m.length) (hr : ∀ i, i < m.length → w.cell? (ad.add i) = m[i]?) :
    ad.spot = none ∧ ∃ φ' ty n, Ins φ' (H ++ [some ⟨false, ty, l⟩]) w ∧ Loc.le φ φ' ∧ m.length ≤ n ∧ φ' H.length = some (ad.block, n, ad.off) := by
  have hdom : ∀ i, H.length ≤ i → φ i = none := fun i hi => (h.rel (i + 1)).dom i hi (by omega)
  obtain ⟨hs, pre, rest, ty, fz, hb, hpre⟩ := row_of_cells (w := w) (ad := ad) (f := fun i => m.getD i undef) hm fun i hi => by
    rw [hr i hi]; simp [List.getD_eq_getElem?_getD, hi]
  have hmap : (List.range m.length).map (fun i => m.getD i undef) = m := by
    apply List.ext_getElem?
    intro i
    rw [List.getElem?_map]
    by_cases hi : i < m.length
    · rw [List.getElem?_range hi]; simp [List.getD_eq_getElem?_getD, hi]
    · rw [List.getElem?_eq_none (by simp; omega), List.getElem?_eq_none (by omega)]; rfl
  rw [hmap] at hb
  refine ⟨hs, ?_⟩
  have hle : Loc.le φ (φ.add H.length (ad.block, (m ++ rest).length, ad.off)) := Loc.le_add (hdom _ (Nat.le_refl _))
  have hnew : (φ.add H.length (ad.block, (m ++ rest).length, ad.off)) H.length = some (ad.block, (m ++ rest).length, ad.off) := by unfold Loc.add; rw [if_pos rfl]
  have hne : ∀ j, j < H.length → (φ.add H.length (ad.block, (m ++ rest).length, ad.off)) j = φ j := fun j hj => by unfold Loc.add; rw [if_neg (by omega)]
  have hcase : ∀ (i : Nat) (b : Blk), (H ++ [some (⟨false, ty, l⟩ : Blk)])[i]? = some (some b) → (i < H.length ∧ H[i]? = some (some b)) ∨ (i = H.length ∧ b = ⟨false, ty, l⟩) := by
    intro i b hi
    rcases Nat.lt_trichotomy i H.length with g | g | g
    · rw [List.getElem?_append_left g] at hi; exact .inl ⟨g, hi⟩
    · subst g; simp at hi; exact .inr ⟨rfl, hi.symm⟩
    · rw [List.getElem?_eq_none (by simp; omega)] at hi; cases hi
  have hro : ∀ (i : Nat) (b : Blk), (H ++ [some (⟨false, ty, l⟩ : Blk)])[i]? = some (some b) → b.own = false := by
    intro i b hi
    rcases hcase i b hi with ⟨_, g⟩ | ⟨_, rfl⟩
    · exact h.ro i b g
    · rfl
  refine ⟨_, ty, (m ++ rest).length, ⟨fun lim => ⟨fun i hi hl => ?_, fun i b hi => ?_, fun i j b c k q hi o => ?_, (h.rel lim).sld.mono hle (fun b c t e => ⟨c, t, e⟩)⟩, hro⟩, hle, by simp, hnew⟩
  · simp at hi; unfold Loc.add; rw [if_neg (by omega)]; exact hdom i (by omega)
  · rcases hcase i b hi with ⟨g, hg⟩ | ⟨rfl, rfl⟩
    · obtain ⟨k, ek, hh⟩ := (h.rel lim).blk i b hg
      exact ⟨k, by rw [hne i g]; exact ek, hh.mono hle rfl⟩
    · exact ⟨_, hnew, .inl ⟨rfl, pre, m, rest, fz, hb, (fun h => by cases h), hv.mono hle, rfl, hpre⟩⟩
  · rw [hro i b hi] at o; cases o
section
variable {E : Type} {enc : TypeId × Value → E} {P : Program} {w : World} {sp : Nat → Bool} {held : Bool}
def OutS (P : Program) (w : World) (φ : Loc) (H : Heap) (s : Sh) (cs : List Value) : Prop := ∃ (φ' : Loc) (X : Heap) (l : List Value), Ins φ' (H ++ X) w ∧ Loc.le φ φ' ∧ VRs φ' l cs ∧ Opn (H ++ X) s l
theorem openRow {e : Sh} {te : TypeId} {n : Nat} (ih : ∀ (cs : List Value) (x : DataW E × List MemPlace) (φ : Loc) (H : Heap), DataW.trod enc P w 0 sp held n te cs = some x → Ins φ H w → OutS P w φ H e cs) (f : Nat → List Value) :
    ∀ (m : Nat) (φ : Loc) (H : Heap), (∀ i, i < m → ∃ x, DataW.trod enc P w 0 sp held n te (f i) = some x) → Ins φ H w →
      ∃ (φ' : Loc) (X : Heap) (L : List (List Value)), Ins φ' (H ++ X) w ∧ Loc.le φ φ' ∧ L.length = m ∧ VRs φ' L.flatten ((List.range m).flatMap f) ∧ ∀ c ∈ L, Opn (H ++ X) e c := by
  intro m
  induction m with
  | zero => intro φ H _ h; exact ⟨φ, [], [], by simpa using h, Loc.le_refl _, rfl, .nil, by simp⟩
  | succ m ihm =>
    intro φ H hf h
    obtain ⟨φ1, X1, L, h1, h2, h3, h4, h5⟩ := ihm φ H (fun i hi => hf i (by omega)) h
    obtain ⟨x, hx⟩ := hf m (by omega)
    obtain ⟨φ2, X2, l, g1, g2, g3, g4⟩ := ih (f m) x φ1 (H ++ X1) hx h1
    rw [List.append_assoc] at g1 g4
    refine ⟨φ2, X1 ++ X2, L ++ [l], g1, Loc.le_trans h2 g2, by simp [h3], ?_, ?_⟩
    · rw [List.range_succ, List.flatMap_append, List.flatten_append]
      simp only [List.flatten_cons, List.flatten_nil, List.append_nil, List.flatMap_cons, List.flatMap_nil]
      exact (h4.mono g2).append g3
    · intro c hc
      rcases List.mem_append.1 hc with hc | hc
      · have := Opn.mono (Kept.app (H ++ X1) X2) e c (h5 c hc)
        rwa [List.append_assoc] at this
      · simp at hc; subst hc; exact g4
theorem flat_len (f : Nat → List Value) (sz : Nat) : ∀ m, (∀ i, i < m → (f i).length = sz) → ((List.range m).flatMap f).length = m * sz := by
  intro m
  induction m with
  | zero => intro _; simp
  | succ m ih =>
    intro h
    rw [List.range_succ, List.flatMap_append, List.length_append, ih fun i hi => h i (by omega)]
    simp only [List.flatMap_cons, List.flatMap_nil, List.append_nil]
    rw [h m (by omega), Nat.succ_mul]
theorem flat_get (f : Nat → List Value) (sz : Nat) : ∀ m, (∀ i, i < m → (f i).length = sz) → ∀ i j, i < m → j < sz → ((List.range m).flatMap f)[i * sz + j]? = (f i)[j]? := by
  intro m
  induction m with
  | zero => intro _ i j hi; omega
  | succ m ih =>
    intro h i j hi hj
    rw [List.range_succ, List.flatMap_append]
    simp only [List.flatMap_cons, List.flatMap_nil, List.append_nil]
    have hl := flat_len f sz m fun i hi => h i (by omega)
    by_cases him : i < m
    · rw [List.getElem?_append_left]
      · exact ih (fun i hi => h i (by omega)) i j him hj
      · rw [hl]
        calc i * sz + j < i * sz + sz := by omega
          _ = (i + 1) * sz := by rw [Nat.succ_mul]
          _ ≤ m * sz := Nat.mul_le_mul_right _ him
    · have : i = m := by omega
      subst this
      rw [List.getElem?_append_right (by omega), hl]
      congr 1
      omega
mutual
theorem openSh : ∀ (s : Sh) (t : TypeId) (fuel : Nat) (cs : List Value) (x : DataW E × List MemPlace) (φ : Loc) (H : Heap), chk P s t = true → DataW.trod enc P w 0 sp held fuel t cs = some x → Ins φ H w → OutS P w φ H s cs
  | .int k, t, fuel, cs, x, φ, H, hc, h, hI => by
    simp only [chk] at hc
    split at hc
    · rename_i k' hu
      simp only [Bool.and_eq_true, decide_eq_true_eq] at hc
      obtain ⟨rfl, _⟩ := hc
      obtain ⟨n, rfl, _, hw⟩ := DataW.trod_int hu h
      exact ⟨φ, [], _, by simpa using hI, Loc.le_refl _, .cons (.int _ _) .nil, by simp only [Opn]; exact ⟨n, rfl, hw⟩⟩
    · cases hc
  | .bool, t, fuel, cs, x, φ, H, hc, h, hI => by
    simp only [chk] at hc
    split at hc
    · rename_i hu
      obtain ⟨n, rfl, _⟩ := DataW.trod_bool hu h
      exact ⟨φ, [], _, by simpa using hI, Loc.le_refl _, .cons (.bool _) .nil, by simp only [Opn]; exact ⟨n, rfl⟩⟩
    · cases hc
  | .str, t, fuel, cs, x, φ, H, hc, h, hI => by
    simp only [chk] at hc
    split at hc
    · rename_i hu
      obtain ⟨n, rfl, _, hw⟩ := DataW.trod_string hu h
      exact ⟨φ, [], _, by simpa using hI, Loc.le_refl _, .cons (.string _) .nil, by simp only [Opn]; exact ⟨n, rfl, hw⟩⟩
    · cases hc
  | .agg ss, t, fuel, cs, x, φ, H, hc, h, hI => by
    simp only [chk] at hc
    split at hc
    · rename_i fs hu
      obtain ⟨xs, n, rfl, _, hlen, hxl, hx⟩ := DataW.trod_struct hu h
      have hf : ∀ (i : Nat) (f : Field), fs.toList[i]? = some f → ∃ y, DataW.trod enc P w 0 sp held n f.type ((cs.drop f.offset).take (P.cellsOf f.type)) = some y := by
        intro i f hif
        have hif' : fs[i]? = some f := by simpa using hif
        have hi : i < xs.length := by
          have := (Array.getElem?_eq_some_iff.1 hif').1
          omega
        exact ⟨xs[i], by rw [hx i f hif', List.getElem?_eq_getElem hi]⟩
      obtain ⟨φ', X, l, h1, h2, h3, h4⟩ := openF ss 0 fs.toList (P.cellsOf t) n cs φ H hc hlen (fun i f hif => hf i f hif) hI
      exact ⟨φ', X, l, h1, h2, by simpa using h3, by simp only [Opn]; exact h4⟩
    · rename_i m e hu
      simp only [Bool.and_eq_true, beq_iff_eq] at hc
      obtain ⟨⟨hl, hca⟩, hsz⟩ := hc
      obtain ⟨xs, n, rfl, _, hlen, hxl, hx⟩ := DataW.trod_array hu h
      have hf : ∀ i, i < m → ∃ y, DataW.trod enc P w 0 sp held n e ((cs.drop (i * P.cellsOf e)).take (P.cellsOf e)) = some y := by
        intro i hi
        exact ⟨xs[i], by rw [hx i hi, List.getElem?_eq_getElem (by omega)]⟩
      obtain ⟨φ', X, l, h1, h2, h3, h4⟩ := openA ss e 0 m n cs φ H hca (by omega) (by omega) hf hI
      exact ⟨φ', X, l, h1, h2, by simpa using h3, by simp only [Opn]; exact h4⟩
    · cases hc
  | .slice e, t, fuel, cs, x, φ, H, hc, h, hI => by
    simp only [chk] at hc
    split at hc
    · rename_i te hu
      simp only [Bool.and_eq_true, decide_eq_true_eq] at hc
      obtain ⟨⟨hce, hpos⟩, _⟩ := hc
      rcases open_slice hu h with ⟨rfl, _⟩ | ⟨a, len, cap, m, n, Dd, Pl, rfl, _, hlc, hcm, hmm, _, hx⟩
      · refine ⟨φ, [], [.slice none 0 0], by simpa using hI, Loc.le_refl _, .cons .sliceNil .nil, ?_⟩
        simp only [Opn]
        exact ⟨0, 0, 0, [], rfl, by simp, by simp, by simp⟩
      · have hlm : len ≤ m := by rw [hmm]; split <;> omega
        obtain ⟨f, hf⟩ := choose_lt (α := List Value) (p := fun i cs' => w.cells? 0 (a.add (i * P.cellsOf te)) (P.cellsOf te) = some cs' ∧ DataW.trod enc P w 0 sp held n te cs' = some (Dd i, Pl i)) (n := len) (fun i hi => hx i (by omega))
        obtain ⟨φ1, X, L, h1, h2, h3, h4, h5⟩ := openRow (e := e) (te := te) (n := n) (fun cs x φ H hx hI => openSh e te n cs x φ H hce hx hI) f len φ H (fun i hi => ⟨_, (hf i hi).2⟩) hI
        by_cases hn : len = 0
        · subst hn
          have hL : L = [] := List.eq_nil_of_length_eq_zero h3
          refine ⟨φ1, X, [.slice none 0 1], h1, h2, .cons .sliceE .nil, ?_⟩
          simp only [Opn]
          exact ⟨0, 1, 0, [], rfl, by simp, by simp, by simp⟩
        · have hsz : ∀ i, i < len → (f i).length = P.cellsOf te := fun i hi => (World.cells?_some (hf i hi).1).2.1
          have hml := flat_len f (P.cellsOf te) len hsz
          have hp : 0 < len * P.cellsOf te := Nat.mul_pos (by omega) hpos
          obtain ⟨hs, φ2, ty, q, g1, g2, g3, g4⟩ := h1.addRow h4 (ad := a) (by rw [hml]; exact hp) (fun i hi => by
            rw [hml] at hi
            have hi1 : i / P.cellsOf te < len := Nat.div_lt_of_lt_mul (by rw [Nat.mul_comm]; exact hi)
            have hi2 : i % P.cellsOf te < P.cellsOf te := Nat.mod_lt _ hpos
            have e1 : i / P.cellsOf te * P.cellsOf te + i % P.cellsOf te = i := by rw [Nat.mul_comm]; exact Nat.div_add_mod _ _
            have e2 := flat_get f (P.cellsOf te) len hsz _ _ hi1 hi2
            rw [e1] at e2
            rw [e2, ← (World.cells?_some (hf _ hi1).1).2.2 _ hi2, Deep.add_add, e1])
          rw [List.append_assoc] at g1
          refine ⟨φ2, X ++ [some ⟨false, ty, L.flatten⟩], [argV (H ++ X).length L.length 0], g1, Loc.le_trans h2 g2, ?_, ?_⟩
          · rw [h3]
            unfold argV
            rw [if_neg hn]
            obtain ⟨ab, ao, as⟩ := a
            simp only at hs
            subst hs
            exact .cons (VR.slice (off := 0) g4 hlc (fun _ => by simp)) .nil
          · simp only [Opn]
            refine ⟨_, 0, ty, L, rfl, by omega, fun c hc => ?_, fun _ => ?_⟩
            · have := Opn.mono (Kept.app (H ++ X) [some ⟨false, ty, L.flatten⟩]) e c (h5 c hc)
              rwa [List.append_assoc] at this
            · rw [← List.append_assoc, live_app_len]; rfl
    · cases hc
theorem openF : ∀ (ss : Shs) (off : Nat) (fs : List Field) (N n : Nat) (cs : List Value) (φ : Loc) (H : Heap), chkF P ss off fs N = true → cs.length = N →
    (∀ (i : Nat) (f : Field), fs[i]? = some f → ∃ y, DataW.trod enc P w 0 sp held n f.type ((cs.drop f.offset).take (P.cellsOf f.type)) = some y) → Ins φ H w →
    ∃ (φ' : Loc) (X : Heap) (l : List Value), Ins φ' (H ++ X) w ∧ Loc.le φ φ' ∧ VRs φ' l (cs.drop off) ∧ OpnL (H ++ X) ss l
  | .nil, off, fs, N, n, cs, φ, H, hc, hl, hf, hI => by
    simp only [chkF, Bool.and_eq_true, beq_iff_eq] at hc
    refine ⟨φ, [], [], by simpa using hI, Loc.le_refl _, ?_, by simp only [OpnL]⟩
    rw [List.drop_eq_nil_of_le (by omega)]
    exact .nil
  | .cons s ss, off, fs, N, n, cs, φ, H, hc, hl, hf, hI => by
    simp only [chkF] at hc
    split at hc
    · rename_i f fs
      simp only [Bool.and_eq_true, beq_iff_eq] at hc
      obtain ⟨⟨ho, hcs⟩, hcf⟩ := hc
      obtain ⟨y, hy⟩ := hf 0 f rfl
      rw [ho] at hy
      obtain ⟨φ1, X1, l1, h1, h2, h3, h4⟩ := openSh s f.type n _ y φ H hcs hy hI
      obtain ⟨φ2, X2, l2, g1, g2, g3, g4⟩ := openF ss (off + P.cellsOf f.type) fs N n cs φ1 (H ++ X1) hcf hl (fun i f' hif => hf (i + 1) f' (by simpa using hif)) h1
      rw [List.append_assoc] at g1 g4
      refine ⟨φ2, X1 ++ X2, l1 ++ l2, g1, Loc.le_trans h2 g2, ?_, ?_⟩
      · have : cs.drop off = (cs.drop off).take (P.cellsOf f.type) ++ cs.drop (off + P.cellsOf f.type) := by
          rw [← List.drop_drop, List.take_append_drop]
        rw [this]
        exact (h3.mono g2).append g3
      · simp only [OpnL]
        refine ⟨l1, l2, rfl, ?_, g4⟩
        have := Opn.mono (Kept.app (H ++ X1) X2) s l1 h4
        rwa [List.append_assoc] at this
    · cases hc
theorem openA : ∀ (ss : Shs) (e : TypeId) (k m n : Nat) (cs : List Value) (φ : Loc) (H : Heap), chkA P ss e = true → k + ss.len = m → cs.length = m * P.cellsOf e →
    (∀ i, i < m → ∃ y, DataW.trod enc P w 0 sp held n e ((cs.drop (i * P.cellsOf e)).take (P.cellsOf e)) = some y) → Ins φ H w →
    ∃ (φ' : Loc) (X : Heap) (l : List Value), Ins φ' (H ++ X) w ∧ Loc.le φ φ' ∧ VRs φ' l (cs.drop (k * P.cellsOf e)) ∧ OpnL (H ++ X) ss l
  | .nil, e, k, m, n, cs, φ, H, hc, hk, hl, hf, hI => by
    simp only [Shs.len] at hk
    refine ⟨φ, [], [], by simpa using hI, Loc.le_refl _, ?_, by simp only [OpnL]⟩
    have : k = m := by omega
    subst this
    rw [List.drop_eq_nil_of_le (by omega)]
    exact .nil
  | .cons s ss, e, k, m, n, cs, φ, H, hc, hk, hl, hf, hI => by
    simp only [Shs.len] at hk
    simp only [chkA, Bool.and_eq_true] at hc
    obtain ⟨hcs, hcf⟩ := hc
    obtain ⟨y, hy⟩ := hf k (by omega)
    obtain ⟨φ1, X1, l1, h1, h2, h3, h4⟩ := openSh s e n _ y φ H hcs hy hI
    obtain ⟨φ2, X2, l2, g1, g2, g3, g4⟩ := openA ss e (k + 1) m n cs φ1 (H ++ X1) hcf (by omega) hl hf h1
    rw [List.append_assoc] at g1 g4
    refine ⟨φ2, X1 ++ X2, l1 ++ l2, g1, Loc.le_trans h2 g2, ?_, ?_⟩
    · have : cs.drop (k * P.cellsOf e) = (cs.drop (k * P.cellsOf e)).take (P.cellsOf e) ++ cs.drop ((k + 1) * P.cellsOf e) := by
        rw [Nat.succ_mul, ← List.drop_drop, List.take_append_drop]
      rw [this]
      exact (h3.mono g2).append g3
    · simp only [OpnL]
      refine ⟨l1, l2, rfl, ?_, g4⟩
      have := Opn.mono (Kept.app (H ++ X1) X2) s l1 h4
      rwa [List.append_assoc] at this
end
end
/-- Values that stand side by side: so many of one make. -/
theorem rows_map {α : Type} (f : α → List Value) (p : α → Prop) : ∀ (L : List (List Value)), (∀ c ∈ L, ∃ x, c = f x ∧ p x) → ∃ M : List α, L = M.map f ∧ ∀ x ∈ M, p x := by
  intro L
  induction L with
  | nil => intro _; exact ⟨[], rfl, by simp⟩
  | cons c L ih =>
    intro h
    obtain ⟨x, hx, px⟩ := h c (by simp)
    obtain ⟨M, hM, pM⟩ := ih fun c hc => h c (by simp [hc])
    exact ⟨x :: M, by rw [hx, hM]; rfl, fun y hy => by
      rcases List.mem_cons.1 hy with rfl | hy
      · exact px
      · exact pM y hy⟩
/- All arguments at once. -/
def argS : Sh → List Value → Value
  | .agg _, l => .agg ⟨l⟩
  | _, l => l.headD undef
def OpnAll (H : Heap) : List Sh → List (List Value) → Prop
  | [], [] => True
  | s :: ss, l :: ls => Opn H s l ∧ OpnAll H ss ls
  | _, _ => False
def argsS : List Sh → List (List Value) → List Value
  | s :: ss, l :: ls => argS s l :: argsS ss ls
  | _, _ => []
def chkAll (P : Program) : List Sh → List TypeId → Bool
  | [], [] => true
  | s :: ss, t :: ts => chk P s t && P.readableRec t && decide (t < P.types.size) && chkAll P ss ts
  | _, _ => false
theorem OpnAll.uncons {H : Heap} {s : Sh} {ss : List Sh} {ls : List (List Value)} (h : OpnAll H (s :: ss) ls) : ∃ l ls', ls = l :: ls' ∧ Opn H s l ∧ OpnAll H ss ls' := by
  cases ls with
  | nil => exact h.elim
  | cons l ls => exact ⟨l, ls, rfl, h.1, h.2⟩
theorem OpnAll.unnil {H : Heap} {ls : List (List Value)} (h : OpnAll H [] ls) : ls = [] := by
  cases ls with
  | nil => rfl
  | cons l ls => exact h.elim
theorem OpnAll.mono {H G : Heap} (hk : Kept H G) : ∀ (ss : List Sh) (ls : List (List Value)), OpnAll H ss ls → OpnAll G ss ls
  | [], [], h => h
  | s :: ss, l :: ls, h => ⟨Opn.mono hk s l h.1, OpnAll.mono hk ss ls h.2⟩
  | [], _ :: _, h => h.elim
  | _ :: _, [], h => h.elim
section
variable {E : Type} {enc : TypeId × Value → E} {P : Program} {w : World} {held : Bool}
theorem arg_one {φ : Loc} {l : List Value} {v : Value} (h : VRs φ l [v]) : VR φ (l.headD undef) v := by
  cases h with
  | cons a b => exact a
theorem argS_ok {φ : Loc} {H : Heap} {l : List Value} {v : Value} {t : TypeId} {r : Reach} {b : Nat} (s : Sh) (hc : chk P s t = true) (hw : Value.okWide P w r b t v) (h : VRs φ l v.cells.toList) : VR φ (argS s l) v := by
  cases s with
  | int k =>
    simp only [chk] at hc
    split at hc
    · rename_i k' hu
      obtain ⟨n, rfl⟩ := okWide_int hu hw
      exact arg_one h
    · cases hc
  | bool =>
    simp only [chk] at hc
    split at hc
    · rename_i hu
      simp only [Value.okWide, hu, Cell.okWide] at hw
      have : ∃ x, v = .bool x := by cases v <;> simp_all [Cell.ok]
      obtain ⟨x, rfl⟩ := this
      exact arg_one h
    · cases hc
  | str =>
    simp only [chk] at hc
    split at hc
    · rename_i hu
      obtain ⟨n, rfl⟩ := okWide_string hu hw
      exact arg_one h
    · cases hc
  | agg ss =>
    have : ∃ cs, v = .agg cs := by
      simp only [chk] at hc
      split at hc
      · rename_i fs hu
        simp only [Value.okWide, hu] at hw
        obtain ⟨cs, h, _⟩ := hw
        exact ⟨cs, h⟩
      · rename_i n e hu
        simp only [Value.okWide, hu] at hw
        obtain ⟨cs, h, _⟩ := hw
        exact ⟨cs, h⟩
      · cases hc
    obtain ⟨cs, rfl⟩ := this
    obtain ⟨cs⟩ := cs
    exact .agg h
  | slice e =>
    simp only [chk] at hc
    split at hc
    · rename_i te hu
      obtain ⟨a, len, cap, rfl⟩ := okWide_slice hu hw
      exact arg_one h
    · cases hc
theorem openArgs {r : Reach} {b : Nat} : ∀ (shs : List Sh) (ts : List TypeId) (vs : List Value) (ds : List (DataW E)) (p : List MemPlace) (φ : Loc) (H : Heap), chkAll P shs ts = true → DataW.TrodAll enc P w 0 (fun _ => true) held ts vs ds p →
    (∀ (j : Nat) t v, ts[j]? = some t → vs[j]? = some v → Value.okWide P w r b t v) → Ins φ H w →
    ∃ (φ' : Loc) (X : Heap) (ls : List (List Value)), Ins φ' (H ++ X) w ∧ Loc.le φ φ' ∧ OpnAll (H ++ X) shs ls ∧ VRs φ' (argsS shs ls) vs
  | [], ts, vs, ds, p, φ, H, hc, h, hw, hI => by
    cases ts with
    | cons t ts => simp [chkAll] at hc
    | nil =>
      cases vs with
      | cons v vs => cases ds <;> simp [DataW.TrodAll] at h
      | nil => exact ⟨φ, [], [], by simpa using hI, Loc.le_refl _, trivial, .nil⟩
  | s :: ss, ts, vs, ds, p, φ, H, hc, h, hw, hI => by
    cases ts with
    | nil => simp [chkAll] at hc
    | cons t ts =>
      simp only [chkAll, Bool.and_eq_true] at hc
      obtain ⟨v, vs', d, ds', p1, q1, rfl, rfl, rfl, ⟨fuel, h1⟩, h2⟩ := trodAll_cons h
      obtain ⟨φ1, X1, l, g1, g2, g3, g4⟩ := openSh s t fuel _ _ φ H hc.1.1.1 h1 hI
      obtain ⟨φ2, X2, ls, k1, k2, k3, k4⟩ := openArgs ss ts vs' ds' q1 φ1 (H ++ X1) hc.2 h2 (fun j t v a b => hw (j + 1) t v (by simpa using a) (by simpa using b)) g1
      rw [List.append_assoc] at k1 k3
      refine ⟨φ2, X1 ++ X2, l :: ls, k1, Loc.le_trans g2 k2, ⟨?_, k3⟩, .cons ((argS_ok (H := H) s hc.1.1.1 (hw 0 t v rfl rfl) g3).mono k2) k4⟩
      have := Opn.mono (Kept.app (H ++ X1) X2) s l g4
      rwa [List.append_assoc] at this
theorem trodBelow (hl : laidOutB P = true) {W W' : World} (hb : Below W.heap.size W W') : ∀ (shs : List Sh) (ts : List TypeId) (vs : List Value) (ds : List (DataW E)) (p : List MemPlace), chkAll P shs ts = true → DataW.TrodAll enc P W 0 (fun _ => true) true ts vs ds p →
    DataW.TrodAll enc P W' 0 (fun b => decide (b < W.heap.size)) true ts vs ds p
  | [], ts, vs, ds, p, hc, h => by
    cases ts with
    | cons t ts => simp [chkAll] at hc
    | nil =>
      cases vs with
      | cons v vs => cases ds <;> simp [DataW.TrodAll] at h
      | nil => cases ds with
        | nil => exact h
        | cons d ds => simp [DataW.TrodAll] at h
  | s :: ss, ts, vs, ds, p, hc, h => by
    cases ts with
    | nil => simp [chkAll] at hc
    | cons t ts =>
      simp only [chkAll, Bool.and_eq_true, decide_eq_true_eq] at hc
      obtain ⟨v, vs', d, ds', p1, q1, rfl, rfl, rfl, h1, h2⟩ := trodAll_cons h
      refine trodAll_cons_mk (Below.trod hl hc.1.1.2 hc.1.2 h1 hb ?_) (trodBelow hl hb ss ts vs' ds' q1 hc.2 h2)
      obtain ⟨m, hm⟩ := h1
      exact DataW.trod_lt m _ _ _ hm
theorem rowFrom [Known P] {hs : Nat → Hints} (hm : P.follows .mixedOrders = true) {f : FuncId} {shs : List Sh} {φ0 : Loc} {H0 : Heap} (hI : Ins φ0 H0 w) (law : ∀ X ls, OpnAll (H0 ++ X) shs ls → Ok (D P hs f (argsS shs ls) (H0 ++ X))) {r : Reach} {b : Nat} {ts : List TypeId} {args : Array Value} {ds : List (DataW E)} {p : List MemPlace}
    (hc : chkAll P shs ts = true) (h : DataW.TrodAll enc P w 0 (fun _ => true) held ts args.toList ds p) (hw : ∀ (j : Nat) t v, ts[j]? = some t → args[j]? = some v → Value.okWide P w r b t v) :
    Calls P f args w fun e w' => e = .returned (.bool true) ∧ Below w.heap.size w w' := by
  obtain ⟨φ, X, ls, h1, _, h2, h3⟩ := openArgs shs ts args.toList ds p φ0 H0 hc h (fun j t v a b => hw j t v a (by simpa using b)) hI
  obtain ⟨H', hh⟩ := law X ls h2
  exact end_of hm hh h1.rel h1.ro h3
theorem rowOf [Known P] {hs : Nat → Hints} (hm : P.follows .mixedOrders = true) (hg : gl = []) {f : FuncId} {shs : List Sh} (law : ∀ H ls, OpnAll H shs ls → Ok (D P hs f (argsS shs ls) H)) {r : Reach} {b : Nat} {ts : List TypeId} {args : Array Value} {ds : List (DataW E)} {p : List MemPlace}
    (hc : chkAll P shs ts = true) (h : DataW.TrodAll enc P w 0 (fun _ => true) held ts args.toList ds p) (hw : ∀ (j : Nat) t v, ts[j]? = some t → args[j]? = some v → Value.okWide P w r b t v) :
    Calls P f args w fun e w' => e = .returned (.bool true) ∧ Below w.heap.size w w' := by
  obtain ⟨φ, X, ls, h1, _, h2, h3⟩ := openArgs shs ts args.toList ds p _ [] hc h (fun j t v a b => hw j t v a (by simpa using b)) (Ins.nil w hg)
  obtain ⟨H', hh⟩ := law _ ls h2
  exact end_of hm hh h1.rel h1.ro h3
end
end Go.Proofs.Ytoknmodbdlfdmaa.Sim
