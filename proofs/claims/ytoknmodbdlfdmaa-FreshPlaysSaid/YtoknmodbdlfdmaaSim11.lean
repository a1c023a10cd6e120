/- Regions that draw their order, III: whatever order is drawn, it comes to what the text's order comes to. -/
import Derived.Test.YtoknmodbdlfdmaaSim10
namespace Go.Proofs.Ytoknmodbdlfdmaa.Sim
open Go Go.RowKit
set_option linter.unusedVariables false
set_option linter.unusedSimpArgs false
structure DrawOk (P : Program) (N : Nat) (ops : Array Oper) (ds : List DO) : Prop where
  len : ds.length = ops.size
  res : ∀ (j : Nat) (o : Oper) (d : DO), ops[j]? = some o → ds[j]? = some d → resolveRO P ops N o = some d.toRO
  edge : ∀ (j : Nat) (o : Oper) (e : Edge), ops[j]? = some o → e ∈ o.after → Region.binds .any e = true → e.on < j
  before : ∀ (j : Nat) (o : Oper) (d : DO), ops[j]? = some o → ds[j]? = some d → ∀ i ∈ d.before, ∃ e ∈ o.after, Region.binds .any e = true ∧ (i = e.on ∨ ∃ d', ds[e.on]? = some d' ∧ i ∈ d'.before)
  lt : ∀ (j : Nat) (d : DO), ds[j]? = some d → ∀ i ∈ d.before, i < j
  dst : ∀ (i j t : Nat) (d d' : DO), ds[i]? = some d → ds[j]? = some d' → d.dst = some t → d'.dst = some t → i = j
  look : ∀ (j : Nat) (d : DO), ds[j]? = some d → ∀ t, (t ∈ looks d.op ∨ ∃ b, d.guard = some (t, b)) → ∀ (i : Nat) (d' : DO), ds[i]? = some d' → d'.dst = some t → i ∈ d.before ∨ j ∈ d'.before
def layer (H0 : Heap) (news : List (Nat × Option Blk)) (S : Nat → Prop) [DecidablePred S] : Heap := H0 ++ news.map fun p => if S p.1 then p.2 else none
structure Kp (top : Nat) (φ : Loc) (H : Heap) (w : World) (φ' : Loc) (H' : Heap) (w' : World) : Prop where
  os : w'.os = w.os
  tape : w'.tape = w.tape
  output : w'.output = w.output
  size : w.heap.size ≤ w'.heap.size
  ext : Loc.le φ φ'
  same : ∀ i, i < H.length ∨ top ≤ i → φ' i = φ i
  kind : ∀ (j : Nat) (c : Blk), H'[j]? = some (some c) → c.own = true ∨ ∃ b : Blk, H[j]? = some (some b) ∧ b.own = c.own
  own : ∀ j c l, H'[j]? = some (some c) → c.own = true → φ' j = some l → w.heap.size ≤ l.1 ∨ ∃ i b k, H[i]? = some (some b) ∧ b.own = true ∧ φ i = some k ∧ k.1 = l.1
  old : ∀ b, b < w.heap.size → (∀ i bl k, H[i]? = some (some bl) → bl.own = true → φ i = some k → k.1 ≠ b) → w'.heap[b]? = w.heap[b]?
theorem Kp.keeps {φ φ' : Loc} {H H' : Heap} {w w' : World} (k : Kp H'.length φ H w φ' H' w') (h : H.length ≤ H'.length) : Keeps φ H w φ' H' w' :=
  ⟨k.os, k.tape, k.output, k.size, k.ext, h, k.same, k.kind, k.own, k.old⟩
section
variable {P : Program} {N : Nat} {C : CallSem} {ops : Array Oper} {ds : List DO} {H0 : Heap} {ρ0 : Fr} {tr : Nat → DS} {lim : Nat} {φ0 : Loc} {w0 : World} {a0 : Act}
def Ls (listed : Array Bool) (i : Nat) : Prop := listed.getD i false = true
instance (listed : Array Bool) : DecidablePred (Ls listed) := fun i => inferInstanceAs (Decidable (_ = true))
open Classical in
noncomputable def frS (ρ0 : Fr) (fin : Fr) (ds : List DO) (S : Nat → Prop) : Fr := fun t => if ∃ i d, S i ∧ ds[i]? = some d ∧ d.dst = some t then fin t else ρ0 t
/-- How things stand when the listed operations have been done. -/
structure Inv (ds : List DO) (H0 : Heap) (ρ0 : Fr) (tr : Nat → DS) (lim N : Nat) (φ0 : Loc) (w0 : World) (a0 : Act) (listed : Array Bool) (a : Act) (w : World) (φ : Loc) (HS : Heap) : Prop where
  size : listed.size = ds.length
  cl : ∀ (j : Nat) (d : DO), Ls listed j → ds[j]? = some d → ∀ i ∈ d.before, Ls listed i
  rel : Rel lim φ HS w
  fr : FR N φ (frS ρ0 (tr ds.length).ρ ds (Ls listed)) a
  defers : a.defers = a0.defers
  kp : Kp ((tr ds.length).now H0).length φ0 H0 w0 φ HS w
  heap : (HS = layer H0 (tr ds.length).news (Ls listed) ∧ (∀ p ∈ (tr ds.length).chain, ¬ Ls listed p.1) ∧ (∀ (k : Nat) (p : Nat × Option Blk), (tr ds.length).news[k]? = some p → ¬ Ls listed p.1 → φ (H0.length + k) = none)) ∨
    (∃ e, e < ds.length ∧ Ls listed e ∧ (tr (e + 1)).chain = (e, HS) :: (tr e).chain ∧ (∀ p ∈ (tr ds.length).chain, Ls listed p.1 ↔ p.1 ≤ e))
theorem frS_agree (hok : DrawOk P N ops ds) (ht : Trace C H0 ρ0 ds tr) {listed : Array Bool} {j : Nat} {d : DO} (hd : ds[j]? = some d) (hb : ∀ i ∈ d.before, Ls listed i) (hcl : ∀ (j : Nat) (d : DO), Ls listed j → ds[j]? = some d → ∀ i ∈ d.before, Ls listed i) (hnl : ¬ Ls listed j) {t : Nat} (hl : t ∈ looks d.op ∨ ∃ b, d.guard = some (t, b)) :
    (tr j).ρ t = frS ρ0 (tr ds.length).ρ ds (Ls listed) t := by
  have hj : j < ds.length := by
    rcases Nat.lt_or_ge j ds.length with g | g
    · exact g
    · rw [List.getElem?_eq_none g] at hd; cases hd
  unfold frS
  by_cases hw : ∃ (i : Nat) (d' : DO), ds[i]? = some d' ∧ d'.dst = some t
  · obtain ⟨i, d', h1, h2⟩ := hw
    rcases hok.look j d hd t hl i d' h1 h2 with hi | hi
    · rw [if_pos ⟨i, d', hb i hi, h1, h2⟩]
      have hlt := hok.lt j d hd i hi
      obtain ⟨_, _, _, _, h5⟩ := ht.upTo (Nat.le_of_lt hj) (Nat.le_refl _)
      refine (h5 t fun i' d'' a b c e => ?_).symm
      have := hok.dst i i' t d' d'' h1 c h2 e
      omega
    · have hlt := hok.lt i d' h1 j hi
      rw [if_neg]
      · obtain ⟨_, _, _, _, h5⟩ := ht.upTo (Nat.zero_le j) (Nat.le_of_lt hj)
        rw [h5 t fun i' d'' a b c e => ?_, ht.init]
        have := hok.dst i i' t d' d'' h1 c h2 e
        omega
      · rintro ⟨i', d'', h3, h4, h5⟩
        have := hok.dst i i' t d' d'' h1 h4 h2 h5
        subst this
        exact hnl (hcl i d' h3 h1 j hi)
  · rw [if_neg fun ⟨i, d', _, h1, h2⟩ => hw ⟨i, d', h1, h2⟩]
    obtain ⟨_, _, _, _, h5⟩ := ht.upTo (Nat.zero_le j) (Nat.le_of_lt hj)
    rw [h5 t fun i d' _ _ c e => hw ⟨i, d', c, e⟩, ht.init]
theorem put_dst {ρ : Fr} {t : Nat} {v : Value} {o : Option Nat} (h : o = some t) : put ρ o v t = v := by subst h; simp [put, upd]
theorem Sort3.val {d : DO} {j : Nat} {st st' : DS} (h : Sort3 C H0 j d st st') : ∃ v, st'.ρ = put st.ρ d.dst v ∧ (guardOn st.ρ d.guard = false → v = undef) := by
  rcases h with ⟨_, rfl⟩ | ⟨hg, _, v, _, rfl⟩ | ⟨hg, _, i, _, v, _, _, rfl⟩ | ⟨hg, _, v, X, _, rfl⟩ | ⟨hg, _, _, v, H2, _, _, rfl⟩
  · exact ⟨undef, rfl, fun _ => rfl⟩
  all_goals exact ⟨v, rfl, fun h => by rw [hg] at h; cases h⟩
theorem frS_put (hok : DrawOk P N ops ds) (ht : Trace C H0 ρ0 ds tr) {listed : Array Bool} {j : Nat} {d : DO} (hd : ds[j]? = some d) (hs : listed.size = ds.length) (v : Value) (hv : (tr (j + 1)).ρ = put (tr j).ρ d.dst v) (t : Nat) :
    frS ρ0 (tr ds.length).ρ ds (Ls (listed.setIfInBounds j true)) t = put (frS ρ0 (tr ds.length).ρ ds (Ls listed)) d.dst v t := by
  have hj : j < ds.length := by
    rcases Nat.lt_or_ge j ds.length with g | g
    · exact g
    · rw [List.getElem?_eq_none g] at hd; cases hd
  have hL : ∀ i, Ls (listed.setIfInBounds j true) i ↔ Ls listed i ∨ i = j := by
    intro i
    unfold Ls
    simp only [Array.getD_eq_getD_getElem?, Array.getElem?_setIfInBounds]
    by_cases hij : j = i
    · subst hij; simp [hs, hj]
    · rw [if_neg hij]; constructor
      · exact .inl
      · rintro (h | h)
        · exact h
        · omega
  by_cases hdt : d.dst = some t
  · rw [put_dst hdt]
    unfold frS
    rw [if_pos ⟨j, d, (hL j).2 (.inr rfl), hd, hdt⟩]
    obtain ⟨_, _, _, _, h5⟩ := ht.upTo (show j + 1 ≤ ds.length by omega) (Nat.le_refl _)
    rw [h5 t fun i d' a b c e => by have := hok.dst j i t d d' hd c hdt e; omega, hv, put_dst hdt]
  · have hp : ∀ (ρ : Fr), put ρ d.dst v t = ρ t := by
      intro ρ
      cases hq : d.dst with
      | none => rfl
      | some q => simp only [put, upd]; rw [if_neg fun e => hdt (by rw [hq, e])]
    rw [hp]
    unfold frS
    by_cases hx : ∃ (i : Nat) (d' : DO), Ls listed i ∧ ds[i]? = some d' ∧ d'.dst = some t
    · obtain ⟨i, d', h1, h2, h3⟩ := hx
      rw [if_pos ⟨i, d', (hL i).2 (.inl h1), h2, h3⟩, if_pos ⟨i, d', h1, h2, h3⟩]
    · rw [if_neg hx, if_neg]
      rintro ⟨i, d', h1, h2, h3⟩
      rcases (hL i).1 h1 with h1 | rfl
      · exact hx ⟨i, d', h1, h2, h3⟩
      · rw [hd] at h2; cases h2; exact hdt h3
theorem layer_len (news : List (Nat × Option Blk)) (S : Nat → Prop) [DecidablePred S] : (layer H0 news S).length = H0.length + news.length := by simp [layer]
theorem layer_get (news : List (Nat × Option Blk)) (S : Nat → Prop) [DecidablePred S] (i : Nat) (b : Blk) : (layer H0 news S)[i]? = some (some b) ↔ (i < H0.length ∧ H0[i]? = some (some b)) ∨ (H0.length ≤ i ∧ ∃ p, news[i - H0.length]? = some p ∧ S p.1 ∧ p.2 = some b) := by
  unfold layer
  rcases Nat.lt_or_ge i H0.length with g | g
  · rw [List.getElem?_append_left g]
    constructor
    · exact fun h => .inl ⟨g, h⟩
    · rintro (⟨_, h⟩ | ⟨h, _⟩)
      · exact h
      · omega
  · rw [List.getElem?_append_right g, List.getElem?_map]
    constructor
    · intro h
      refine .inr ⟨g, ?_⟩
      cases hp : news[i - H0.length]? with
      | none => rw [hp] at h; cases h
      | some p =>
        rw [hp] at h
        simp only [Option.map_some, Option.some.injEq] at h
        split at h
        · exact ⟨p, rfl, ‹_›, h⟩
        · cases h
    · rintro (⟨h, _⟩ | ⟨_, p, hp, hs, hb⟩)
      · omega
      · rw [hp]; simp [hs, hb]
theorem mask_get (news : List (Nat × Option Blk)) (l : List Nat) (i : Nat) (b : Blk) : (maskOf H0 news l)[i]? = some (some b) ↔ (i < H0.length ∧ H0[i]? = some (some b)) ∨ (H0.length ≤ i ∧ ∃ p, news[i - H0.length]? = some p ∧ p.1 ∈ l ∧ p.2 = some b) :=
  layer_get news (fun i => i ∈ l) i b
theorem full_get (news : List (Nat × Option Blk)) (i : Nat) (b : Blk) : (fullOf H0 news)[i]? = some (some b) ↔ (i < H0.length ∧ H0[i]? = some (some b)) ∨ (H0.length ≤ i ∧ ∃ p, news[i - H0.length]? = some p ∧ p.2 = some b) := by
  have := layer_get (H0 := H0) news (fun _ => True) i b
  simp only [layer, if_true, true_and] at this
  exact this
/-- Behind a load, what it read is not written in the operations that need not come behind it. -/
theorem pres (ht : Trace C H0 ρ0 ds tr) {j i : Nat} {b : Blk} (hl : (j, i) ∈ (tr (j + 1)).loads) (hb : live ((tr (j + 1)).now H0) i = some b) : ∀ (n : Nat), j + 1 + n ≤ ds.length →
    (∀ p ∈ (tr (j + 1 + n)).chain, ∀ d, j < p.1 → ds[p.1]? = some d → j ∉ d.before) → live ((tr (j + 1 + n)).now H0) i = some b := by
  intro n
  induction n with
  | zero => intro _ _; exact hb
  | succ n ih =>
    intro hn hp
    have hk : j + 1 + n < ds.length := by omega
    have hs := ht.step (j + 1 + n) _ (List.getElem?_eq_getElem hk)
    have hst := hs.stp
    have e : j + 1 + (n + 1) = j + 1 + n + 1 := by omega
    rw [e] at hp ⊢
    have hchain : ∀ p ∈ (tr (j + 1 + n)).chain, p ∈ (tr (j + 1 + n + 1)).chain := by
      intro p hp
      rcases hst.chain with g | ⟨H2, g⟩
      · rw [g]; exact hp
      · rw [g]; exact List.mem_cons_of_mem _ hp
    have ih' := ih (by omega) fun p hp' d => hp p (hchain p hp') d
    rcases hs with ⟨_, e⟩ | ⟨_, _, v, _, e⟩ | ⟨_, _, i', _, v, _, _, e⟩ | ⟨_, hch, v, X, _, e⟩ | ⟨_, _, _, v, H2, _, hld, e⟩
    · rw [e]; exact ih'
    · rw [e]; exact ih'
    · rw [e]; exact ih'
    · rw [e]
      have h1 : (tr (j + 1 + n)).now H0 = fullOf H0 (tr (j + 1 + n)).news := by simp only [DS.now, hch]
      rw [h1] at ih'
      have h2 := live_some ih'
      show live (DS.now H0 { (tr (j + 1 + n)) with ρ := _, news := _, quiets := _ }) i = some b
      simp only [DS.now, hch]
      refine live_of ?_ (live_mp ih')
      have : (fullOf H0 ((tr (j + 1 + n)).news ++ X.map fun b => (j + 1 + n, b))) = fullOf H0 (tr (j + 1 + n)).news ++ X := by simp [fullOf, List.map_map, Function.comp_def]
      rw [this, List.getElem?_append_left]
      · exact h2
      · rcases Nat.lt_or_ge i (fullOf H0 (tr (j + 1 + n)).news).length with g | g
        · exact g
        · rw [List.getElem?_eq_none g] at h2; cases h2
    · have hmem : (j, i) ∈ (tr (j + 1 + n)).loads := by
        obtain ⟨_, _, h3, _⟩ := ht.later (j + 1) n (by omega)
        exact h3 _ hl
      have hc : (j + 1 + n, H2) ∈ (tr (j + 1 + n + 1)).chain := by rw [e]; exact List.mem_cons_self
      rcases hld (j, i) hmem with g | g
      · exact absurd g (hp _ hc _ (by simp; omega) (List.getElem?_eq_getElem hk))
      · rw [e]
        show live H2 i = some b
        rw [← g]; exact ih'
end
end Go.Proofs.Ytoknmodbdlfdmaa.Sim
