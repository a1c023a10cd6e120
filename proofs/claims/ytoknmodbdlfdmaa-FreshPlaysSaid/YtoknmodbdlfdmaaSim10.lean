/- Regions that draw their order, II: what the trace keeps; a part of the heap alone. -/
import Derived.Test.YtoknmodbdlfdmaaSim9
namespace Go.Proofs.Ytoknmodbdlfdmaa.Sim
open Go Go.RowKit
set_option linter.unusedVariables false
set_option linter.unusedSimpArgs false
variable {P : Program} {lim N : Nat} {φ : Loc} {H : Heap} {w : World} {v : Value} {H' : Heap} {ρ ρ' : Fr} {a : Act} {C : CallSem}
/-- A part of a heap has grown; the rest is as it was. -/
theorem frame_quiet {l2 : Nat} {φ' : Loc} {w' : World} {M X HS HS' : Heap} (hR : Rel lim φ HS w) (hM : ∀ (i : Nat) (b : Blk), M[i]? = some (some b) → HS[i]? = some (some b)) (hR' : Rel l2 φ' (M ++ X) w') (hK : Keeps φ M w φ' (M ++ X) w')
    (hS : ∀ (i : Nat) (b : Blk), HS'[i]? = some (some b) → ((i < M.length ∨ M.length + X.length ≤ i) ∧ HS[i]? = some (some b)) ∨ (M.length ≤ i ∧ i < M.length + X.length ∧ (M ++ X)[i]? = some (some b)))
    (hlen : HS'.length = HS.length) (hdom : M.length + X.length ≤ HS.length) : Rel lim φ' HS' w' := by
  have hMX : (M ++ X).length = M.length + X.length := List.length_append
  have hsame : ∀ i, i < M.length ∨ M.length + X.length ≤ i → φ' i = φ i := fun i hi => hK.same i (by omega)
  have hliveM : ∀ (i : Nat) (b : Blk), M[i]? = some (some b) → i < M.length := fun i b h => by
    rcases Nat.lt_or_ge i M.length with g | g
    · exact g
    · rw [List.getElem?_eq_none g] at h; cases h
  have hMM : ∀ (i : Nat) (b : Blk), M[i]? = some (some b) → (M ++ X)[i]? = some (some b) := fun i b h => by rw [List.getElem?_append_left (hliveM i b h)]; exact h
  have hnewown : ∀ (i : Nat) (b : Blk), M.length ≤ i → (M ++ X)[i]? = some (some b) → b.own = true := fun i b hi h => by
    rcases hK.kind i b h with g | ⟨c, g, _⟩
    · exact g
    · have := hliveM i c g; omega
  -- an old block and a new one lie apart
  have hapart : ∀ (i j : Nat) (b c : Blk) (k l : Nat × Nat × Nat), HS[i]? = some (some b) → φ i = some k → M.length ≤ j → (M ++ X)[j]? = some (some c) → φ' j = some l → k.1 ≠ l.1 := by
    intro i j b c k l hi ek hj hc el e
    rcases hK.own j c l hc (hnewown j c hj hc) el with g | ⟨i0, d, k0, h0, od, e0, hk0⟩
    · have := hR.lt hi ek; omega
    · have h1 := hMM i0 d h0
      have h2 := hK.ext i0 k0 e0
      have := hR'.inj i0 j d c k0 l h1 od hc h2 el hk0
      have := hliveM i0 d h0
      omega
  refine ⟨fun i hi hl => ?_, fun i b h => ?_, fun i j b c k l h o g ek el e => ?_, hR'.sld⟩
  · rw [hsame i (by omega)]; exact hR.dom i (by omega) hl
  · rcases hS i b h with ⟨hi, g⟩ | ⟨h1, h2, g⟩
    · obtain ⟨k, ek, hh⟩ := hR.blk i b g
      by_cases hown : ∃ i' b' k', M[i']? = some (some b') ∧ b'.own = true ∧ φ i' = some k' ∧ k'.1 = k.1
      · obtain ⟨i', b', k', g1, g2, g3, g4⟩ := hown
        have hii := hR.inj i' i b' b k' k (hM i' b' g1) g2 g g3 ek g4
        subst hii
        have hbb := hM i' b' g1
        rw [g] at hbb
        simp only [Option.some.injEq] at hbb
        subst hbb
        exact hR'.blk i' b (hMM i' b g1)
      · exact ⟨k, by rw [hsame i hi]; exact ek, hh.mono hK.ext (hK.old k.1 (hR.lt g ek) fun i' b' k' g1 g2 g3 g4 => hown ⟨i', b', k', g1, g2, g3, g4⟩)⟩
    · exact hR'.blk i b g
  · rcases hS i b h with ⟨hi, hb⟩ | ⟨h1, h2, hb⟩ <;> rcases hS j c g with ⟨hj, hc⟩ | ⟨h3, h4, hc⟩
    · rw [hsame i hi] at ek; rw [hsame j hj] at el
      exact hR.inj i j b c k l hb o hc ek el e
    · rw [hsame i hi] at ek
      exact absurd e (hapart i j b c k l hb ek h3 hc el)
    · rw [hsame j hj] at el
      exact absurd e.symm (hapart j i c b l k hc el h1 hb ek)
    · exact hR'.inj i j b c k l hb o hc ek el e
theorem Rel.sub {l2 : Nat} {M HS : Heap} (hR : Rel lim φ HS w) (hM : ∀ (i : Nat) (b : Blk), M[i]? = some (some b) → HS[i]? = some (some b)) (hd : ∀ i, M.length ≤ i → i < l2 → φ i = none) : Rel l2 φ M w :=
  ⟨hd, fun i b h => hR.blk i b (hM i b h), fun i j b c k l h o g ek el e => hR.inj i j b c k l (hM i b h) o (hM j c g) ek el e, hR.sld⟩
theorem FR.congr (h : FR N φ ρ a) (e : ∀ t, ρ' t = ρ t) : FR N φ ρ' a := ⟨h.1, fun t => by rw [e t]; exact h.2 t, h.glob⟩
theorem live_of {i : Nat} {b : Blk} (h : H[i]? = some (some b)) (hm : b.mp.it = none) : live H i = some b := live_iff.2 ⟨h, hm⟩
/-- What one step of the trace does to what has been noted. -/
structure Stp (H0 : Heap) (j : Nat) (d : DO) (st st' : DS) : Prop where
  ρ : ∀ t, d.dst ≠ some t → st'.ρ t = st.ρ t
  news : ∃ Y, st'.news = st.news ++ Y ∧ (∀ p ∈ Y, p.1 = j ∧ j ∈ st'.quiets) ∧ (st.chain ≠ [] → Y = [])
  chain : st'.chain = st.chain ∨ ∃ H2, st'.chain = (j, H2) :: st.chain
  loads : ∀ p ∈ st.loads, p ∈ st'.loads
  loads' : ∀ p ∈ st'.loads, p ∈ st.loads ∨ p.1 = j
  quiets : ∀ p ∈ st.quiets, p ∈ st'.quiets
  quiets' : ∀ p ∈ st'.quiets, p ∈ st.quiets ∨ p = j
  one : st'.chain = st.chain ∨ st'.news = st.news
theorem Sort3.stp {H0 : Heap} {j : Nat} {d : DO} {st st' : DS} (h : Sort3 C H0 j d st st') : Stp H0 j d st st' := by
  have hput : ∀ (v : Value) (t : Nat), d.dst ≠ some t → put st.ρ d.dst v t = st.ρ t := by
    intro v t ht
    cases hd : d.dst with
    | none => rfl
    | some q => simp only [put, upd]; rw [if_neg (fun e => ht (by rw [hd, e]))]
  rcases h with ⟨_, rfl⟩ | ⟨_, _, v, _, rfl⟩ | ⟨_, _, i, _, v, _, _, rfl⟩ | ⟨_, hch, v, X, _, rfl⟩ | ⟨_, _, _, v, H2, _, _, rfl⟩
  · exact ⟨hput _, ⟨[], by simp, by simp, fun _ => rfl⟩, .inl rfl, fun p h => h, fun p h => .inl h, fun p h => h, fun p h => .inl h, .inl rfl⟩
  · exact ⟨hput _, ⟨[], by simp, by simp, fun _ => rfl⟩, .inl rfl, fun p h => h, fun p h => .inl h, fun p h => h, fun p h => .inl h, .inl rfl⟩
  · exact ⟨hput _, ⟨[], by simp, by simp, fun _ => rfl⟩, .inl rfl, fun p h => List.mem_cons_of_mem _ h, fun p h => (List.mem_cons.1 h).elim (fun e => .inr (by rw [e])) .inl, fun p h => h, fun p h => .inl h, .inl rfl⟩
  · refine ⟨hput _, ⟨X.map fun b => (j, b), rfl, fun p hp => ?_, fun hne => absurd hch hne⟩, .inl rfl, fun p h => h, fun p h => .inl h, fun p h => List.mem_cons_of_mem _ h, fun p h => (List.mem_cons.1 h).elim .inr .inl, .inl rfl⟩
    obtain ⟨b, _, rfl⟩ := List.mem_map.1 hp
    exact ⟨rfl, List.mem_cons_self⟩
  · exact ⟨hput _, ⟨[], by simp, by simp, fun _ => rfl⟩, .inr ⟨H2, rfl⟩, fun p h => h, fun p h => .inl h, fun p h => h, fun p h => .inl h, .inr rfl⟩
/-- A trace. -/
structure Trace (C : CallSem) (H0 : Heap) (ρ0 : Fr) (ds : List DO) (tr : Nat → DS) : Prop where
  init : tr 0 = { ρ := ρ0 }
  step : ∀ (j : Nat) (d : DO), ds[j]? = some d → Sort3 C H0 j d (tr j) (tr (j + 1))
variable {H0 : Heap} {ρ0 : Fr} {ds : List DO} {tr : Nat → DS}
theorem Trace.stp (h : Trace C H0 ρ0 ds tr) {j : Nat} (hj : j < ds.length) : ∃ d, ds[j]? = some d ∧ Stp H0 j d (tr j) (tr (j + 1)) :=
  ⟨ds[j], List.getElem?_eq_getElem hj, (h.step j _ (List.getElem?_eq_getElem hj)).stp⟩
theorem Trace.later (h : Trace C H0 ρ0 ds tr) (j : Nat) : ∀ (n : Nat), j + n ≤ ds.length →
    (∃ Y, (tr (j + n)).news = (tr j).news ++ Y ∧ (∀ p ∈ Y, j ≤ p.1 ∧ p.1 < j + n ∧ p.1 ∈ (tr (j + n)).quiets) ∧ ((tr j).chain ≠ [] → Y = [])) ∧
    (∃ Z, (tr (j + n)).chain = Z ++ (tr j).chain ∧ ∀ p ∈ Z, j ≤ p.1 ∧ p.1 < j + n) ∧
    (∀ p ∈ (tr j).loads, p ∈ (tr (j + n)).loads) ∧ (∀ p ∈ (tr j).quiets, p ∈ (tr (j + n)).quiets) ∧
    (∀ t, (∀ i d, j ≤ i → i < j + n → ds[i]? = some d → d.dst ≠ some t) → (tr (j + n)).ρ t = (tr j).ρ t) := by
  intro n
  induction n with
  | zero => intro _; exact ⟨⟨[], by simp, by simp, fun _ => rfl⟩, ⟨[], by simp, by simp⟩, fun p h => h, fun p h => h, fun t _ => rfl⟩
  | succ n ih =>
    intro hn
    obtain ⟨⟨Y, h1, h2, h2'⟩, ⟨Z, h3, h4⟩, h5, h6, h7⟩ := ih (by omega)
    obtain ⟨d, hd, s⟩ := h.stp (j := j + n) (by omega)
    obtain ⟨Y', g1, g2, g3⟩ := s.news
    have e : j + (n + 1) = j + n + 1 := by omega
    rw [e]
    refine ⟨⟨Y ++ Y', by rw [g1, h1, List.append_assoc], fun p hp => ?_, fun hne => ?_⟩, ?_, fun p hp => s.loads p (h5 p hp), fun p hp => s.quiets p (h6 p hp), fun t ht => ?_⟩
    · rcases List.mem_append.1 hp with hp | hp
      · have := h2 p hp; exact ⟨this.1, by omega, s.quiets _ this.2.2⟩
      · have := g2 p hp; exact ⟨by omega, by omega, by rw [this.1]; exact this.2⟩
    · rw [h2' hne, g3 (by rw [h3]; simp [hne])]; rfl
    · rcases s.chain with g | ⟨H2, g⟩
      · exact ⟨Z, by rw [g, h3], fun p hp => by have := h4 p hp; omega⟩
      · refine ⟨(j + n, H2) :: Z, by rw [g, h3]; rfl, fun p hp => ?_⟩
        rcases List.mem_cons.1 hp with rfl | hp
        · exact ⟨by simp, by simp⟩
        · have := h4 p hp; omega
    · rw [s.ρ t (ht (j + n) d (by omega) (by omega) hd)]
      exact h7 t fun i d' a b c => ht i d' a (by omega) c
theorem Trace.upTo (h : Trace C H0 ρ0 ds tr) {j k : Nat} (hjk : j ≤ k) (hk : k ≤ ds.length) :
    (∃ Y, (tr k).news = (tr j).news ++ Y ∧ (∀ p ∈ Y, j ≤ p.1 ∧ p.1 < k ∧ p.1 ∈ (tr k).quiets) ∧ ((tr j).chain ≠ [] → Y = [])) ∧
    (∃ Z, (tr k).chain = Z ++ (tr j).chain ∧ ∀ p ∈ Z, j ≤ p.1 ∧ p.1 < k) ∧
    (∀ p ∈ (tr j).loads, p ∈ (tr k).loads) ∧ (∀ p ∈ (tr j).quiets, p ∈ (tr k).quiets) ∧
    (∀ t, (∀ i d, j ≤ i → i < k → ds[i]? = some d → d.dst ≠ some t) → (tr k).ρ t = (tr j).ρ t) := by
  have := h.later j (k - j) (by omega)
  have e : j + (k - j) = k := by omega
  rw [e] at this
  exact this
theorem Trace.bounds (h : Trace C H0 ρ0 ds tr) {k : Nat} (hk : k ≤ ds.length) : (∀ p ∈ (tr k).news, p.1 < k ∧ p.1 ∈ (tr k).quiets) ∧ (∀ p ∈ (tr k).chain, p.1 < k) := by
  obtain ⟨⟨Y, h1, h2, _⟩, ⟨Z, h3, h4⟩, _⟩ := h.upTo (Nat.zero_le k) hk
  rw [h.init] at h1 h3
  simp only [List.nil_append, List.append_nil] at h1 h3
  exact ⟨fun p hp => by rw [h1] at hp; exact ⟨(h2 p hp).2.1, (h2 p hp).2.2⟩, fun p hp => by rw [h3] at hp; exact (h4 p hp).2⟩
theorem Trace.nowLen (h : Trace C H0 ρ0 ds tr) (hC : CLen C) : ∀ (k : Nat), k ≤ ds.length → H0.length + (tr k).news.length ≤ ((tr k).now H0).length ∧ ∀ j, j ≤ k → ((tr j).now H0).length ≤ ((tr k).now H0).length := by
  intro k
  induction k with
  | zero => intro _; exact ⟨by rw [h.init]; simp [DS.now, fullOf], fun j hj => by have : j = 0 := by omega
                                                                                  rw [this]; exact Nat.le_refl _⟩
  | succ k ih =>
    intro hk
    obtain ⟨h1, h2⟩ := ih (by omega)
    have hs := h.step k _ (List.getElem?_eq_getElem (by omega : k < ds.length))
    have key : H0.length + (tr (k + 1)).news.length ≤ ((tr (k + 1)).now H0).length ∧ ((tr k).now H0).length ≤ ((tr (k + 1)).now H0).length := by
      rcases hs with ⟨_, e⟩ | ⟨_, _, v, _, e⟩ | ⟨_, _, i, _, v, _, _, e⟩ | ⟨_, hch, v, X, _, e⟩ | ⟨_, _, _, v, H2, hst, _, e⟩
      · rw [e]; exact ⟨h1, Nat.le_refl _⟩
      · rw [e]; exact ⟨h1, Nat.le_refl _⟩
      · rw [e]; exact ⟨h1, Nat.le_refl _⟩
      · rw [e]
        simp only [DS.now, hch, fullOf, List.length_append, List.length_map]
        constructor <;> omega
      · rw [e]
        have := stepC_len hC hst
        show H0.length + (tr k).news.length ≤ H2.length ∧ ((tr k).now H0).length ≤ H2.length
        omega
    refine ⟨key.1, fun j hj => ?_⟩
    rcases Nat.lt_or_ge j (k + 1) with g | g
    · exact Nat.le_trans (h2 j (by omega)) key.2
    · have : j = k + 1 := by omega
      rw [this]; exact Nat.le_refl _
end Go.Proofs.Ytoknmodbdlfdmaa.Sim
