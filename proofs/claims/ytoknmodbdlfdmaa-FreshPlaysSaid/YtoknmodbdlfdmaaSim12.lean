/- Regions that draw their order, IV: one operation more; all of them. -/
import Derived.Test.YtoknmodbdlfdmaaSim11
namespace Go.Proofs.Ytoknmodbdlfdmaa.Sim
open Go Go.RowKit
set_option linter.unusedVariables false
set_option linter.unusedSimpArgs false
variable {P : Program} {N : Nat} {C : CallSem} {ops : Array Oper} {ds : List DO} {H0 : Heap} {ρ0 : Fr} {tr : Nat → DS} {lim : Nat} {φ0 : Loc} {w0 : World} {a0 : Act}
theorem Kp.keep {top : Nat} {φ φ' φ'' : Loc} {H HS HS' : Heap} {w w' w'' : World} (k : Kp top φ H w φ' HS w') (g : Keeps φ' HS w' φ'' HS' w'') (h1 : H.length ≤ HS.length) (h2 : HS'.length ≤ top) : Kp top φ H w φ'' HS' w'' where
  os := g.os.trans k.os
  tape := g.tape.trans k.tape
  output := g.output.trans k.output
  size := Nat.le_trans k.size g.size
  ext := Loc.le_trans k.ext g.ext
  same := fun i hi => by
    rw [g.same i (by have := g.len; omega), k.same i hi]
  kind := fun j c h => by
    rcases g.kind j c h with e | ⟨d, e1, e2⟩
    · exact .inl e
    · rcases k.kind j d e1 with q | ⟨b, q1, q2⟩
      · exact .inl (e2 ▸ q)
      · exact .inr ⟨b, q1, q2.trans e2⟩
  own := fun j c l h o e => by
    rcases g.own j c l h o e with q | ⟨i, d, m, hi, od, em, hm⟩
    · exact .inl (Nat.le_trans k.size q)
    · rw [← hm]; exact k.own i d m hi od em
  old := fun n hn ho => by
    rw [g.old n (Nat.lt_of_lt_of_le hn k.size) fun j c l h o e => ?_]
    · exact k.old n hn ho
    · intro e'
      rcases k.own j c l h o e with q | ⟨i, d, m, hi, od, em, hm⟩
      · omega
      · exact ho i d m hi od em (hm.trans e')
theorem Ls_set {listed : Array Bool} {n j : Nat} (hs : listed.size = n) (hj : j < n) (i : Nat) : Ls (listed.setIfInBounds j true) i ↔ Ls listed i ∨ i = j := by
  unfold Ls
  simp only [Array.getD_eq_getD_getElem?, Array.getElem?_setIfInBounds]
  by_cases hij : j = i
  · subst hij; simp [hs, hj]
  · rw [if_neg hij]; constructor
    · exact .inl
    · rintro (h | h)
      · exact h
      · omega
theorem live_lt {H : Heap} {i : Nat} {b : Blk} (h : live H i = some b) : i < H.length := by
  have := live_some h
  rcases Nat.lt_or_ge i H.length with g | g
  · exact g
  · rw [List.getElem?_eq_none g] at this; cases this
set_option maxHeartbeats 1000000 in
theorem inv_step (hC : CSound P C) (hL : CLen C) (hok : DrawOk P N ops ds) (ht : Trace C H0 ρ0 ds tr) (hlim : ((tr ds.length).now H0).length ≤ lim) {Q : Exit → Act → World → Prop} {K : Act → World → Prop}
    {listed : Array Bool} {a : Act} {w : World} {φ : Loc} {HS : Heap} (hI : Inv ds H0 ρ0 tr lim N φ0 w0 a0 listed a w φ HS) {j : Nat} {o : Oper} (ho : ops[j]? = some o) (hnl : ¬ Ls listed j)
    (hready : ∀ e ∈ o.after, Region.binds .any e = true → Ls listed e.on)
    (hK : ∀ a' w' φ' HS', Inv ds H0 ρ0 tr lim N φ0 w0 a0 (listed.setIfInBounds j true) a' w' φ' HS' → K a' w') : wpOp P ops Q j K a w := by
  have hjo : j < ops.size := by
    rcases Nat.lt_or_ge j ops.size with g | g
    · exact g
    · rw [Array.getElem?_eq_none g] at ho; cases ho
  have hj : j < ds.length := by rw [hok.len]; exact hjo
  obtain ⟨d, hd⟩ : ∃ d, ds[j]? = some d := ⟨_, List.getElem?_eq_getElem hj⟩
  have hres := hok.res j o d ho hd
  obtain ⟨hop, hdst, hN⟩ := resolveRO_op hres
  have hb : ∀ i ∈ d.before, Ls listed i := fun i hi => by
    obtain ⟨e, he, hbind, hor⟩ := hok.before j o d ho hd i hi
    have hl := hready e he hbind
    rcases hor with rfl | ⟨d', hd', hi'⟩
    · exact hl
    · exact hI.cl _ d' hl hd' i hi'
  have hagree : ∀ t, (t ∈ looks d.op ∨ ∃ b, d.guard = some (t, b)) → (tr j).ρ t = frS ρ0 (tr ds.length).ρ ds (Ls listed) t := fun t h => frS_agree hok ht hd hb hI.cl hnl h
  have hg : guardOn (tr j).ρ d.guard = guardOn (frS ρ0 (tr ds.length).ρ ds (Ls listed)) d.guard := guard_congr fun s b h => hagree s (.inr ⟨b, h⟩)
  have hstepc : ∀ G, stepC C (frS ρ0 (tr ds.length).ρ ds (Ls listed)) G d.op = stepC C (tr j).ρ G d.op := fun G => (stepC_congr fun t h => hagree t (.inl h)).symm
  have hS := ht.step j d hd
  have hval := hS.val
  have hLs := Ls_set (j := j) hI.size hj
  have hcl : ∀ (j' : Nat) (d' : DO), Ls (listed.setIfInBounds j true) j' → ds[j']? = some d' → ∀ i ∈ d'.before, Ls (listed.setIfInBounds j true) i := by
    intro j' d' h1 h2 i hi
    rcases (hLs j').1 h1 with h | rfl
    · exact (hLs i).2 (.inl (hI.cl j' d' h h2 i hi))
    · rw [hd] at h2; cases h2; exact (hLs i).2 (.inl (hb i hi))
  have hsize : (listed.setIfInBounds j true).size = ds.length := by simp [hI.size]
  have hfr : ∀ (v v' : Value) (φ' : Loc) (a' : Act), (tr (j + 1)).ρ = put (tr j).ρ d.dst v → VR φ' v v' → Loc.le φ φ' → FR N φ' (frS ρ0 (tr ds.length).ρ ds (Ls (listed.setIfInBounds j true))) (a.put o.dst v') := by
    intro v v' φ' a' hv hvr hle
    have h1 := (hI.fr.mono hle).put hN hvr
    rw [hdst.symm] at h1
    rw [hdst.symm]
    exact h1.congr (frS_put hok ht hd hI.size v hv)
  have hbnd := ht.bounds (Nat.le_refl ds.length)
  obtain ⟨⟨Y, hY1, hY2, hY3⟩, ⟨Z, hZ1, hZ2⟩, hloads, hquiets, _⟩ := ht.upTo (show j + 1 ≤ ds.length by omega) (Nat.le_refl _)
  have hbndj := ht.bounds (Nat.le_of_lt hj)
  have hnowlen := ht.nowLen hL ds.length (Nat.le_refl _)
  have hH0 : H0.length ≤ HS.length := by
    rcases hI.heap with ⟨e, _⟩ | ⟨e, he, _, hc, _⟩
    · rw [e, layer_len]; omega
    · have h1 := (ht.nowLen hL (e + 1) (by omega)).1
      have : (tr (e + 1)).now H0 = HS := by simp only [DS.now, hc]
      rw [this] at h1; omega
  have hHS : HS.length ≤ ((tr ds.length).now H0).length := by
    rcases hI.heap with ⟨e, _⟩ | ⟨e, he, _, hc, _⟩
    · rw [e, layer_len]; exact hnowlen.1
    · have h1 := hnowlen.2 (e + 1) (by omega)
      have : (tr (e + 1)).now H0 = HS := by simp only [DS.now, hc]
      rw [this] at h1; exact h1
  -- an operation that touches neither the news nor the chain
  have hkeepheap : (tr (j + 1)).news = (tr j).news → (tr (j + 1)).chain = (tr j).chain → ∀ (φ' : Loc), (∀ i, φ' i = φ i) →
      (HS = layer H0 (tr ds.length).news (Ls (listed.setIfInBounds j true)) ∧ (∀ p ∈ (tr ds.length).chain, ¬ Ls (listed.setIfInBounds j true) p.1) ∧ (∀ (k : Nat) (p : Nat × Option Blk), (tr ds.length).news[k]? = some p → ¬ Ls (listed.setIfInBounds j true) p.1 → φ' (H0.length + k) = none)) ∨
      (∃ e, e < ds.length ∧ Ls (listed.setIfInBounds j true) e ∧ (tr (e + 1)).chain = (e, HS) :: (tr e).chain ∧ (∀ p ∈ (tr ds.length).chain, Ls (listed.setIfInBounds j true) p.1 ↔ p.1 ≤ e)) := by
    intro hn hc φ' hφ
    have hnn : ∀ p ∈ (tr ds.length).news, p.1 ≠ j := by
      intro p hp
      rw [hY1, hn] at hp
      rcases List.mem_append.1 hp with h | h
      · have := (hbndj.1 p h).1; omega
      · have := (hY2 p h).1; omega
    have hcn : ∀ p ∈ (tr ds.length).chain, p.1 ≠ j := by
      intro p hp
      rw [hZ1, hc] at hp
      rcases List.mem_append.1 hp with h | h
      · have := (hZ2 p h).1; omega
      · have := hbndj.2 p h; omega
    rcases hI.heap with ⟨e1, e2, e3⟩ | ⟨e, e1, e2, e3, e4⟩
    · left
      refine ⟨?_, fun p hp h => ?_, fun k p hk h => ?_⟩
      · rw [e1]
        unfold layer
        congr 1
        apply List.map_congr_left
        intro p hp
        have := hLs p.1
        have hne := hnn p hp
        by_cases h1 : Ls listed p.1
        · rw [if_pos h1, if_pos (this.2 (.inl h1))]
        · rw [if_neg h1, if_neg fun h => (this.1 h).elim h1 hne]
      · rcases (hLs p.1).1 h with h | h
        · exact e2 p hp h
        · exact hcn p hp h
      · rw [hφ]
        exact e3 k p hk fun h1 => h ((hLs p.1).2 (.inl h1))
    · right
      refine ⟨e, e1, (hLs e).2 (.inl e2), e3, fun p hp => ?_⟩
      rw [← e4 p hp, hLs]
      constructor
      · rintro (h | h)
        · exact h
        · exact absurd h (hcn p hp)
      · exact .inl
  unfold wpOp
  rw [ho]
  simp only
  rw [wanted_ok hres hI.fr, ← hg]
  rcases hS with ⟨hgo, e⟩ | ⟨hgo, hp, v, hst, e⟩ | ⟨hgo, hp, i, hi, v, hst, hc, e⟩ | ⟨hgo, hch, v, X, hst, e⟩ | ⟨hgo, hq, hc, v, H2, hst, hl, e⟩
  · rw [hgo, if_neg (by simp)]
    exact hK _ _ φ HS ⟨hsize, hcl, hI.rel, hfr undef undef φ a (by rw [e]) (.tuple .nil) (Loc.le_refl _), (defers_put _ _ _).trans hI.defers, hI.kp, hkeepheap (by rw [e]) (by rw [e]) φ fun _ => rfl⟩
  · rw [hgo, if_pos rfl]
    left
    obtain ⟨_, h2⟩ := pure_any hp hst HS
    rw [← hstepc] at h2
    refine stepC_wp hC hop h2 (by omega) hI.rel hI.fr fun v' w' φ' k1 k2 k3 => ?_
    exact hK _ _ φ' HS ⟨hsize, hcl, k2, hfr v v' φ' a (by rw [e]) k1 k3.ext, (defers_put _ _ _).trans hI.defers, hI.kp.keep k3 hH0 hHS, hkeepheap (by rw [e]) (by rw [e]) φ' fun i => k3.same i (by omega)⟩
  · rw [hgo, if_pos rfl]
    left
    have hlive : live HS i = live ((tr j).now H0) i := by
      obtain ⟨_, _, b, hbl⟩ := load_any hp hi hst (G := (tr j).now H0) rfl
      have hmask : (tr j).chain = [] ∨ (live (maskOf H0 (tr j).news d.before) i = live ((tr j).now H0) i ∧ ∀ p ∈ (tr j).chain, live p.2 i = live ((tr j).now H0) i) ∨ (∀ e ∈ (tr j).chain.map (·.1), e ∈ d.before) := by
        rcases hc with ⟨h, _⟩ | h
        · exact .inr (.inr h)
        · exact .inr (.inl h)
      rcases hI.heap with ⟨e1, e2, _⟩ | ⟨e', e1, e2, e3, e4⟩
      · have hm : live (maskOf H0 (tr j).news d.before) i = live ((tr j).now H0) i := by
          rcases hc with ⟨h1, h2⟩ | ⟨h1, _⟩
          · refine h2 ?_
            cases hcc : (tr j).chain with
            | nil => rfl
            | cons p l =>
              have hpm : p ∈ (tr j).chain := by rw [hcc]; exact List.mem_cons_self
              have hpb := hb _ (h1 p.1 (List.mem_map.2 ⟨p, hpm, rfl⟩))
              have hpf : p ∈ (tr ds.length).chain := by
                rw [hZ1, e]; exact List.mem_append_right _ hpm
              exact absurd hpb (e2 p hpf)
          · exact h1
        rw [hbl] at hm ⊢
        refine live_of ?_ (live_mp hm)
        rw [e1, layer_get]
        rcases (mask_get _ _ _ _).1 (live_some hm) with h | ⟨h1, p, h2, h3, h4⟩
        · exact .inl h
        · refine .inr ⟨h1, p, ?_, hb _ h3, h4⟩
          rw [hY1, e]
          have : i - H0.length < (tr j).news.length := by
            rcases Nat.lt_or_ge (i - H0.length) (tr j).news.length with g | g
            · exact g
            · rw [List.getElem?_eq_none g] at h2; cases h2
          rw [List.getElem?_append_left this]; exact h2
      · have hne : e' ≠ j := fun h => hnl (h ▸ e2)
        have hnow : (tr (e' + 1)).now H0 = HS := by simp only [DS.now, e3]
        rcases Nat.lt_or_ge e' j with g | g
        · obtain ⟨_, ⟨Z', hz1, hz2⟩, _⟩ := ht.upTo (show e' + 1 ≤ j by omega) (Nat.le_of_lt hj)
          rw [e3] at hz1
          rcases hc with ⟨h1, _⟩ | ⟨_, h2⟩
          · have hZnil : Z' = [] := by
              cases hZc : Z' with
              | nil => rfl
              | cons p l =>
                have hpm : p ∈ (tr j).chain := by rw [hz1, hZc]; exact List.mem_cons_self
                have hpf : p ∈ (tr ds.length).chain := by rw [hZ1, e]; exact List.mem_append_right _ hpm
                have h3 := (e4 p hpf).1 (hb _ (h1 p.1 (List.mem_map.2 ⟨p, hpm, rfl⟩)))
                have := (hz2 p (by rw [hZc]; exact List.mem_cons_self)).1
                omega
            have : (tr j).now H0 = HS := by simp only [DS.now, hz1, hZnil, List.nil_append]
            rw [this]
          · exact h2 (e', HS) (by rw [hz1]; exact List.mem_append_right _ List.mem_cons_self)
        · have g' : j < e' := by omega
          have hb1 : live ((tr (j + 1)).now H0) i = some b := by rw [e]; exact hbl
          have hld : (j, i) ∈ (tr (j + 1)).loads := by rw [e]; exact List.mem_cons_self
          have := pres ht hld hb1 (e' - j) (by omega) (fun p hp d' h1 h2 h3 => by
            have he : j + 1 + (e' - j) = e' + 1 := by omega
            rw [he] at hp
            have hple : p.1 ≤ e' := by
              have := (ht.bounds (show e' + 1 ≤ ds.length by omega)).2 p hp; omega
            have hpf : p ∈ (tr ds.length).chain := by
              obtain ⟨_, ⟨Z', hz1, _⟩, _⟩ := ht.upTo (show e' + 1 ≤ ds.length by omega) (Nat.le_refl _)
              rw [hz1]; exact List.mem_append_right _ hp
            exact hnl (hI.cl _ d' ((e4 p hpf).2 hple) h2 j h3))
          have he : j + 1 + (e' - j) = e' + 1 := by omega
          rw [he, hnow] at this
          rw [this, hbl]
    obtain ⟨_, h2, _⟩ := load_any hp hi hst hlive
    rw [← hstepc] at h2
    refine stepC_wp hC hop h2 (by omega) hI.rel hI.fr fun v' w' φ' k1 k2 k3 => ?_
    exact hK _ _ φ' HS ⟨hsize, hcl, k2, hfr v v' φ' a (by rw [e]) k1 k3.ext, (defers_put _ _ _).trans hI.defers, hI.kp.keep k3 hH0 hHS, hkeepheap (by rw [e]) (by rw [e]) φ' fun i => k3.same i (by omega)⟩
  · rw [hgo, if_pos rfl]
    left
    -- no operation of the chain has been done
    rcases hI.heap with ⟨e1, e2, e3⟩ | ⟨e', e1, e2, e3, e4⟩
    · have hnews : (tr (j + 1)).news = (tr j).news ++ X.map fun b => (j, b) := by rw [e]
      rw [hnews] at hY1
      have hMlen : (maskOf H0 (tr j).news d.before).length = H0.length + (tr j).news.length := by simp [maskOf]
      have hNlen : (tr ds.length).news.length = (tr j).news.length + X.length + Y.length := by rw [hY1]; simp only [List.length_append, List.length_map]
      have hM : ∀ (i : Nat) (b : Blk), (maskOf H0 (tr j).news d.before)[i]? = some (some b) → HS[i]? = some (some b) := by
        intro i b h
        rw [e1, layer_get]
        rcases (mask_get _ _ _ _).1 h with h | ⟨h1, p, h2, h3, h4⟩
        · exact .inl h
        · refine .inr ⟨h1, p, ?_, hb _ h3, h4⟩
          have : i - H0.length < (tr j).news.length := by
            rcases Nat.lt_or_ge (i - H0.length) (tr j).news.length with g | g
            · exact g
            · rw [List.getElem?_eq_none g] at h2; cases h2
          rw [hY1, List.append_assoc, List.getElem?_append_left this]; exact h2
      have hnewget : ∀ k, (tr j).news.length ≤ k → k < (tr j).news.length + X.length → ∃ b, (tr ds.length).news[k]? = some (j, b) ∧ X[k - (tr j).news.length]? = some b := by
        intro k h1 h2
        obtain ⟨b, hbx⟩ : ∃ b, X[k - (tr j).news.length]? = some b := ⟨_, List.getElem?_eq_getElem (by omega)⟩
        refine ⟨b, ?_, hbx⟩
        rw [hY1, List.append_assoc, List.getElem?_append_right h1, List.getElem?_append_left (by simp; omega), List.getElem?_map, hbx]; rfl
      have hsub : Rel ((maskOf H0 (tr j).news d.before).length + X.length) φ (maskOf H0 (tr j).news d.before) w := hI.rel.sub hM fun i h1 h2 => by
        rw [hMlen] at h1 h2
        obtain ⟨b, hb1, _⟩ := hnewget (i - H0.length) (by omega) (by omega)
        have := e3 _ _ hb1 hnl
        have he : H0.length + (i - H0.length) = i := by omega
        rw [he] at this; exact this
      have hst' := hst
      rw [← hstepc] at hst'
      refine stepC_wp hC hop hst' (by simp) hsub hI.fr fun v' w' φ' k1 k2 k3 => ?_
      have hnn : ∀ p, (p ∈ (tr j).news ∨ p ∈ Y) → p.1 ≠ j := by
        rintro p (h | h)
        · have := (hbndj.1 p h).1; omega
        · have := (hY2 p h).1; omega
      have hlay : ∀ (i : Nat) (b : Blk), (layer H0 (tr ds.length).news (Ls (listed.setIfInBounds j true)))[i]? = some (some b) →
          ((i < (maskOf H0 (tr j).news d.before).length ∨ (maskOf H0 (tr j).news d.before).length + X.length ≤ i) ∧ HS[i]? = some (some b)) ∨
          ((maskOf H0 (tr j).news d.before).length ≤ i ∧ i < (maskOf H0 (tr j).news d.before).length + X.length ∧ (maskOf H0 (tr j).news d.before ++ X)[i]? = some (some b)) := by
        intro i b h
        rw [hMlen]
        rcases (layer_get _ _ _ _).1 h with h1 | ⟨h1, p, h2, h3, h4⟩
        · left
          refine ⟨.inl (by omega), ?_⟩
          rw [e1, layer_get]; exact .inl h1
        · by_cases hr : (tr j).news.length ≤ i - H0.length ∧ i - H0.length < (tr j).news.length + X.length
          · right
            obtain ⟨b', hb1, hb2⟩ := hnewget (i - H0.length) hr.1 hr.2
            rw [h2] at hb1
            simp only [Option.some.injEq] at hb1
            subst hb1
            simp only at h4
            subst h4
            refine ⟨by omega, by omega, ?_⟩
            rw [List.getElem?_append_right (by omega), hMlen]
            have : i - (H0.length + (tr j).news.length) = i - H0.length - (tr j).news.length := by omega
            rw [this]; exact hb2
          · left
            refine ⟨by omega, ?_⟩
            rw [e1, layer_get]
            refine .inr ⟨h1, p, h2, ?_, h4⟩
            have hpj : p.1 ≠ j := by
              refine hnn p ?_
              have hk : i - H0.length < (tr j).news.length ∨ (tr j).news.length + X.length ≤ i - H0.length := by omega
              rcases hk with hk | hk
              · left
                rw [hY1, List.append_assoc, List.getElem?_append_left hk] at h2
                exact List.mem_of_getElem? h2
              · right
                rw [hY1, List.getElem?_append_right (by simp; omega)] at h2
                exact List.mem_of_getElem? h2
            rcases (hLs p.1).1 h3 with h3 | h3
            · exact h3
            · exact absurd h3 hpj
      have hSlen : (layer H0 (tr ds.length).news (Ls (listed.setIfInBounds j true))).length = HS.length := by rw [e1, layer_len, layer_len]
      have hfin := frame_quiet hI.rel hM k2 k3 hlay hSlen (by rw [hMlen, e1, layer_len]; omega)
      refine hK _ _ φ' _ ⟨hsize, hcl, hfin, hfr v v' φ' a (by rw [e]) k1 k3.ext, (defers_put _ _ _).trans hI.defers, ?_, .inl ⟨rfl, fun p hp h => ?_, fun k p hk h => ?_⟩⟩
      · have hMX : (maskOf H0 (tr j).news d.before ++ X).length = H0.length + (tr j).news.length + X.length := by rw [List.length_append, hMlen]
        have htop : H0.length + (tr j).news.length + X.length ≤ ((tr ds.length).now H0).length := by have := hnowlen.1; omega
        have k := hI.kp
        refine ⟨k3.os.trans k.os, k3.tape.trans k.tape, k3.output.trans k.output, Nat.le_trans k.size k3.size, Loc.le_trans k.ext k3.ext, fun i hi => ?_, fun i c h => ?_, fun i c l h o el => ?_, fun n hn hno => ?_⟩
        · rw [k3.same i (by rw [hMX, hMlen]; omega), k.same i hi]
        · rcases hlay i c h with ⟨_, h1⟩ | ⟨h1, h2, h3⟩
          · exact k.kind i c h1
          · left
            rcases k3.kind i c h3 with q | ⟨b, q, _⟩
            · exact q
            · rcases Nat.lt_or_ge i (maskOf H0 (tr j).news d.before).length with g | g
              · omega
              · rw [List.getElem?_eq_none g] at q; cases q
        · rcases hlay i c h with ⟨hr, h1⟩ | ⟨h1, h2, h3⟩
          · have hs : φ' i = φ i := k3.same i (by rw [hMX, ← hMlen]; exact hr)
            rw [hs] at el
            exact k.own i c l h1 o el
          · rcases k3.own i c l h3 o el with q | ⟨i', b, m, q1, q2, q3, q4⟩
            · exact .inl (Nat.le_trans k.size q)
            · rw [← q4]; exact k.own i' b m (hM i' b q1) q2 q3
        · rw [k3.old n (Nat.lt_of_lt_of_le hn k.size) fun i' c l h o el => ?_]
          · exact k.old n hn hno
          · intro eq
            rcases k.own i' c l (hM i' c h) o el with q | ⟨i2, d2, m, q1, q2, q3, q4⟩
            · omega
            · exact hno i2 d2 m q1 q2 q3 (q4.trans eq)
      · rcases (hLs p.1).1 h with h | h
        · exact e2 p hp h
        · rw [hZ1, e] at hp
          simp only [hch, List.append_nil] at hp
          have := (hZ2 p hp).1
          omega
      · have hnl' : ¬ Ls listed p.1 := fun h1 => h ((hLs p.1).2 (.inl h1))
        have hpj : p.1 ≠ j := fun h1 => h ((hLs p.1).2 (.inr h1))
        have hrange : k < (tr j).news.length ∨ (tr j).news.length + X.length ≤ k := by
          rcases Nat.lt_or_ge k (tr j).news.length with g | g
          · exact .inl g
          · rcases Nat.lt_or_ge k ((tr j).news.length + X.length) with g' | g'
            · obtain ⟨b, hb1, _⟩ := hnewget k g g'
              rw [hk] at hb1
              simp only [Option.some.injEq] at hb1
              exact absurd (by rw [hb1]) hpj
            · exact .inr g'
        rw [k3.same _ (by rw [List.length_append, hMlen]; omega)]
        exact e3 k p hk hnl'
    · exfalso
      have hne : e' ≠ j := fun h => hnl (h ▸ e2)
      have hge : j < e' := by
        rcases Nat.lt_or_ge e' j with g | g
        · obtain ⟨_, ⟨Z', hz1, _⟩, _⟩ := ht.upTo (show e' + 1 ≤ j by omega) (Nat.le_of_lt hj)
          rw [hch, e3] at hz1
          simp at hz1
        · omega
      have he'd : ds[e']? = some ds[e'] := List.getElem?_eq_getElem e1
      have hSe := ht.step e' _ he'd
      have hqj : j ∈ (tr e').quiets := by
        obtain ⟨_, _, _, h4, _⟩ := ht.upTo (show j + 1 ≤ e' by omega) (show e' ≤ ds.length by omega)
        exact h4 j (by rw [e]; exact List.mem_cons_self)
      have hno : ∀ (x : List (Nat × Heap)), (tr (e' + 1)).chain = (tr e').chain → False := by
        intro _ h; rw [e3] at h; exact absurd (congrArg List.length h) (by simp)
      rcases hSe with ⟨_, q⟩ | ⟨_, _, v2, _, q⟩ | ⟨_, _, i2, _, v2, _, _, q⟩ | ⟨_, _, v2, X2, _, q⟩ | ⟨_, hq2, _, v2, H22, _, _, q⟩
      · exact hno [] (by rw [q])
      · exact hno [] (by rw [q])
      · exact hno [] (by rw [q])
      · exact hno [] (by rw [q])
      · exact hnl (hI.cl e' _ e2 he'd j (hq2 j hqj))
  · rw [hgo, if_pos rfl]
    left
    have hchj : (tr (j + 1)).chain = (j, H2) :: (tr j).chain := by rw [e]
    have hnewsj : (tr (j + 1)).news = (tr j).news := by rw [e]
    have hYnil : Y = [] := hY3 (by rw [hchj]; simp)
    have hNEWS : (tr ds.length).news = (tr j).news := by rw [hY1, hYnil, List.append_nil, hnewsj]
    have hchin : ∀ p ∈ (tr j).chain, p ∈ (tr ds.length).chain := fun p hp => by rw [hZ1, hchj]; exact List.mem_append_right _ (List.mem_cons_of_mem _ hp)
    have hnow : HS = (tr j).now H0 := by
      rcases hI.heap with ⟨e1, e2, _⟩ | ⟨e', e1, e2, e3, e4⟩
      · have hcn : (tr j).chain = [] := by
          cases hcc : (tr j).chain with
          | nil => rfl
          | cons p l =>
            have hpm : p ∈ (tr j).chain := by rw [hcc]; exact List.mem_cons_self
            exact absurd (hb _ (hc p.1 (List.mem_map.2 ⟨p, hpm, rfl⟩))) (e2 p (hchin p hpm))
        have : (tr j).now H0 = fullOf H0 (tr j).news := by simp only [DS.now, hcn]
        rw [this, e1, hNEWS]
        unfold layer fullOf
        congr 1
        apply List.map_congr_left
        intro p hp
        rw [if_pos (hb _ (hq _ (hbndj.1 p hp).2))]
      · have hne : e' ≠ j := fun h => hnl (h ▸ e2)
        have hlt : e' < j := by
          rcases Nat.lt_or_ge e' j with g | g
          · exact g
          · exfalso
            have he'd : ds[e']? = some ds[e'] := List.getElem?_eq_getElem e1
            have hje : (j, H2) ∈ (tr e').chain := by
              obtain ⟨_, ⟨Z', hz1, _⟩, _⟩ := ht.upTo (show j + 1 ≤ e' by omega) (show e' ≤ ds.length by omega)
              rw [hz1, hchj]; exact List.mem_append_right _ List.mem_cons_self
            have hno : (tr (e' + 1)).chain = (tr e').chain → False := by
              intro h; rw [e3] at h; exact absurd (congrArg List.length h) (by simp)
            rcases ht.step e' _ he'd with ⟨_, q⟩ | ⟨_, _, v2, _, q⟩ | ⟨_, _, i2, _, v2, _, _, q⟩ | ⟨_, _, v2, X2, _, q⟩ | ⟨_, _, hc2, v2, H22, _, _, q⟩
            · exact hno (by rw [q])
            · exact hno (by rw [q])
            · exact hno (by rw [q])
            · exact hno (by rw [q])
            · exact hnl (hI.cl e' _ e2 he'd j (hc2 j (List.mem_map.2 ⟨(j, H2), hje, rfl⟩)))
        obtain ⟨_, ⟨Z', hz1, hz2⟩, _⟩ := ht.upTo (show e' + 1 ≤ j by omega) (Nat.le_of_lt hj)
        rw [e3] at hz1
        have hZnil : Z' = [] := by
          cases hZc : Z' with
          | nil => rfl
          | cons p l =>
            have hpm : p ∈ (tr j).chain := by rw [hz1, hZc]; exact List.mem_cons_self
            have h3 := (e4 p (hchin p hpm)).1 (hb _ (hc p.1 (List.mem_map.2 ⟨p, hpm, rfl⟩)))
            have := (hz2 p (by rw [hZc]; exact List.mem_cons_self)).1
            omega
        simp only [DS.now, hz1, hZnil, List.nil_append]
    rw [← hstepc, ← hnow] at hst
    have hH2 : H2.length ≤ ((tr ds.length).now H0).length := by
      have := hnowlen.2 (j + 1) (by omega)
      have h1 : (tr (j + 1)).now H0 = H2 := by simp only [DS.now, hchj]
      rw [h1] at this; exact this
    refine stepC_wp hC hop hst (by omega) hI.rel hI.fr fun v' w' φ' k1 k2 k3 => ?_
    refine hK _ _ φ' H2 ⟨hsize, hcl, k2, hfr v v' φ' a (by rw [e]) k1 k3.ext, (defers_put _ _ _).trans hI.defers, hI.kp.keep k3 hH0 hH2, .inr ⟨j, hj, (hLs j).2 (.inr rfl), hchj, fun p hp => ?_⟩⟩
    rw [hLs]
    constructor
    · rintro (h | h)
      · rcases hI.heap with ⟨_, e2, _⟩ | ⟨e', e1, e2, e3, e4⟩
        · exact absurd h (e2 p hp)
        · have h1 := (e4 p hp).1 h
          rcases Nat.lt_or_ge j e' with g | g
          · exfalso
            have he'd : ds[e']? = some ds[e'] := List.getElem?_eq_getElem e1
            have hje : (j, H2) ∈ (tr e').chain := by
              obtain ⟨_, ⟨Z', hz1, _⟩, _⟩ := ht.upTo (show j + 1 ≤ e' by omega) (show e' ≤ ds.length by omega)
              rw [hz1, hchj]; exact List.mem_append_right _ List.mem_cons_self
            have hno : (tr (e' + 1)).chain = (tr e').chain → False := by
              intro h; rw [e3] at h; exact absurd (congrArg List.length h) (by simp)
            rcases ht.step e' _ he'd with ⟨_, q⟩ | ⟨_, _, v2, _, q⟩ | ⟨_, _, i2, _, v2, _, _, q⟩ | ⟨_, _, v2, X2, _, q⟩ | ⟨_, _, hc2, v2, H22, _, _, q⟩
            · exact hno (by rw [q])
            · exact hno (by rw [q])
            · exact hno (by rw [q])
            · exact hno (by rw [q])
            · exact hnl (hI.cl e' _ e2 he'd j (hc2 j (List.mem_map.2 ⟨(j, H2), hje, rfl⟩)))
          · omega
      · omega
    · intro h
      by_cases hpj : p.1 = j
      · exact .inr hpj
      · left
        have hpm : p ∈ (tr j).chain := by
          rw [hZ1, hchj] at hp
          rcases List.mem_append.1 hp with h1 | h1
          · have := (hZ2 p h1).1; omega
          · rcases List.mem_cons.1 h1 with h1 | h1
            · exact absurd (by rw [h1]) hpj
            · exact h1
        exact hb _ (hc p.1 (List.mem_map.2 ⟨p, hpm, rfl⟩))
end Go.Proofs.Ytoknmodbdlfdmaa.Sim
