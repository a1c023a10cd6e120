/- Regions that draw, V; code; functions: what the plain heap's run says, the model does. -/
import Derived.Test.YtoknmodbdlfdmaaSim12
namespace Go.Proofs.Ytoknmodbdlfdmaa.Sim
open Go Go.RowKit
set_option linter.unusedVariables false
set_option linter.unusedSimpArgs false
variable {P : Program} {N : Nat} {C : CallSem} {ops : Array Oper} {ds : List DO} {H0 : Heap} {ρ0 : Fr} {tr : Nat → DS} {lim : Nat} {φ0 : Loc} {w0 : World} {a0 : Act}
theorem unlisted_step {n : Nat} {listed : Array Bool} {j : Nat} (hs : listed.size = n) (hj : j < n) (hn : ¬ Ls listed j) :
    (List.range n).countP (fun i => !listed.getD i true) = (List.range n).countP (fun i => !(listed.setIfInBounds j true).getD i true) + 1 := by
  have hget : ∀ i, i < n → (listed.setIfInBounds j true).getD i true = if j = i then true else listed.getD i true := by
    intro i hi
    simp only [Array.getD_eq_getD_getElem?, Array.getElem?_setIfInBounds]
    by_cases h : j = i
    · subst h; simp [hs, hj]
    · rw [if_neg h, if_neg h]
  have hfj : listed.getD j true = false := by
    unfold Ls at hn
    have : ∃ b, listed[j]? = some b := ⟨_, Array.getElem?_eq_getElem (by omega)⟩
    obtain ⟨b, hb⟩ := this
    simp only [Array.getD_eq_getD_getElem?, hb, Option.getD_some] at hn ⊢
    simpa using hn
  have key : ∀ (l : List Nat), l.Nodup → (∀ i ∈ l, i < n) → j ∈ l → l.countP (fun i => !listed.getD i true) = l.countP (fun i => !(listed.setIfInBounds j true).getD i true) + 1 := by
    intro l
    induction l with
    | nil => intro _ _ h; cases h
    | cons x l ih =>
      intro hnd hlt hm
      simp only [List.nodup_cons] at hnd
      rw [List.countP_cons, List.countP_cons]
      rcases List.mem_cons.1 hm with rfl | hm
      · have e : l.countP (fun i => !listed.getD i true) = l.countP (fun i => !(listed.setIfInBounds j true).getD i true) := by
          apply List.countP_congr
          intro i hi
          have : j ≠ i := fun h => hnd.1 (h ▸ hi)
          rw [hget i (hlt i (List.mem_cons_of_mem _ hi)), if_neg this]
        rw [e, hget j hj, if_pos rfl, hfj]; simp
      · have hx : x ≠ j := fun h => hnd.1 (h ▸ hm)
        rw [ih hnd.2 (fun i hi => hlt i (List.mem_cons_of_mem _ hi)) hm, hget x (hlt x List.mem_cons_self)]
        have hjx : ¬ (j = x) := fun h => hx h.symm
        simp only [hjx, if_false]
        omega
  exact key _ List.nodup_range (fun i hi => List.mem_range.1 hi) (List.mem_range.2 hj)
theorem ready_mem {listed : Array Bool} {j : Nat} (h : j ∈ Region.ready .any ops listed) (hs : listed.size = ops.size) : ¬ Ls listed j ∧ ∃ o, ops[j]? = some o ∧ ∀ e ∈ o.after, Region.binds .any e = true → Ls listed e.on := by
  unfold Region.ready at h
  rw [List.mem_filter] at h
  obtain ⟨hr, h⟩ := h
  rw [List.mem_range] at hr
  simp only [Bool.and_eq_true, Bool.not_eq_true'] at h
  obtain ⟨h1, h2⟩ := h
  have hb : ∃ b, listed[j]? = some b := ⟨_, Array.getElem?_eq_getElem (by omega)⟩
  obtain ⟨b, hb⟩ := hb
  refine ⟨?_, ops[j], Array.getElem?_eq_getElem hr, fun e he hbind => ?_⟩
  · unfold Ls
    simp only [Array.getD_eq_getD_getElem?, hb, Option.getD_some] at h1 ⊢
    rw [h1]; simp
  · rw [Array.getElem?_eq_getElem hr] at h2
    simp only [Option.map_some, Option.getD_some] at h2
    have := Array.all_eq_true_iff_forall_mem.1 h2 e he
    rw [hbind] at this
    simpa [Ls] using this
theorem ready_of {listed : Array Bool} {j : Nat} (hj : j < ops.size) (hs : listed.size = ops.size) (hn : ¬ Ls listed j) (h : ∀ o, ops[j]? = some o → ∀ e ∈ o.after, Region.binds .any e = true → Ls listed e.on) : j ∈ Region.ready .any ops listed := by
  unfold Region.ready
  rw [List.mem_filter, List.mem_range]
  refine ⟨hj, ?_⟩
  have hb : ∃ b, listed[j]? = some b := ⟨_, Array.getElem?_eq_getElem (by omega)⟩
  obtain ⟨b, hb⟩ := hb
  have hbf : b = false := by
    unfold Ls at hn
    simp only [Array.getD_eq_getD_getElem?, hb, Option.getD_some] at hn
    simpa using hn
  simp only [Bool.and_eq_true, Bool.not_eq_true', Array.getD_eq_getD_getElem?, hb, Option.getD_some]
  refine ⟨hbf, ?_⟩
  rw [Array.getElem?_eq_getElem hj]
  simp only [Option.map_some, Option.getD_some]
  rw [Array.all_eq_true_iff_forall_mem]
  intro e he
  by_cases hbind : Region.binds .any e = true
  · have := h _ (Array.getElem?_eq_getElem hj) e he hbind
    unfold Ls at this
    simp only [Array.getD_eq_getD_getElem?] at this
    rw [hbind]; simpa using this
  · simp [hbind]
theorem draw_any (hC : CSound P C) (hL : CLen C) (hok : DrawOk P N ops ds) (ht : Trace C H0 ρ0 ds tr) (hlim : ((tr ds.length).now H0).length ≤ lim) {Q : Exit → Act → World → Prop}
    (hQ : ∀ a' w' φ', a'.defers = a0.defers → FR N φ' (tr ds.length).ρ a' → Rel lim φ' ((tr ds.length).now H0) w' → Keeps φ0 H0 w0 φ' ((tr ds.length).now H0) w' → Q .normal a' w') :
    ∀ (fuel : Nat) (listed : Array Bool) (a : Act) (w : World) (φ : Loc) (HS : Heap), Inv ds H0 ρ0 tr lim N φ0 w0 a0 listed a w φ HS → (List.range ds.length).countP (fun i => !listed.getD i true) = fuel → wpAny P .any ops Q fuel listed a w := by
  have hend : ∀ (listed : Array Bool) (a : Act) (w : World) (φ : Loc) (HS : Heap), Inv ds H0 ρ0 tr lim N φ0 w0 a0 listed a w φ HS → (∀ j, j < ds.length → Ls listed j) → Q .normal a w := by
    intro listed a w φ HS hI hall
    have hbnd := ht.bounds (Nat.le_refl ds.length)
    have hnow : HS = (tr ds.length).now H0 := by
      rcases hI.heap with ⟨e1, e2, _⟩ | ⟨e, e1, e2, e3, e4⟩
      · have hcn : (tr ds.length).chain = [] := by
          cases hcc : (tr ds.length).chain with
          | nil => rfl
          | cons p l =>
            have hpm : p ∈ (tr ds.length).chain := by rw [hcc]; exact List.mem_cons_self
            exact absurd (hall _ (hbnd.2 p hpm)) (e2 p hpm)
        have : (tr ds.length).now H0 = fullOf H0 (tr ds.length).news := by simp only [DS.now, hcn]
        rw [this, e1]
        unfold layer fullOf
        congr 1
        apply List.map_congr_left
        intro p hp
        rw [if_pos (hall _ (hbnd.1 p hp).1)]
      · obtain ⟨_, ⟨Z, hz1, hz2⟩, _⟩ := ht.upTo (show e + 1 ≤ ds.length by omega) (Nat.le_refl _)
        rw [e3] at hz1
        have hZ : Z = [] := by
          cases hZc : Z with
          | nil => rfl
          | cons p l =>
            have hpm : p ∈ (tr ds.length).chain := by rw [hz1, hZc]; exact List.mem_cons_self
            have h1 := (e4 p hpm).1 (hall _ (hbnd.2 p hpm))
            have := (hz2 p (by rw [hZc]; exact List.mem_cons_self)).1
            omega
        simp only [DS.now, hz1, hZ, List.nil_append]
    subst hnow
    have hlen : H0.length ≤ ((tr ds.length).now H0).length := by
      have := (ht.nowLen hL ds.length (Nat.le_refl _)).1; omega
    refine hQ a w φ hI.defers (hI.fr.congr fun t => ?_) hI.rel (hI.kp.keeps hlen)
    unfold frS
    split
    · rfl
    · rename_i hno
      obtain ⟨_, _, _, _, h5⟩ := ht.upTo (Nat.zero_le ds.length) (Nat.le_refl _)
      rw [h5 t fun i d _ hi hd e => hno ⟨i, d, hall i hi, hd, e⟩, ht.init]
  intro fuel
  induction fuel with
  | zero =>
    intro listed a w φ HS hI hcount
    have hall : ∀ j, j < ds.length → Ls listed j := by
      intro j hj
      by_cases h : Ls listed j
      · exact h
      · have := unlisted_step hI.size hj h
        omega
    refine ⟨?_, hend listed a w φ HS hI hall⟩
    rw [List.eq_nil_iff_forall_not_mem]
    intro j hj
    obtain ⟨h1, o, ho, _⟩ := ready_mem hj (by rw [hI.size, hok.len])
    have : j < ops.size := by
      rcases Nat.lt_or_ge j ops.size with g | g
      · exact g
      · rw [Array.getElem?_eq_none g] at ho; cases ho
    exact h1 (hall j (by rw [hok.len]; exact this))
  | succ fuel ih =>
    intro listed a w φ HS hI hcount
    have hsz : listed.size = ops.size := by rw [hI.size, hok.len]
    refine ⟨fun hnil => hend listed a w φ HS hI ?_, fun j hj => ?_⟩
    · have : ∀ j, (∀ i, i < j → i < ds.length → Ls listed i) → j < ds.length → Ls listed j := by
        intro j ih' hj
        by_cases h : Ls listed j
        · exact h
        · exfalso
          have := ready_of (ops := ops) (by rw [← hok.len]; exact hj) hsz h fun o ho e he hb => by
            have := hok.edge j o e ho he hb
            exact ih' _ this (by omega)
          rw [hnil] at this; cases this
      intro j
      induction j using Nat.strongRecOn with
      | _ j ih' => exact this j fun i hi hl => ih' i hi hl
    · obtain ⟨h1, o, ho, h2⟩ := ready_mem hj hsz
      have hjl : j < ds.length := by
        rw [hok.len]
        rcases Nat.lt_or_ge j ops.size with g | g
        · exact g
        · rw [Array.getElem?_eq_none g] at ho; cases ho
      refine inv_step hC hL hok ht hlim hI ho h1 h2 fun a' w' φ' HS' hI' => ih _ a' w' φ' HS' hI' ?_
      have := unlisted_step hI.size hjl h1
      omega
theorem draw_wp (hC : CSound P C) (hL : CLen C) (hm : P.follows .mixedOrders = true) (hok : DrawOk P N ops ds) {fin : DS} (hrun : runD C H0 0 ds { ρ := ρ0 } = some fin) (hlim : (fin.now H0).length ≤ lim) (hR : Rel lim φ0 H0 w0) (hF : FR N φ0 ρ0 a0) {id : Nat} {Q : Exit → Act → World → Prop}
    (hQ : ∀ a' w' φ', a'.defers = a0.defers → FR N φ' fin.ρ a' → Rel lim φ' (fin.now H0) w' → Keeps φ0 H0 w0 φ' (fin.now H0) w' → Q .normal a' w') : (Code.region id ops true).wp P Q a0 w0 := by
  obtain ⟨tr, h1, h2, h3⟩ := runD_trace ds 0 _ _ hrun
  simp only [Nat.zero_add] at h2 h3
  have ht : Trace C H0 ρ0 ds tr := ⟨h1, fun j d hd => stepD_sort (h3 j d hd)⟩
  subst h2
  refine wp_region_any hm ?_
  have hls : ∀ i, ¬ Ls (Array.replicate ops.size false) i := by
    intro i
    unfold Ls
    simp only [Array.getD_eq_getD_getElem?, Array.getElem?_replicate]
    split <;> simp
  refine draw_any hC hL hok ht hlim hQ ops.size _ a0 _ φ0 (layer H0 (tr ds.length).news (Ls (Array.replicate ops.size false))) ?_ ?_
  · have hlay : ∀ (i : Nat) (b : Blk), (layer H0 (tr ds.length).news (Ls (Array.replicate ops.size false)))[i]? = some (some b) → H0[i]? = some (some b) := by
      intro i b h
      rcases (layer_get _ _ _ _).1 h with ⟨_, h⟩ | ⟨_, p, _, h, _⟩
      · exact h
      · exact absurd h (hls _)
    have htop := (ht.nowLen hL ds.length (Nat.le_refl _)).1
    have hR' : Rel lim φ0 H0 { w0 with drawn := w0.drawn + 1 } := hR.same rfl
    refine ⟨by simp [hok.len], fun j d h => absurd h (hls j), ⟨fun i hi hl => hR.dom i (by rw [layer_len] at hi; omega) hl, fun i b h => hR'.blk i b (hlay i b h), fun i j b c k l h o g ek el e => hR'.inj i j b c k l (hlay i b h) o (hlay j c g) ek el e, hR'.sld⟩, ?_, rfl, ?_, .inl ⟨rfl, fun p _ => hls _, fun k p hk _ => ?_⟩⟩
    · refine hF.congr fun t => ?_
      unfold frS
      rw [if_neg]
      rintro ⟨i, d, h, _⟩
      exact hls i h
    · exact ⟨rfl, rfl, rfl, Nat.le_refl _, Loc.le_refl _, fun _ _ => rfl, fun j c h => .inr ⟨c, hlay j c h, rfl⟩, fun j c l h o e => .inr ⟨j, c, l, hlay j c h, o, e, rfl⟩, fun _ _ _ => rfl⟩
    · have hk' : k < (tr ds.length).news.length := by
        rcases Nat.lt_or_ge k (tr ds.length).news.length with g | g
        · exact g
        · rw [List.getElem?_eq_none g] at hk; cases hk
      exact hR.dom _ (by omega) (by omega)
  · rw [hok.len]
    have : ∀ i ∈ List.range ops.size, (!(Array.replicate ops.size false).getD i true) = true := by
      intro i hi
      rw [List.mem_range] at hi
      simp [Array.getD_eq_getD_getElem?, Array.getElem?_replicate, hi]
    rw [List.countP_eq_length.2 this, List.length_range]
end Go.Proofs.Ytoknmodbdlfdmaa.Sim
