/- Code and functions: what the plain heap's run says, the model does. -/
import Derived.Test.YtoknmodbdlfdmaaSim13
import Derived.ScopeJumps
namespace Go.Proofs.Ytoknmodbdlfdmaa.Sim
open Go Go.RowKit
set_option linter.unusedVariables false
set_option linter.unusedSimpArgs false
abbrev Hints := List (Nat × List (List Nat × Bool))
def resolveDs (P : Program) (ops : Array Oper) (N : Nat) : List Oper → List (List Nat × Bool) → Option (List DO)
  | [], _ => some []
  | o :: l, bs => match resolveRO P ops N o, resolveDs P ops N l bs.tail with
    | some r, some rs => some ({ toRO := r, before := (bs.headD ([], false)).1, eff := (bs.headD ([], false)).2 } :: rs)
    | _, _ => none
def seen (d : DO) : List Nat := looks d.op ++ (match d.guard with | some (g, _) => [g] | none => [])
def drawOkB (ops : List Oper) (ds : List DO) : Bool :=
  ds.length == ops.length &&
  (ops.zip ds).zipIdx.all fun p =>
    p.1.1.after.toList.all (fun e => !Region.binds .any e || decide (e.on < p.2)) &&
    p.1.2.before.all (fun i => p.1.1.after.toList.any fun e => Region.binds .any e && (i == e.on || (match ds[e.on]? with | some d' => d'.before.contains i | none => false))) &&
    p.1.2.before.all (fun i => decide (i < p.2)) &&
    ds.zipIdx.all (fun q => match p.1.2.dst, q.1.dst with | some t, some t' => t != t' || p.2 == q.2 | _, _ => true) &&
    (seen p.1.2).all (fun t => ds.zipIdx.all fun q => q.1.dst != some t || p.1.2.before.contains q.2 || q.1.before.contains p.2)
variable {P : Program} {N : Nat} {C : CallSem} {ops : Array Oper} {lim : Nat}
theorem resolveDs_ok : ∀ (l : List Oper) (bs : List (List Nat × Bool)) (ds : List DO), resolveDs P ops N l bs = some ds → ∀ (j : Nat) (o : Oper) (d : DO), l[j]? = some o → ds[j]? = some d → resolveRO P ops N o = some d.toRO := by
  intro l
  induction l with
  | nil => intro bs ds h j o d ho; simp at ho
  | cons x l ih =>
    intro bs ds h j o d ho hd
    simp only [resolveDs] at h
    split at h
    · rename_i r rs h1 h2
      simp only [Option.some.injEq] at h
      subst h
      cases j with
      | zero => simp at ho hd; subst ho; subst hd; exact h1
      | succ j => simp at ho hd; exact ih _ _ h2 j o d ho hd
    · cases h
theorem drawOk_of {ds : List DO} {bs : List (List Nat × Bool)} (h : resolveDs P ops N ops.toList bs = some ds) (hb : drawOkB ops.toList ds = true) : DrawOk P N ops ds := by
  unfold drawOkB at hb
  simp only [Bool.and_eq_true, beq_iff_eq] at hb
  obtain ⟨hlen, hall⟩ := hb
  have key : ∀ (j : Nat) (o : Oper) (d : DO), ops[j]? = some o → ds[j]? = some d →
      (o.after.toList.all (fun e => !Region.binds .any e || decide (e.on < j)) = true ∧
      d.before.all (fun i => o.after.toList.any fun e => Region.binds .any e && (i == e.on || (match ds[e.on]? with | some d' => d'.before.contains i | none => false))) = true ∧
      d.before.all (fun i => decide (i < j)) = true ∧
      ds.zipIdx.all (fun q => match d.dst, q.1.dst with | some t, some t' => t != t' || j == q.2 | _, _ => true) = true ∧
      (seen d).all (fun t => ds.zipIdx.all fun q => q.1.dst != some t || d.before.contains q.2 || q.1.before.contains j) = true) := by
    intro j o d ho hd
    have hm : ((o, d), j) ∈ (ops.toList.zip ds).zipIdx := by
      rw [List.mem_zipIdx_iff_getElem?]
      simp only
      rw [List.getElem?_zip_eq_some]
      exact ⟨by simpa using ho, hd⟩
    have := List.all_eq_true.1 hall _ hm
    simp only [Bool.and_eq_true] at this
    obtain ⟨⟨⟨⟨a, b⟩, c⟩, d⟩, e⟩ := this
    exact ⟨a, b, c, d, e⟩
  have hex : ∀ (j : Nat) (d : DO), ds[j]? = some d → ∃ o, ops[j]? = some o := by
    intro j d hd
    have : j < ds.length := by
      rcases Nat.lt_or_ge j ds.length with g | g
      · exact g
      · rw [List.getElem?_eq_none g] at hd; cases hd
    exact ⟨_, Array.getElem?_eq_getElem (by simp at hlen; omega)⟩
  refine ⟨by simpa using hlen, fun j o d ho hd => resolveDs_ok _ _ _ h j o d (by simpa using ho) hd, fun j o e ho he hbind => ?_, fun j o d ho hd i hi => ?_, fun j d hd i hi => ?_, fun i j t d d' hd hd' h1 h2 => ?_, fun j d hd t ht i d' hd' hdt => ?_⟩
  · have hj : j < ds.length := by
      rcases Nat.lt_or_ge j ops.size with g | g
      · simp at hlen; omega
      · rw [Array.getElem?_eq_none g] at ho; cases ho
    have := List.all_eq_true.1 (key j o _ ho (List.getElem?_eq_getElem hj)).1 e (by simpa using he)
    rw [hbind] at this
    simpa using this
  · have := List.all_eq_true.1 (key j o d ho hd).2.1 i hi
    rw [List.any_eq_true] at this
    obtain ⟨e, he, h3⟩ := this
    simp only [Bool.and_eq_true, Bool.or_eq_true, beq_iff_eq] at h3
    refine ⟨e, by simpa using he, h3.1, ?_⟩
    rcases h3.2 with h4 | h4
    · exact .inl h4
    · right
      split at h4
      · rename_i d' hd'
        exact ⟨d', hd', by simpa using h4⟩
      · cases h4
  · obtain ⟨o, ho⟩ := hex j d hd
    have := List.all_eq_true.1 (key j o d ho hd).2.2.1 i hi
    simpa using this
  · obtain ⟨o, ho⟩ := hex i d hd
    have hm : (d', j) ∈ ds.zipIdx := by rw [List.mem_zipIdx_iff_getElem?]; exact hd'
    have := List.all_eq_true.1 (key i o d ho hd).2.2.2.1 _ hm
    rw [h1, h2] at this
    simpa using this
  · obtain ⟨o, ho⟩ := hex j d hd
    have hs : t ∈ seen d := by
      unfold seen
      rcases ht with ht | ⟨b, hb⟩
      · exact List.mem_append_left _ ht
      · rw [hb]; exact List.mem_append_right _ List.mem_cons_self
    have h3 := List.all_eq_true.1 (key j o d ho hd).2.2.2.2 t hs
    have hm : (d', i) ∈ ds.zipIdx := by rw [List.mem_zipIdx_iff_getElem?]; exact hd'
    have := List.all_eq_true.1 h3 _ hm
    rw [hdt] at this
    simpa using this
def resolveC (P : Program) (N : Nat) (hs : Hints) : Code → Option RCode
  | .skip => some .skip
  | .region _ ops false => (resolveL P ops N ops.toList).map .region
  | .region id ops true => match resolveDs P ops N ops.toList ((hs.lookup id).getD []) with
    | some ds => if drawOkB ops.toList ds = true then some (.draw ds) else none
    | none => none
  | .seq a b => match resolveC P N hs a, resolveC P N hs b with
    | some x, some y => some (.seq x y)
    | _, _ => none
  | .cond c a b => if opOk c = true then match resolveC P N hs a, resolveC P N hs b with
    | some x, some y => some (.cond c x y)
    | _, _ => none else none
  | .block id b => (resolveC P N hs b).map (.block id)
  | .loop b => (resolveC P N hs b).map .loop
  | .exit id => some (.exit id)
  | .ret => some .ret
  | .label l => some (.label l)
  | .goto l => some (.goto l)
  | .scope x => match resolveC P N hs x with
    | some b => match labelOf b with
      | some l => match findR b l with
        | some rest => some (.scope l b rest)
        | none => none
      | none => none
    | none => none
  | _ => none
theorem findR_ok {P : Program} {N : Nat} {hs : Hints} {l : Nat} : ∀ (code : Code) (c rest : RCode), resolveC P N hs code = some c → findR c l = some rest → ∃ r, findLabel code l = some r ∧ resolveC P N hs r = some rest := by
  intro code
  induction code with
  | seq x y ihx ihy =>
    intro c rest hc h
    simp only [resolveC] at hc
    split at hc
    · rename_i cx cy hx hy
      simp only [Option.some.injEq] at hc
      subst hc
      simp only [findR] at h
      split at h
      · rename_i rx hrx
        simp only [Option.some.injEq] at h
        subst h
        obtain ⟨r, h1, h2⟩ := ihx cx rx hx hrx
        exact ⟨.seq r y, by simp only [findLabel, h1], by simp only [resolveC, h2, hy]⟩
      · rename_i hrx
        obtain ⟨r, h1, h2⟩ := ihy cy rest hy h
        refine ⟨r, ?_, h2⟩
        have : findLabel x l = none := by
          cases hf : findLabel x l with
          | none => rfl
          | some q =>
            exfalso
            have key : ∀ (code : Code) (c : RCode) (q : Code), resolveC P N hs code = some c → findLabel code l = some q → findR c l ≠ none := by
              intro code
              induction code with
              | seq x y ihx ihy =>
                intro c q hc hq
                simp only [resolveC] at hc
                split at hc
                · rename_i cx cy hx hy
                  simp only [Option.some.injEq] at hc
                  subst hc
                  simp only [findLabel] at hq
                  split at hq
                  · rename_i r1 hr1
                    have := ihx cx _ hx hr1
                    simp only [findR]
                    split
                    · simp
                    · rename_i hn; exact absurd hn this
                  · have := ihy cy _ hy hq
                    simp only [findR]
                    split
                    · simp
                    · exact this
                · cases hc
              | label l' =>
                intro c q hc hq
                simp only [resolveC, Option.some.injEq] at hc
                subst hc
                simp only [findLabel] at hq
                simp only [findR]
                split at hq
                · rename_i hl; rw [if_pos hl]; simp
                · cases hq
              | _ => intro c q hc hq; simp [findLabel] at hq
            exact key x cx q hx hf hrx
        simp only [findLabel, this, h1]
    · cases hc
  | label l' =>
    intro c rest hc h
    simp only [resolveC, Option.some.injEq] at hc
    subst hc
    simp only [findR] at h
    split at h
    · rename_i hl
      simp only [Option.some.injEq] at h
      subst h
      exact ⟨.skip, by simp only [findLabel]; rw [if_pos hl], rfl⟩
    · cases h
  | skip => intro c rest hc h; simp only [resolveC, Option.some.injEq] at hc; subst hc; simp [findR] at h
  | ret => intro c rest hc h; simp only [resolveC, Option.some.injEq] at hc; subst hc; simp [findR] at h
  | exit id => intro c rest hc h; simp only [resolveC, Option.some.injEq] at hc; subst hc; simp [findR] at h
  | goto id => intro c rest hc h; simp only [resolveC, Option.some.injEq] at hc; subst hc; simp [findR] at h
  | region id ops d =>
    intro c rest hc h
    cases d with
    | false => simp only [resolveC, Option.map_eq_some_iff] at hc; obtain ⟨_, _, rfl⟩ := hc; simp [findR] at h
    | true =>
      simp only [resolveC] at hc
      split at hc
      · split at hc
        · simp only [Option.some.injEq] at hc; subst hc; simp [findR] at h
        · cases hc
      · cases hc
  | cond c0 x y ihx ihy =>
    intro c rest hc h
    simp only [resolveC] at hc
    split at hc
    · split at hc
      · simp only [Option.some.injEq] at hc; subst hc; simp [findR] at h
      · cases hc
    · cases hc
  | block id x ih => intro c rest hc h; simp only [resolveC, Option.map_eq_some_iff] at hc; obtain ⟨_, _, rfl⟩ := hc; simp [findR] at h
  | loop x ih => intro c rest hc h; simp only [resolveC, Option.map_eq_some_iff] at hc; obtain ⟨_, _, rfl⟩ := hc; simp [findR] at h
  | scope x ih =>
    intro c rest hc h
    simp only [resolveC] at hc
    split at hc
    · split at hc
      · split at hc
        · simp only [Option.some.injEq] at hc; subst hc; simp [findR] at h
        · cases hc
      · cases hc
    · cases hc
  | _ => intro c rest hc; simp [resolveC] at hc
/-- The rounds of a scope: from the label on, so often. -/
def Jumps (P : Program) (rest : Code) (l : Nat) (Q : Exit → Act → World → Prop) : Nat → Act → World → Prop
  | 0, _, _ => False
  | n + 1, a, w => rest.wp P (Exit.jump l (Jumps P rest l Q n) Q) a w
theorem wp_scope_rounds {P : Program} {Q : Exit → Act → World → Prop} {a : Act} {w : World} {c rest : Code} (l n : Nat) (hf : findLabel c l = some rest) (h : c.wp P (Exit.jump l (Jumps P rest l Q n) Q) a w) : (Code.scope c).wp P Q a w := by
  intro b k cs
  have hg : gotoIn l (.inScope c :: k) = some (.code rest :: .inScope c :: k) := by simp [gotoIn, hf]
  have key : ∀ n a w, Jumps P rest l Q n a w → ∃ e a' w', Q e a' w' ∧ Arrives P (lone (b.at a (.code rest :: .inScope c :: k)) cs w) b k cs e a' w' := by
    intro n
    induction n with
    | zero => intro a w h; exact h.elim
    | succ n ih =>
      intro a w h
      obtain ⟨e, a₁, w₁, hq, harr⟩ := h b (.inScope c :: k) cs
      cases e with
      | normal => exact ⟨.normal, a₁, w₁, hq, Steps.trans harr (.one step_inScope)⟩
      | exit id => exact ⟨.exit id, a₁, w₁, hq, fun k' hk => harr k' (by simp [exitTo, hk])⟩
      | goto l' =>
        obtain ⟨rfl, hJ'⟩ := hq
        obtain ⟨e₂, a₂, w₂, hq₂, harr₂⟩ := ih a₁ w₁ hJ'
        exact ⟨e₂, a₂, w₂, hq₂, .of_steps (harr _ hg) harr₂⟩
      | ret => exact ⟨_, a₁, w₁, hq, harr⟩
      | panic ch => exact ⟨_, a₁, w₁, hq, harr⟩
      | outgrown => exact ⟨_, a₁, w₁, hq, harr⟩
  obtain ⟨e, a₁, w₁, hq, harr⟩ := h b (.inScope c :: k) cs
  cases e with
  | normal => exact ⟨.normal, a₁, w₁, hq, .head step_scope (Steps.trans harr (.one step_inScope))⟩
  | exit id => exact ⟨.exit id, a₁, w₁, hq, fun k' hk => .head step_scope (harr k' (by simp [exitTo, hk]))⟩
  | goto l' =>
    obtain ⟨rfl, hJ'⟩ := hq
    obtain ⟨e₂, a₂, w₂, hq₂, harr₂⟩ := key _ a₁ w₁ hJ'
    exact ⟨e₂, a₂, w₂, hq₂, .of_steps (.head step_scope (harr _ hg)) harr₂⟩
  | ret => exact ⟨_, a₁, w₁, hq, .of_steps (.one step_scope) harr⟩
  | panic ch => exact ⟨_, a₁, w₁, hq, .of_steps (.one step_scope) harr⟩
  | outgrown => exact ⟨_, a₁, w₁, hq, .of_steps (.one step_scope) harr⟩
theorem runD_len (hL : CLen C) {H0 : Heap} {ρ0 : Fr} {ds : List DO} {fin : DS} (h : runD C H0 0 ds { ρ := ρ0 } = some fin) : H0.length ≤ (fin.now H0).length := by
  obtain ⟨tr, h1, h2, h3⟩ := runD_trace ds 0 _ _ h
  simp only [Nat.zero_add] at h2 h3
  have ht : Trace C H0 ρ0 ds tr := ⟨h1, fun j d hd => stepD_sort (h3 j d hd)⟩
  have := (ht.nowLen hL ds.length (Nat.le_refl _)).1
  rw [h2] at this
  omega
theorem iterC_len {f : Fr → Heap → Option (Ex × Fr × Heap)} (hf : ∀ ρ H e ρ' H', f ρ H = some (e, ρ', H') → H.length ≤ H'.length) : ∀ (n : Nat) (ρ : Fr) (H : Heap) (e : Ex) (ρ' : Fr) (H' : Heap), iterC f n ρ H = some (e, ρ', H') → H.length ≤ H'.length := by
  intro n
  induction n with
  | zero => intro ρ H e ρ' H' h; cases h
  | succ n ih =>
    intro ρ H e ρ' H' h
    simp only [iterC] at h
    split at h
    · rename_i ρ1 H1 h1
      exact Nat.le_trans (hf _ _ _ _ _ h1) (ih _ _ _ _ _ h)
    · exact hf _ _ _ _ _ h
theorem jmp_len {l : Nat} {k : Fr → Heap → Option (Ex × Fr × Heap)} {r : Option (Ex × Fr × Heap)} {n : Nat} (hr : ∀ e ρ' H', r = some (e, ρ', H') → n ≤ H'.length) (hk : ∀ ρ H e ρ' H', k ρ H = some (e, ρ', H') → H.length ≤ H'.length) : ∀ (e : Ex) (ρ' : Fr) (H' : Heap), jmp l k r = some (e, ρ', H') → n ≤ H'.length := by
  intro e ρ' H' h
  unfold jmp at h
  split at h
  · rename_i j ρ1 H1
    split at h
    · exact Nat.le_trans (hr _ _ _ rfl) (hk _ _ _ _ _ h)
    · cases h
  · exact hr _ _ _ h
theorem iterJ_len {l : Nat} {f : Fr → Heap → Option (Ex × Fr × Heap)} (hf : ∀ ρ H e ρ' H', f ρ H = some (e, ρ', H') → H.length ≤ H'.length) : ∀ (n : Nat) (ρ : Fr) (H : Heap) (e : Ex) (ρ' : Fr) (H' : Heap), iterJ l f n ρ H = some (e, ρ', H') → H.length ≤ H'.length := by
  intro n
  induction n with
  | zero => intro ρ H e ρ' H' h; cases h
  | succ n ih => intro ρ H e ρ' H' h; simp only [iterJ] at h; exact jmp_len (hf ρ H) ih e ρ' H' h
theorem evalC_len (hL : CLen C) (n : Nat) : ∀ (c : RCode) (ρ : Fr) (H : Heap) (e : Ex) (ρ' : Fr) (H' : Heap), evalC C n c ρ H = some (e, ρ', H') → H.length ≤ H'.length := by
  intro c
  induction c with
  | skip => intro ρ H e ρ' H' h; simp [evalC] at h; rw [h.2.2]; exact Nat.le_refl _
  | region ops =>
    intro ρ H e ρ' H' h
    simp only [evalC, Option.map_eq_some_iff, Prod.mk.injEq] at h
    obtain ⟨⟨a, b⟩, h1, _, rfl, rfl⟩ := h
    exact runOps_len hL _ _ _ _ _ h1
  | draw ops =>
    intro ρ H e ρ' H' h
    simp only [evalC, Option.map_eq_some_iff, Prod.mk.injEq] at h
    obtain ⟨fin, h1, _, rfl, rfl⟩ := h
    exact runD_len hL h1
  | seq a b iha ihb =>
    intro ρ H e ρ' H' h
    simp only [evalC] at h
    split at h
    · rename_i ρ1 H1 h1
      exact Nat.le_trans (iha _ _ _ _ _ h1) (ihb _ _ _ _ _ h)
    · exact iha _ _ _ _ _ h
  | cond c a b iha ihb =>
    intro ρ H e ρ' H' h
    simp only [evalC] at h
    split at h
    · split at h
      · exact iha _ _ _ _ _ h
      · exact ihb _ _ _ _ _ h
    · cases h
  | block id b ih =>
    intro ρ H e ρ' H' h
    simp only [evalC] at h
    split at h
    · rename_i j ρ1 H1 h1
      have := ih _ _ _ _ _ h1
      split at h <;> (simp only [Option.some.injEq, Prod.mk.injEq] at h; rw [← h.2.2]; exact this)
    · exact ih _ _ _ _ _ h
  | loop b ih => intro ρ H e ρ' H' h; simp only [evalC] at h; exact iterC_len ih _ _ _ _ _ _ h
  | exit id => intro ρ H e ρ' H' h; simp [evalC] at h; rw [h.2.2]; exact Nat.le_refl _
  | ret => intro ρ H e ρ' H' h; simp [evalC] at h; rw [h.2.2]; exact Nat.le_refl _
  | label l => intro ρ H e ρ' H' h; simp [evalC] at h; rw [h.2.2]; exact Nat.le_refl _
  | goto l => intro ρ H e ρ' H' h; simp [evalC] at h; rw [h.2.2]; exact Nat.le_refl _
  | scope l b rest ihb ihr => intro ρ H e ρ' H' h; simp only [evalC] at h; exact jmp_len (ihb ρ H) (iterJ_len ihr n) e ρ' H' h
def Ex.out : Ex → Exit
  | .normal => .normal
  | .exit id => .exit id
  | .ret => .ret
  | .goto l => .goto l
def Good (P : Program) (C : CallSem) (N lim n : Nat) (hs : Hints) (code : Code) : Prop := ∀ (c : RCode), resolveC P N hs code = some c → ∀ (ρ : Fr) (H : Heap) (e : Ex) (ρ' : Fr) (H' : Heap) (φ : Loc) (a : Act) (w : World) (Q : Exit → Act → World → Prop), evalC C n c ρ H = some (e, ρ', H') → H'.length ≤ lim → Rel lim φ H w → FR N φ ρ a →
    (∀ a' w' φ', a'.defers = a.defers → FR N φ' ρ' a' → Rel lim φ' H' w' → Keeps φ H w φ' H' w' → Q e.out a' w') → code.wp P Q a w
theorem good_seq {n : Nat} {hs : Hints} (hL : CLen C) {x y : Code} (ihx : Good P C N lim n hs x) (ihy : Good P C N lim n hs y) : Good P C N lim n hs (.seq x y) := by
  intro c hc ρ H e ρ' H' φ a w Q h hlim hR hF hQ
  simp only [resolveC] at hc
  split at hc
  · rename_i cx cy hx hy
    simp only [Option.some.injEq] at hc
    subst hc
    simp only [evalC] at h
    refine wp_seq ?_
    split at h
    · rename_i ρ1 H1 h1
      have hl := evalC_len hL n _ _ _ _ _ _ h
      refine ihx cx hx ρ H .normal ρ1 H1 φ a w _ h1 (by omega) hR hF fun a1 w1 φ1 hd hF1 hR1 hK1 => ?_
      refine ihy cy hy ρ1 H1 e ρ' H' φ1 a1 w1 Q h hlim hR1 hF1 fun a2 w2 φ2 hd2 hF2 hR2 hK2 => hQ a2 w2 φ2 (hd2.trans hd) hF2 hR2 (hK1.trans hK2)
    · rename_i hne
      refine ihx cx hx ρ H e ρ' H' φ a w _ h hlim hR hF fun a1 w1 φ1 hd hF1 hR1 hK1 => ?_
      have := hQ a1 w1 φ1 hd hF1 hR1 hK1
      cases e with
      | normal => exact absurd h (hne _ _)
      | exit id => exact this
      | ret => exact this
      | goto l => exact this
  · cases hc
theorem good_skip {n : Nat} {hs : Hints} : Good P C N lim n hs .skip := by
  intro c hc ρ H e ρ' H' φ a w Q h hlim hR hF hQ
  simp only [resolveC, Option.some.injEq] at hc
  subst hc
  simp only [evalC, Option.some.injEq, Prod.mk.injEq] at h
  obtain ⟨rfl, rfl, rfl⟩ := h
  exact wp_skip (hQ a w φ rfl hF hR (Keeps.refl _ _ _))
theorem code_ok2 (hC : CSound P C) (hL : CLen C) (hm : P.follows .mixedOrders = true) (n : Nat) (hs : Hints) : ∀ (code : Code), Good P C N lim n hs code ∧ ∀ l r, findLabel code l = some r → Good P C N lim n hs r := by
  intro code
  induction code with
  | skip => exact ⟨good_skip, fun l r h => by simp [findLabel] at h⟩
  | region id ops draw =>
    refine ⟨?_, fun l r h => by simp [findLabel] at h⟩
    intro c hc ρ H e ρ' H' φ a w Q h hlim hR hF hQ
    cases draw with
    | false =>
      simp only [resolveC, Option.map_eq_some_iff] at hc
      obtain ⟨rs, hrs, rfl⟩ := hc
      simp only [evalC, Option.map_eq_some_iff, Prod.mk.injEq] at h
      obtain ⟨⟨ρ1, H1⟩, h1, rfl, rfl, rfl⟩ := h
      refine wp_region ?_
      have := wpOps_eq_wpList (P := P) (ops := ops) (Q := Q) ops.toList 0 (fun j => by simp)
      rw [List.range_eq_range']
      have hl : ops.toList.length = ops.size := by simp
      rw [← hl, this]
      exact list_wp hC hL _ _ hrs _ _ _ _ _ _ _ h1 hlim hR hF hQ
    | true =>
      simp only [resolveC] at hc
      split at hc
      · rename_i ds hds
        split at hc
        · rename_i hok
          simp only [Option.some.injEq] at hc
          subst hc
          simp only [evalC, Option.map_eq_some_iff, Prod.mk.injEq] at h
          obtain ⟨fin, h1, rfl, rfl, rfl⟩ := h
          exact draw_wp hC hL hm (drawOk_of hds hok) h1 hlim hR hF hQ
        · cases hc
      · cases hc
  | seq x y ihx ihy => exact ⟨good_seq hL ihx.1 ihy.1, fun l r h => by
      simp only [findLabel] at h
      split at h
      · rename_i r1 h1; simp only [Option.some.injEq] at h; subst h; exact good_seq hL (ihx.2 l r1 h1) ihy.1
      · exact ihy.2 l r h⟩
  | cond c0 x y ihx ihy =>
    refine ⟨?_, fun l r h => by simp [findLabel] at h⟩
    intro c hc ρ H e ρ' H' φ a w Q h hlim hR hF hQ
    simp only [resolveC] at hc
    split at hc
    · rename_i hok
      split at hc
      · rename_i cx cy hx hy
        simp only [Option.some.injEq] at hc
        subst hc
        simp only [evalC] at h
        split at h
        · rename_i t ht
          have hv := hF.eval c0 hok
          rw [ht] at hv
          have hv' := bool_inv hv
          refine wp_cond hv' ?_
          split at h
          · rename_i htt; rw [if_pos htt]; exact ihx.1 cx hx ρ H e ρ' H' φ a w Q h hlim hR hF hQ
          · rename_i htt; rw [if_neg htt]; exact ihy.1 cy hy ρ H e ρ' H' φ a w Q h hlim hR hF hQ
        · cases h
      · cases hc
    · cases hc
  | block id x ih =>
    refine ⟨?_, fun l r h => by simp [findLabel] at h⟩
    intro c hc ρ H e ρ' H' φ a w Q h hlim hR hF hQ
    simp only [resolveC, Option.map_eq_some_iff] at hc
    obtain ⟨cx, hx, rfl⟩ := hc
    simp only [evalC] at h
    refine wp_block ?_
    split at h
    · rename_i j ρ1 H1 h1
      split at h
      · rename_i hj
        simp only [Option.some.injEq, Prod.mk.injEq] at h
        obtain ⟨rfl, rfl, rfl⟩ := h
        refine ih.1 cx hx ρ H (.exit j) ρ1 H1 φ a w _ h1 hlim hR hF fun a1 w1 φ1 hd hF1 hR1 hK1 => ?_
        show Exit.inBlock id Q (.exit j) a1 w1
        simp only [Exit.inBlock]
        rw [if_pos hj]
        exact hQ a1 w1 φ1 hd hF1 hR1 hK1
      · rename_i hj
        simp only [Option.some.injEq, Prod.mk.injEq] at h
        obtain ⟨rfl, rfl, rfl⟩ := h
        refine ih.1 cx hx ρ H (.exit j) ρ1 H1 φ a w _ h1 hlim hR hF fun a1 w1 φ1 hd hF1 hR1 hK1 => ?_
        show Exit.inBlock id Q (.exit j) a1 w1
        simp only [Exit.inBlock]
        rw [if_neg hj]
        exact hQ a1 w1 φ1 hd hF1 hR1 hK1
    · rename_i hne
      refine ih.1 cx hx ρ H e ρ' H' φ a w _ h hlim hR hF fun a1 w1 φ1 hd hF1 hR1 hK1 => ?_
      have := hQ a1 w1 φ1 hd hF1 hR1 hK1
      cases e with
      | normal => exact this
      | exit j => exact absurd h (hne _ _ _)
      | ret => exact this
      | goto l => exact this
  | loop x ih =>
    refine ⟨?_, fun l r h => by simp [findLabel] at h⟩
    intro c hc ρ H e ρ' H' φ a w Q h hlim hR hF hQ
    simp only [resolveC, Option.map_eq_some_iff] at hc
    obtain ⟨cx, hx, rfl⟩ := hc
    simp only [evalC] at h
    refine wp_loop_rounds n ?_
    have key : ∀ (m : Nat) (ρ : Fr) (H : Heap) (φ : Loc) (a : Act) (w : World), iterC (evalC C n cx) m ρ H = some (e, ρ', H') → Rel lim φ H w → FR N φ ρ a →
        (∀ a' w' φ', a'.defers = a.defers → FR N φ' ρ' a' → Rel lim φ' H' w' → Keeps φ H w φ' H' w' → Q e.out a' w') → Code.rounds P x Q m a w := by
      intro m
      induction m with
      | zero => intro ρ H φ a w h; cases h
      | succ m ihm =>
        intro ρ H φ a w h hR hF hQ
        rw [rounds_succ]
        simp only [iterC] at h
        split at h
        · rename_i ρ1 H1 h1
          have hl := iterC_len (fun a b c d e => evalC_len hL n cx a b c d e) _ _ _ _ _ _ h
          refine ih.1 cx hx ρ H .normal ρ1 H1 φ a w _ h1 (by omega) hR hF fun a1 w1 φ1 hd hF1 hR1 hK1 => ?_
          exact ihm ρ1 H1 φ1 a1 w1 h hR1 hF1 fun a2 w2 φ2 hd2 hF2 hR2 hK2 => hQ a2 w2 φ2 (hd2.trans hd) hF2 hR2 (hK1.trans hK2)
        · rename_i hne
          refine ih.1 cx hx ρ H e ρ' H' φ a w _ h hlim hR hF fun a1 w1 φ1 hd hF1 hR1 hK1 => ?_
          have := hQ a1 w1 φ1 hd hF1 hR1 hK1
          cases e with
          | normal => exact absurd h (hne _ _)
          | exit j => exact this
          | ret => exact this
          | goto l => exact this
    exact key n ρ H φ a w h hR hF hQ
  | exit id =>
    refine ⟨?_, fun l r h => by simp [findLabel] at h⟩
    intro c hc ρ H e ρ' H' φ a w Q h hlim hR hF hQ
    simp only [resolveC, Option.some.injEq] at hc
    subst hc
    simp only [evalC, Option.some.injEq, Prod.mk.injEq] at h
    obtain ⟨rfl, rfl, rfl⟩ := h
    exact wp_exit (hQ a w φ rfl hF hR (Keeps.refl _ _ _))
  | ret =>
    refine ⟨?_, fun l r h => by simp [findLabel] at h⟩
    intro c hc ρ H e ρ' H' φ a w Q h hlim hR hF hQ
    simp only [resolveC, Option.some.injEq] at hc
    subst hc
    simp only [evalC, Option.some.injEq, Prod.mk.injEq] at h
    obtain ⟨rfl, rfl, rfl⟩ := h
    exact wp_ret (hQ a w φ rfl hF hR (Keeps.refl _ _ _))
  | label l0 =>
    refine ⟨?_, fun l r h => ?_⟩
    · intro c hc ρ H e ρ' H' φ a w Q h hlim hR hF hQ
      simp only [resolveC, Option.some.injEq] at hc
      subst hc
      simp only [evalC, Option.some.injEq, Prod.mk.injEq] at h
      obtain ⟨rfl, rfl, rfl⟩ := h
      exact wp_label (hQ a w φ rfl hF hR (Keeps.refl _ _ _))
    · simp only [findLabel] at h
      split at h
      · simp only [Option.some.injEq] at h; subst h; exact good_skip
      · cases h
  | goto l0 =>
    refine ⟨?_, fun l r h => by simp [findLabel] at h⟩
    intro c hc ρ H e ρ' H' φ a w Q h hlim hR hF hQ
    simp only [resolveC, Option.some.injEq] at hc
    subst hc
    simp only [evalC, Option.some.injEq, Prod.mk.injEq] at h
    obtain ⟨rfl, rfl, rfl⟩ := h
    exact wp_goto (hQ a w φ rfl hF hR (Keeps.refl _ _ _))
  | scope x ih =>
    refine ⟨?_, fun l r h => by simp [findLabel] at h⟩
    intro c hc ρ H e ρ' H' φ a w Q h hlim hR hF hQ
    simp only [resolveC] at hc
    split at hc
    · rename_i b hb
      split at hc
      · rename_i l hl
        split at hc
        · rename_i rest hrest
          simp only [Option.some.injEq] at hc
          subst hc
          obtain ⟨r, hr1, hr2⟩ := findR_ok x b rest hb hrest
          have hgr := ih.2 l r hr1
          simp only [evalC] at h
          refine wp_scope_rounds l n hr1 ?_
          have key : ∀ (m : Nat) (ρ : Fr) (H : Heap) (φ : Loc) (a : Act) (w : World), iterJ l (evalC C n rest) m ρ H = some (e, ρ', H') → Rel lim φ H w → FR N φ ρ a →
              (∀ a' w' φ', a'.defers = a.defers → FR N φ' ρ' a' → Rel lim φ' H' w' → Keeps φ H w φ' H' w' → Q e.out a' w') → Jumps P r l Q m a w := by
            intro m
            induction m with
            | zero => intro ρ H φ a w h; cases h
            | succ m ihm =>
              intro ρ H φ a w h hR hF hQ
              show r.wp P (Exit.jump l (Jumps P r l Q m) Q) a w
              simp only [iterJ] at h
              unfold jmp at h
              split at h
              · rename_i j ρ1 H1 h1
                split at h
                · rename_i hj
                  subst hj
                  have hl' := iterJ_len (fun a b c d e => evalC_len hL n rest a b c d e) _ _ _ _ _ _ h
                  refine hgr rest hr2 ρ H (.goto j) ρ1 H1 φ a w _ h1 (by omega) hR hF fun a1 w1 φ1 hd hF1 hR1 hK1 => ?_
                  exact ⟨rfl, ihm ρ1 H1 φ1 a1 w1 h hR1 hF1 fun a2 w2 φ2 hd2 hF2 hR2 hK2 => hQ a2 w2 φ2 (hd2.trans hd) hF2 hR2 (hK1.trans hK2)⟩
                · cases h
              · rename_i hne
                refine hgr rest hr2 ρ H e ρ' H' φ a w _ h hlim hR hF fun a1 w1 φ1 hd hF1 hR1 hK1 => ?_
                have := hQ a1 w1 φ1 hd hF1 hR1 hK1
                cases e with
                | goto j => exact absurd h (hne _ _ _)
                | normal => exact this
                | exit j => exact this
                | ret => exact this
          unfold jmp at h
          split at h
          · rename_i j ρ1 H1 h1
            split at h
            · rename_i hj
              subst hj
              have hl' := iterJ_len (fun a b c d e => evalC_len hL n rest a b c d e) _ _ _ _ _ _ h
              refine ih.1 b hb ρ H (.goto j) ρ1 H1 φ a w _ h1 (by omega) hR hF fun a1 w1 φ1 hd hF1 hR1 hK1 => ?_
              exact ⟨rfl, key n ρ1 H1 φ1 a1 w1 h hR1 hF1 fun a2 w2 φ2 hd2 hF2 hR2 hK2 => hQ a2 w2 φ2 (hd2.trans hd) hF2 hR2 (hK1.trans hK2)⟩
            · cases h
          · rename_i hne
            refine ih.1 b hb ρ H e ρ' H' φ a w _ h hlim hR hF fun a1 w1 φ1 hd hF1 hR1 hK1 => ?_
            have := hQ a1 w1 φ1 hd hF1 hR1 hK1
            cases e with
            | goto j => exact absurd h (hne _ _ _)
            | normal => exact this
            | exit j => exact this
            | ret => exact this
        · cases hc
      · cases hc
    · cases hc
  | _ => exact ⟨fun c hc => by simp [resolveC] at hc, fun l r h => by simp [findLabel] at h⟩
theorem code_ok (hC : CSound P C) (hL : CLen C) (hm : P.follows .mixedOrders = true) (n : Nat) (hs : Hints) : ∀ (code : Code) (c : RCode), resolveC P N hs code = some c → ∀ (ρ : Fr) (H : Heap) (e : Ex) (ρ' : Fr) (H' : Heap) (φ : Loc) (a : Act) (w : World) (Q : Exit → Act → World → Prop), evalC C n c ρ H = some (e, ρ', H') → H'.length ≤ lim → Rel lim φ H w → FR N φ ρ a →
    (∀ a' w' φ', a'.defers = a.defers → FR N φ' ρ' a' → Rel lim φ' H' w' → Keeps φ H w φ' H' w' → Q e.out a' w') → code.wp P Q a w :=
  fun code => (code_ok2 hC hL hm n hs code).1
end Go.Proofs.Ytoknmodbdlfdmaa.Sim
