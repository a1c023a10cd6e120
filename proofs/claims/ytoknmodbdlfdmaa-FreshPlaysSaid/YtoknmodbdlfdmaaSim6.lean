/- All operations but calls: what is resolved is done. -/
import Derived.Test.YtoknmodbdlfdmaaSim25
import Derived.Laws.MakeOwn
namespace Go.Proofs.Ytoknmodbdlfdmaa.Sim
open Go Go.RowKit
set_option linter.unusedVariables false
set_option linter.unusedSimpArgs false
variable {P : Program} {lim : Nat} {φ : Loc} {H : Heap} {w : World} {v : Value} {H' : Heap} {ρ : Fr} {a : Act}
theorem fill_arr {z : Value} {l : List Value} : z.cells.toList = l → z.cells = ⟨l⟩ := fun h => by rw [← h]
theorem out_of {s : Sem Value} (hR : Rel lim φ H w) (h : ∃ v', s.run P w = .ok v' w ∧ VR φ v v') : Out P (do pure (.value (← s))) lim φ H w v H := by
  obtain ⟨v', h1, h2⟩ := h
  exact Out.still hR (v' := v') (by simp [h1]) h2
theorem map_fst_some {o : Option Value} {H : Heap} {r : Value × Heap} (h : (o.map fun v => (v, H)) = some r) : o = some r.1 ∧ r.2 = H := by
  cases o with
  | none => cases h
  | some v => simp at h; subst h; exact ⟨rfl, rfl⟩
theorem evalsR (hF : ∀ x, opOk x = true → VR φ (ev ρ x) (a.eval x)) : ∀ (l : List Operand), l.all opOk = true → VRs φ (l.map (ev ρ)) (l.map a.eval) := by
  intro l
  induction l with
  | nil => intro _; exact .nil
  | cons x l ih => intro h; simp at h; exact .cons (hF x h.1) (ih (by simpa using h.2))
theorem out_len_slice {argTypes : Array TypeId} {t ty e : TypeId} {x xu : Value} (ht : argTypes[0]? = some t) (hu : P.underlying t = some (.slice e)) (hx : VR φ x xu) (h : lenV false x = some v) :
    (Builtin.len_ argTypes ty #[xu]).run P w = .ok v w ∧ VR φ v v := by
  cases hx <;> simp only [lenV, Option.some.injEq, reduceCtorEq] at h <;> subst h <;> exact ⟨by simp [Builtin.len_, ht, run_underlying hu, goInt], .int _ _⟩
theorem out_len_string {argTypes : Array TypeId} {t ty : TypeId} {x xu : Value} (ht : argTypes[0]? = some t) (hu : P.underlying t = some .string) (hx : VR φ x xu) (h : lenV true x = some v) :
    (Builtin.len_ argTypes ty #[xu]).run P w = .ok v w ∧ VR φ v v := by
  cases hx <;> simp only [lenV, Option.some.injEq, reduceCtorEq] at h <;> subst h <;> exact ⟨by simp [Builtin.len_, ht, run_underlying hu, goInt], .int _ _⟩
theorem fill_len : ∀ (ps : List (Nat × Nat × Value)) (z l : List Value), fillL z ps = some l → l.length = z.length := by
  intro ps
  induction ps with
  | nil => intro z l h; simp [fillL] at h; rw [h]
  | cons p ps ih =>
    obtain ⟨off, n, v⟩ := p
    intro z l h
    simp only [fillL] at h
    split at h
    · rename_i hc
      rw [ih _ _ h]
      simp only [List.length_append, List.length_take, List.length_drop]
      omega
    · cases h
theorem fillZ_plain {z : List Value} (h : z.all plainB = true) : ∀ n, (fillZ z n).all plainB = true := by
  intro n
  induction n with
  | zero => rfl
  | succ n ih => simp only [fillZ, List.all_append, ih, h, Bool.and_self]
theorem fillZ_len (z : List Value) : ∀ n, (fillZ z n).length = n * z.length := by
  intro n
  induction n with
  | zero => simp [fillZ]
  | succ n ih => simp only [fillZ, List.length_append, ih, Nat.succ_mul]
theorem madeCells_take (z : Array Value) (hz : 0 < z.size) : ∀ (l c : Nat), l ≤ c → (madeCells z (c * z.size)).toList.take (l * z.size) = fillZ z.toList l := by
  intro l
  induction l with
  | zero => intro c _; simp [fillZ]
  | succ l ih =>
    intro c hc
    have h1 := ih c (by omega)
    have hmul : (l + 1) * z.size = l * z.size + z.size := Nat.succ_mul _ _
    have hle : l * z.size + z.size ≤ c * z.size := by rw [← hmul]; exact Nat.mul_le_mul_right _ hc
    rw [hmul, List.take_add, h1]
    simp only [fillZ]
    congr 1
    apply List.ext_getElem?
    intro i
    rw [List.getElem?_take]
    by_cases hi : i < z.size
    · rw [if_pos hi, List.getElem?_drop]
      have hlt : l * z.size + i < c * z.size := by omega
      have hmod : (l * z.size + i) % z.size = i := by rw [Nat.mul_comm, Nat.mul_add_mod, Nat.mod_eq_of_lt hi]
      simp only [madeCells, Array.toList_map, List.getElem?_map, Array.toList_range, List.getElem?_range hlt, Option.map_some, hmod]
      simp [hi]
    · rw [if_neg hi, List.getElem?_eq_none (by simp; omega)]
set_option maxHeartbeats 1000000 in
theorem step_ok {o : Oper} {r : ROp} (hr : resolveOp P o.op = some r) (hs : stepOp ρ H r = some (v, H')) (hlim : H'.length ≤ lim) (hR : Rel lim φ H w) (hF : ∀ x, opOk x = true → VR φ (ev ρ x) (a.eval x)) :
    Out P (execOp a.eval o) lim φ H w v H' := by
  obtain ⟨dst, op, type, pos, after, guard⟩ := o
  cases op
  all_goals simp only [resolveOp] at hr
  all_goals try (cases hr; done)
  case move x =>
    split at hr <;> simp only [Option.some.injEq, reduceCtorEq] at hr
    subst hr
    simp only [stepOp, Option.some.injEq, Prod.mk.injEq] at hs
    obtain ⟨rfl, rfl⟩ := hs
    exact Out.still hR (by simp [execOp]) (hF x ‹_›)
  case assign x =>
    split at hr <;> simp only [Option.some.injEq, reduceCtorEq] at hr
    subst hr
    simp only [stepOp, Option.some.injEq, Prod.mk.injEq] at hs
    obtain ⟨rfl, rfl⟩ := hs
    exact Out.still hR (by simp [execOp]) (hF x ‹_›)
  case pick c x y =>
    split at hr <;> simp only [Option.some.injEq, reduceCtorEq] at hr
    rename_i hok
    subst hr
    simp only [Bool.and_eq_true] at hok
    simp only [stepOp] at hs
    split at hs
    · rename_i t ht
      simp only [Option.some.injEq, Prod.mk.injEq] at hs
      obtain ⟨rfl, rfl⟩ := hs
      have hc := hF c hok.1.1
      rw [ht] at hc
      have hc' := bool_inv hc
      refine Out.still hR (v' := if t = true then a.eval x else a.eval y) ?_ ?_
      · simp [execOp, hc', asBool]
      · cases t
        · exact hF y hok.2
        · exact hF x hok.1.2
    · cases hs
  case alloc t =>
    split at hr
    · rename_i i hi
      split at hr
      · rename_i z hz
        split at hr <;> simp only [Option.some.injEq, reduceCtorEq] at hr
        rename_i hpl
        subst hr
        simp only [stepOp, Option.some.injEq, Prod.mk.injEq] at hs
        obtain ⟨rfl, rfl⟩ := hs
        obtain ⟨φ', h1, h2, h3, h4, _⟩ := run_alloc (P := P) hR (by simp at hlim; omega) t (VRs.plain (φ := φ) hpl)
        refine ⟨_, _, _, φ', ?_, .inl rfl, h2, h3, h4⟩
        simp only [execOp, Instr.alloc, Sem.run_bind, run_zero hi hz, Result.andThen_ok, newVar, Array.toArray_toList] at h1 ⊢
        simp [h1]
      · cases hr
    · cases hr
  case box t x =>
    split at hr <;> simp only [Option.some.injEq, reduceCtorEq] at hr
    rename_i hok
    subst hr
    simp only [stepOp, Option.some.injEq, Prod.mk.injEq] at hs
    obtain ⟨rfl, rfl⟩ := hs
    obtain ⟨φ', h1, h2, h3, h4, _⟩ := run_alloc (P := P) hR (by simp at hlim; omega) t (hF x hok).cells
    refine ⟨_, _, _, φ', ?_, .inl rfl, h2, h3, h4⟩
    have : (a.eval x).cells = ⟨(a.eval x).cells.toList⟩ := by simp
    rw [← this] at h1
    simp [execOp, Instr.box, newVar, h1]
  case build t ps =>
    split at hr
    · rename_i i hi
      split at hr
      · rename_i z hz
        split at hr
        · rename_i hpl
          split at hr
          · rename_i fs hu
            split at hr
            · rename_i hfs
              cases hp : partsOf P (fun j => (fs[j]?).map fun f => (f.offset, P.cellsOf f.type)) ps.toList with
              | none => rw [hp] at hr; cases hr
              | some r' =>
                rw [hp] at hr
                simp only [Option.map_some, Option.some.injEq] at hr
                subst hr
                simp only [stepOp] at hs
                cases hfl : fillL z.cells.toList (r'.map fun p => (p.1, p.2.1, ev ρ p.2.2)) with
                | none => rw [hfl] at hs; cases hs
                | some l =>
                  rw [hfl] at hs
                  simp only [Option.map_some, Option.some.injEq, Prod.mk.injEq] at hs
                  obtain ⟨rfl, rfl⟩ := hs
                  obtain ⟨m, h1, h2⟩ := fill_ok _ ps.toList r' z.cells.toList z.cells.toList l hp (VRs.plain hpl) hF hfl
                  refine Out.still hR (v' := .agg ⟨m⟩) ?_ (.agg h2)
                  have hz' : (⟨z.cells.toList⟩ : Array Value) = z.cells := by simp
                  rw [hz'] at h1
                  have hmap : (fs.mapM fun f => (do pure (f.offset, ← sizeOf f.type) : Sem (Nat × Nat))).run P w = .ok (fs.map fun f => (f.offset, P.cellsOf f.type)) w := by
                    obtain ⟨fs⟩ := fs
                    simp only [List.all_toArray] at hfs
                    rw [Array.mapM_eq_mapM_toList]
                    simp only [Sem.run_map]
                    have : ∀ (l : List Field), (l.all fun f => (P.info? f.type).isSome) = true → (l.mapM fun f => (do pure (f.offset, ← sizeOf f.type) : Sem (Nat × Nat))).run P w = .ok (l.map fun f => (f.offset, P.cellsOf f.type)) w := by
                      intro l
                      induction l with
                      | nil => intro _; rfl
                      | cons f l ih =>
                        intro h
                        simp only [List.all_cons, Bool.and_eq_true] at h
                        cases hif : P.info? f.type with
                        | none => rw [hif] at h; simp at h
                        | some fi =>
                          have := ih h.2
                          simp only [List.mapM_cons, Sem.run_bind, run_size hif, Result.andThen_ok, this, Sem.run_pure, List.map_cons, Program.cellsOf, hif, Option.map_some, Option.getD_some]
                    have h9 := this fs (by simpa using hfs)
                    simp only [h9]
                    simp
                  have hpm : (ps.map fun x => (x.1, a.eval x.2)).toList = ps.toList.map fun p => (p.1, a.eval p.2) := by simp
                  simp only [execOp, Instr.build, Sem.run_bind, run_zero hi hz, Result.andThen_ok, run_underlying hu, hmap, hpm]
                  have hget : (fun j : Nat => (fs.map fun (f : Field) => (f.offset, P.cellsOf f.type))[j]?) = fun j : Nat => (fs[j]?).map fun (f : Field) => (f.offset, P.cellsOf f.type) := by funext j; simp
                  rw [hget, h1]
                  simp
            · cases hr
          · rename_i n e hu
            split at hr
            · rename_i ie hie
              cases hp : partsOf P (fun j => some (j * ie.size, ie.size)) ps.toList with
              | none => rw [hp] at hr; cases hr
              | some r' =>
                rw [hp] at hr
                simp only [Option.map_some, Option.some.injEq] at hr
                subst hr
                simp only [stepOp] at hs
                cases hfl : fillL z.cells.toList (r'.map fun p => (p.1, p.2.1, ev ρ p.2.2)) with
                | none => rw [hfl] at hs; cases hs
                | some l =>
                  rw [hfl] at hs
                  simp only [Option.map_some, Option.some.injEq, Prod.mk.injEq] at hs
                  obtain ⟨rfl, rfl⟩ := hs
                  obtain ⟨m, h1, h2⟩ := fill_ok _ ps.toList r' z.cells.toList z.cells.toList l hp (VRs.plain hpl) hF hfl
                  refine Out.still hR (v' := .agg ⟨m⟩) ?_ (.agg h2)
                  have hz' : (⟨z.cells.toList⟩ : Array Value) = z.cells := by simp
                  rw [hz'] at h1
                  have hpm : (ps.map fun x => (x.1, a.eval x.2)).toList = ps.toList.map fun p => (p.1, a.eval p.2) := by simp
                  simp only [execOp, Instr.build, Sem.run_bind, run_zero hi hz, Result.andThen_ok, run_underlying hu, run_size hie, hpm, h1]
                  simp
            · cases hr
          · cases hr
        · cases hr
      · cases hr
    · cases hr
  case load t x =>
    split at hr
    · rename_i hok
      split at hr
      · rename_i d i hu hi
        simp only [Option.some.injEq] at hr
        subst hr
        by_cases hd : isAggB d = true
        · rw [if_pos hd] at hs
          obtain ⟨h1, h2⟩ := map_fst_some hs
          simp only at h1 h2
          subst h2
          exact out_of hR (run_loadN hR hu hi hd (hF x hok) h1)
        · rw [if_neg hd] at hs
          obtain ⟨h1, h2⟩ := map_fst_some hs
          simp only at h1 h2
          subst h2
          exact out_of hR (run_load1 hR hu (by simpa using hd) (hF x hok) h1)
      · cases hr
    · cases hr
  case store t p x =>
    split at hr
    · rename_i hok
      simp only [Bool.and_eq_true] at hok
      split at hr
      · rename_i i hi
        simp only [Option.some.injEq] at hr
        subst hr
        simp only [stepOp] at hs
        cases hst : storeV H i.size (ev ρ p) (ev ρ x) with
        | none => rw [hst] at hs; cases hs
        | some H2 =>
          rw [hst] at hs
          simp only [Option.map_some, Option.some.injEq, Prod.mk.injEq] at hs
          obtain ⟨rfl, rfl⟩ := hs
          obtain ⟨w', h1, h2, h3⟩ := run_storeN (P := P) hR hi (hF p hok.1) (hF x hok.2) hst
          exact ⟨.skip, undef, w', φ, by simp [execOp, h1], .inr ⟨rfl, rfl⟩, .tuple .nil, h2, h3⟩
      · cases hr
    · cases hr
  case nilCheck x =>
    split at hr <;> simp only [Option.some.injEq, reduceCtorEq] at hr
    rename_i hok
    subst hr
    obtain ⟨h1, h2⟩ := map_fst_some hs
    simp only at h1 h2
    subst h2
    have hx := hF x hok
    unfold notNil at h1
    split at h1 <;> simp only [Option.some.injEq, reduceCtorEq] at h1
    · rename_i ad he
      subst h1
      rw [he] at hx
      have hxx := hx
      have hex : ∃ ad, a.eval x = .pointer (some ad) := by
        generalize a.eval x = q at hx
        cases hx; exact ⟨_, rfl⟩
      obtain ⟨ad', hq⟩ := hex
      exact Out.still hR (v' := a.eval x) (by simp [execOp, hq]) hxx
    · rename_i f b c he
      subst h1
      rw [he] at hx
      have hxx := hx
      have hex : ∃ b' c', a.eval x = .func (.func f) b' c' := by
        generalize a.eval x = q at hx
        cases hx; exact ⟨_, _, rfl⟩
      obtain ⟨b', c', hq⟩ := hex
      exact Out.still hR (v' := a.eval x) (by simp [execOp, hq]) hxx
  case binOp op t x y yt =>
    split at hr
    · rename_i hok
      simp only [Bool.and_eq_true] at hok
      have hsame : ∀ (neg : Bool) (kind : EqKind) (d : TypeDesc), P.underlying t = some d → kindOk kind d → (op = if neg = true then .neq else .eql) → stepOp ρ H (.same neg kind x y) = some (v, H') →
          Out P (execOp a.eval ⟨dst, .binOp op t x y yt, type, pos, after, guard⟩) lim φ H w v H' := by
        intro neg kind d hu hk hop hs
        simp only [stepOp] at hs
        cases hsv : sameV kind x y (ev ρ x) (ev ρ y) with
        | none => rw [hsv] at hs; cases hs
        | some b =>
          rw [hsv] at hs
          simp only [Option.map_some, Option.some.injEq, Prod.mk.injEq] at hs
          obtain ⟨rfl, rfl⟩ := hs
          exact out_of hR ⟨_, out_same (hF x hok.1) (hF y hok.2) hsv hop hu hk, .bool _⟩
      split at hr
      · rename_i k hu
        simp only [Option.some.injEq] at hr
        subst hr
        obtain ⟨h1, h2⟩ := map_fst_some hs
        simp only at h1 h2
        subst h2
        exact out_of hR ⟨v, out_arith hR (hF x hok.1) (hF y hok.2) h1⟩
      all_goals first
        | (cases hr; done)
        | (rename_i hu
           split at hr <;> simp only [Option.some.injEq, reduceCtorEq] at hr
           · subst hr; exact hsame _ _ _ hu (by trivial) rfl hs
           · subst hr; exact hsame _ _ _ hu (by trivial) rfl hs)
        | skip
      rename_i ms hu
      have hI : ∀ (neg : Bool), etOk P = true → (op = if neg = true then .neq else .eql) → stepOp ρ H (.sameI neg x y) = some (v, H') →
          Out P (execOp a.eval ⟨dst, .binOp op t x y yt, type, pos, after, guard⟩) lim φ H w v H' := by
        intro neg he hop hs
        simp only [stepOp] at hs
        cases hsv : eqI (ev ρ x) (ev ρ y) with
        | none => rw [hsv] at hs; cases hs
        | some b =>
          rw [hsv] at hs
          simp only [Option.map_some, Option.some.injEq, Prod.mk.injEq] at hs
          obtain ⟨rfl, rfl⟩ := hs
          exact out_of hR ⟨_, out_sameI hR (hF x hok.1) (hF y hok.2) hsv hop hu he, .bool _⟩
      split at hr
      · split at hr
        · simp only [Option.some.injEq] at hr; subst hr; exact hsame _ _ _ hu (by trivial) rfl hs
        · split at hr
          · rename_i he; simp only [Option.some.injEq] at hr; subst hr; exact hI _ he rfl hs
          · cases hr
      · split at hr
        · simp only [Option.some.injEq] at hr; subst hr; exact hsame _ _ _ hu (by trivial) rfl hs
        · split at hr
          · rename_i he; simp only [Option.some.injEq] at hr; subst hr; exact hI _ he rfl hs
          · cases hr
      · cases hr
    · cases hr
  case unOp op t x =>
    split at hr <;> simp only [Option.some.injEq, reduceCtorEq] at hr
    rename_i hok
    subst hr
    obtain ⟨h1, h2⟩ := map_fst_some hs
    simp only at h1 h2
    subst h2
    exact out_of hR ⟨v, out_un (hF x hok) h1⟩
  case convert s d x =>
    split at hr
    · rename_i hok
      split at hr <;> simp only [Option.some.injEq, reduceCtorEq] at hr
      rename_i k0 k h1 h2
      subst hr
      simp only [stepOp] at hs
      split at hs
      · rename_i k1 n he
        simp only [Option.some.injEq, Prod.mk.injEq] at hs
        obtain ⟨rfl, rfl⟩ := hs
        have hx := hF x hok
        rw [he] at hx
        have hx' := int_inv hx
        refine out_of hR ⟨_, ?_, .int _ _⟩
        simp [convert, run_underlying h1, run_underlying h2, hx', Conv.intToInt]
      · cases hs
    · cases hr
  case fieldAddr s x f =>
    split at hr
    · rename_i hok
      split at hr
      · rename_i fs hu
        split at hr
        · rename_i fl hfl
          split at hr
          · rename_i i hi
            split at hr <;> simp only [Option.some.injEq, reduceCtorEq] at hr
            rename_i hne
            subst hr
            obtain ⟨h1, h2⟩ := map_fst_some hs
            simp only at h1 h2
            subst h2
            have hx := hF x hok
            unfold fieldV at h1
            split at h1 <;> simp only [Option.some.injEq, reduceCtorEq] at h1
            rename_i j o he
            subst h1
            rw [he] at hx
            obtain ⟨k, e, hk⟩ := ptr_inv hx
            refine out_of hR ⟨.pointer (some ⟨k.1, k.2.2 + (o + fl.offset), none⟩), ?_, .ptr e⟩
            simp [Instr.fieldAt, run_underlying hu, hfl, hk, Instr.sureAddr, fieldPlace, run_size hi, hne, add_off, Nat.add_assoc]
          · cases hr
        · cases hr
      · cases hr
    · cases hr
  case field s x f =>
    split at hr
    · rename_i hok
      split at hr
      · rename_i fs hu
        split at hr
        · rename_i fl hfl
          split at hr <;> simp only [Option.some.injEq, reduceCtorEq] at hr
          rename_i d i hd hi
          subst hr
          obtain ⟨h1, h2⟩ := map_fst_some hs
          simp only at h1 h2
          subst h2
          have hx := hF x hok
          have h1' := h1
          unfold partV at h1
          split at h1
          · rename_i cs he
            obtain ⟨cs⟩ := cs
            rw [he] at hx
            obtain ⟨m, hm, hms⟩ := agg_inv hx
            rw [he] at h1'
            obtain ⟨v', g1, g2⟩ := out_part (P := P) (agg := true) (w := w) hd hi hms h1'
            exact out_of hR ⟨v', by simp [Instr.field, run_underlying hu, hfl, hm, asAgg, g1], g2⟩
          · cases h1
        · cases hr
      · cases hr
    · cases hr
  case indexAddr t x i =>
    split at hr
    · rename_i hok
      simp only [Bool.and_eq_true] at hok
      split at hr
      · rename_i e hu
        split at hr <;> simp only [Option.some.injEq, reduceCtorEq] at hr
        rename_i ie hi
        subst hr
        obtain ⟨h1, h2⟩ := map_fst_some hs
        simp only at h1 h2
        subst h2
        exact out_of hR (out_idxS hu hi (hF x hok.1) (hF i hok.2) h1)
      · rename_i n e hu
        split at hr <;> simp only [Option.some.injEq, reduceCtorEq] at hr
        rename_i ie hi
        subst hr
        obtain ⟨h1, h2⟩ := map_fst_some hs
        simp only at h1 h2
        subst h2
        exact out_of hR (out_idxA hu hi (hF x hok.1) (hF i hok.2) h1)
      · cases hr
    · cases hr
  case index t x i =>
    split at hr
    · rename_i hok
      simp only [Bool.and_eq_true] at hok
      split at hr
      · rename_i n e hu
        split at hr <;> simp only [Option.some.injEq, reduceCtorEq] at hr
        rename_i ie d hi hd
        subst hr
        obtain ⟨h1, h2⟩ := map_fst_some hs
        simp only at h1 h2
        subst h2
        exact out_of hR (out_idxV hu hd hi (hF x hok.1) (hF i hok.2) h1)
      · cases hr
    · cases hr
  case makeInterface t x =>
    split at hr
    · rename_i hok
      split at hr
      · cases hr
      · rename_i d hni hu
        simp only [Option.some.injEq] at hr
        subst hr
        simp only [stepOp, Option.some.injEq, Prod.mk.injEq] at hs
        obtain ⟨rfl, rfl⟩ := hs
        refine out_of hR ⟨.iface t (a.eval x), ?_, .iface t (hF x hok)⟩
        simp only [Instr.makeInterface, Sem.run_bind, run_underlying hu, Result.andThen_ok]
        cases d <;> first | rfl | (exfalso; simp_all; done)
      · cases hr
    · cases hr
  case makeFunc fn first captured =>
    split at hr
    · rename_i f hfirst
      obtain ⟨captured⟩ := captured
      obtain ⟨first⟩ := first
      simp only at hfirst
      subst hfirst
      split at hr
      · rename_i hok
        simp only [Option.some.injEq] at hr
        subst hr
        simp only [stepOp, Option.some.injEq, Prod.mk.injEq] at hs
        obtain ⟨rfl, rfl⟩ := hs
        have hxs := evalsR hF captured (by simpa using hok)
        refine out_of hR ⟨.func (.func f) #[] ⟨captured.map a.eval⟩, ?_, .func _ hxs⟩
        simp [Instr.makeFunc]
      · cases hr
    · cases hr
  case slice t x lo hi mx =>
    split at hr
    · rename_i hok
      simp only [Bool.and_eq_true, Option.isNone_iff_eq_none] at hok
      obtain ⟨⟨⟨hx, hlo⟩, hhi⟩, rfl⟩ := hok
      split at hr
      · rename_i e hu
        split at hr <;> simp only [Option.some.injEq, reduceCtorEq] at hr
        rename_i ie hie
        subst hr
        obtain ⟨h1, h2⟩ := map_fst_some hs
        simp only at h1 h2
        subst h2
        refine out_of hR (out_slice hu hie (hF x hx) ?_ ?_ ?_ ?_ h1)
        · intro y hy; cases lo with
          | none => cases hy
          | some q => simp at hy; subst hy; exact ⟨_, rfl, hF q (by simpa using hlo)⟩
        · intro hn; cases lo with
          | none => rfl
          | some q => cases hn
        · intro y hy; cases hi with
          | none => cases hy
          | some q => simp at hy; subst hy; exact ⟨_, rfl, hF q (by simpa using hhi)⟩
        · intro hn; cases hi with
          | none => rfl
          | some q => cases hn
      · cases hr
    · cases hr
  case buildSlice t len ps =>
    split at hr
    · rename_i e hu
      split at hr
      · rename_i ie hie
        split at hr
        · rename_i z hz
          split at hr
          · rename_i hpl
            simp only [Bool.and_eq_true, decide_eq_true_eq] at hpl
            obtain ⟨hpl, hle⟩ := hpl
            cases hp : partsOf P (fun j => some (j * ie.size, ie.size)) ps.toList with
            | none => rw [hp] at hr; cases hr
            | some r' =>
              rw [hp] at hr
              simp only [Option.map_some, Option.some.injEq] at hr
              subst hr
              simp only [stepOp] at hs
              cases hfl : fillL (zeroRow z (len * ie.size)) (r'.map fun p => (p.1, p.2.1, ev ρ p.2.2)) with
              | none => rw [hfl] at hs; cases hs
              | some l =>
                rw [hfl] at hs
                simp only [Option.map_some, Option.some.injEq, Prod.mk.injEq] at hs
                obtain ⟨rfl, rfl⟩ := hs
                obtain ⟨m, h1, h2⟩ := fill_ok _ ps.toList r' _ _ l hp (VRs.plain (φ := φ) hpl) hF hfl
                obtain ⟨φ', g1, g2, g3, g4, g5⟩ := run_alloc (P := P) hR (by simp at hlim; omega) e h2
                have hml := h2.length
                have hlen : l.length = len * ie.size := by
                  have := fill_len _ _ _ hfl
                  rw [this]; simp [zeroRow]
                refine ⟨_, .slice (some ⟨w.heap.size, 0, none⟩) len len, _, φ', ?_, .inl rfl, .slice (k := (w.heap.size, m.length, 0)) g5 (Nat.le_refl _) (fun _ => by show len * ie.size ≤ m.length; omega), g3, g4⟩
                have hpm : (ps.map fun x => (x.1, a.eval x.2)).toList = ps.toList.map fun p => (p.1, a.eval p.2) := by simp
                have hle' : ¬ (2 ^ 24 < len * ie.size) := by omega
                have hzr : (⟨zeroRow z (len * ie.size)⟩ : Array Value) = (Array.range (len * ie.size)).map (z.cells[· % z.cells.size]!) := by unfold zeroRow; apply Array.ext'; simp
                rw [hzr] at h1
                simp only [execOp, Instr.buildSlice, Sem.run_bind, run_underlying hu, Result.andThen_ok, run_size hie, hpm]
                rw [if_neg hle']
                by_cases hz0 : len * ie.size = 0
                · have hz1 : (Array.range (len * ie.size)).map (z.cells[· % z.cells.size]!) = (Array.range (len * ie.size)).map ((#[] : Array Value)[· % (#[] : Array Value).size]!) := by rw [hz0]; apply Array.ext'; simp
                  rw [hz1] at h1
                  simp only [hz0, if_true, Sem.run_bind, Result.andThen_ok, Sem.run_pure] at h1 ⊢
                  simp only [h1, Sem.run_bind, g1, Result.andThen_ok, Sem.run_pure]
                · simp only [hz0, if_false, Sem.run_bind, run_zero hie hz, Result.andThen_ok, Sem.run_pure, h1, g1]
          · cases hr
        · cases hr
      · cases hr
    · cases hr
  case typeAssert x xt t ok =>
    cases ok with
    | false => cases hr
    | true =>
      simp only at hr
      split at hr
      · rename_i hok
        split at hr
        · rename_i d i hu hi
          split at hr
          · cases hr
          · rename_i z hni hz
            split at hr
            · rename_i hpl
              simp only [Option.some.injEq] at hr
              subst hr
              obtain ⟨h1, h2⟩ := map_fst_some hs
              simp only at h1 h2
              subst h2
              have hx := hF x hok
              have hzp : VR φ z z := VR.plainB hpl
              have hzr : (zeroValue t).run P w = .ok z w := run_zero hi hz
              unfold tassV at h1
              split at h1
              · rename_i u v0 he
                simp only [Option.some.injEq] at h1
                subst h1
                rw [he] at hx
                obtain ⟨v1, hq, hv⟩ : ∃ v1, a.eval x = .iface u v1 ∧ VR φ v0 v1 := by
                  generalize a.eval x = q at hx
                  cases hx
                  exact ⟨_, rfl, ‹_›⟩
                by_cases hut : u = t
                · subst hut
                  refine Out.still hR (v' := .tuple ⟨[v1, .bool true]⟩) ?_ (by rw [if_pos rfl]; exact .tuple (.cons hv (.cons (.bool _) .nil)))
                  have : (Instr.typeAssert (.iface u v1) xt u true).run P w = .ok (.tuple ⟨[v1, .bool true]⟩) w := by
                    unfold Instr.typeAssert
                    simp only [Sem.run_bind, run_underlying hu, Result.andThen_ok]
                    simp
                  simp only [execOp, hq, Sem.run_bind, this, Result.andThen_ok, Sem.run_pure]
                · refine Out.still hR (v' := .tuple ⟨[z, .bool false]⟩) ?_ (by rw [if_neg hut]; exact .tuple (.cons hzp (.cons (.bool _) .nil)))
                  have : (Instr.typeAssert (.iface u v1) xt t true).run P w = .ok (.tuple ⟨[z, .bool false]⟩) w := by
                    unfold Instr.typeAssert
                    simp only [Sem.run_bind, run_underlying hu, Result.andThen_ok]
                    simp [hut, hzr]
                  simp only [execOp, hq, Sem.run_bind, this, Result.andThen_ok, Sem.run_pure]
              · rename_i he
                simp only [Option.some.injEq] at h1
                subst h1
                rw [he] at hx
                have hq : a.eval x = .nilIface := by
                  generalize a.eval x = q at hx
                  cases hx
                  rfl
                refine Out.still hR (v' := .tuple ⟨[z, .bool false]⟩) ?_ (.tuple (.cons hzp (.cons (.bool _) .nil)))
                have : (Instr.typeAssert .nilIface xt t true).run P w = .ok (.tuple ⟨[z, .bool false]⟩) w := by
                  unfold Instr.typeAssert
                  simp only [Sem.run_bind, run_underlying hu, Result.andThen_ok]
                  simp [hzr]
                simp only [execOp, hq, Sem.run_bind, this, Result.andThen_ok, Sem.run_pure]
              · cases h1
            · cases hr
          · cases hr
        · cases hr
      · cases hr
  case makeSlice t l c =>
    split at hr
    · rename_i hok
      simp only [Bool.and_eq_true] at hok
      split at hr
      · rename_i e hu
        split at hr
        · rename_i ie hie
          split at hr
          · rename_i z hz
            split at hr
            · rename_i hpl
              simp only [Bool.and_eq_true, decide_eq_true_eq] at hpl
              obtain ⟨⟨hpl, hpos⟩, hzs⟩ := hpl
              simp only [Option.some.injEq] at hr
              subst hr
              simp only [stepOp, mksliceV] at hs
              split at hs
              · rename_i kl nl kc nc hel hec
                split at hs
                · rename_i hcond
                  obtain ⟨h0, h1, h2, h3⟩ := hcond
                  simp only [Option.some.injEq, Prod.mk.injEq] at hs
                  obtain ⟨rfl, rfl⟩ := hs
                  have q1 := hF l hok.1
                  have q2 := hF c hok.2
                  rw [hel] at q1; rw [hec] at q2
                  have q1' := int_inv q1
                  have q2' := int_inv q2
                  have hrun := run_make (P := P) w t e ie z hu hie hz kl kc nl nc h0 h1 (by omega) (by omega)
                  have hlen : nl.toNat ≤ nc.toNat := by omega
                  obtain ⟨g1, g2⟩ := hR.alloc (by simp at hlim; omega) e (VRs.plain (φ := φ) (fillZ_plain hpl nl.toNat)) ((madeCells z.cells (nc.toNat * ie.size)).toList.drop (nl.toNat * ie.size))
                  have harr : (⟨fillZ z.cells.toList nl.toNat ++ (madeCells z.cells (nc.toNat * ie.size)).toList.drop (nl.toNat * ie.size)⟩ : Array Value) = madeCells z.cells (nc.toNat * ie.size) := by
                    apply Array.ext'
                    show fillZ z.cells.toList nl.toNat ++ (madeCells z.cells (nc.toNat * ie.size)).toList.drop (nl.toNat * ie.size) = (madeCells z.cells (nc.toNat * ie.size)).toList
                    rw [← hzs, ← madeCells_take z.cells (by omega) nl.toNat nc.toNat hlen, List.take_append_drop]
                  rw [harr] at g1 g2
                  refine ⟨_, _, _, _, ?_, .inl rfl, .slice (k := (w.heap.size, _, 0)) (by unfold Loc.add; rw [if_pos rfl]) hlen (fun _ => ?_), g1, g2⟩
                  · simp only [execOp, q1', q2', Sem.run_bind, hrun, Result.andThen_ok, Sem.run_pure]
                  · have e1 := congrArg Array.size harr
                    rw [size_madeCells] at e1
                    have e2 : (fillZ z.cells.toList nl.toNat ++ (madeCells z.cells (nc.toNat * ie.size)).toList.drop (nl.toNat * ie.size)).length = nc.toNat * ie.size := e1
                    exact Nat.le_of_eq e2.symm
                · cases hs
              · cases hs
            · cases hr
          · cases hr
        · cases hr
      · cases hr
    · cases hr
  case makeMap t n =>
    cases n with
    | some n => cases hr
    | none =>
      simp only at hr
      cases hm : mapOf P t with
      | none => rw [hm] at hr; cases hr
      | some p =>
        rw [hm] at hr
        simp only [Option.map_some, Option.some.injEq] at hr
        subst hr
        simp only [stepOp, Option.some.injEq, Prod.mk.injEq] at hs
        obtain ⟨rfl, rfl⟩ := hs
        obtain ⟨φ', h1, h2, h3, h4⟩ := out_mkmap (P := P) (t := t) hR p.1 (by simp at hlim; omega)
        exact ⟨_, _, _, φ', by simp [execOp, h1], .inl rfl, h2, h3, h4⟩
  case lookup t m k ok =>
    cases ok with
    | false => cases hr
    | true =>
      simp only at hr
      split at hr
      · rename_i hok
        simp only [Bool.and_eq_true] at hok
        split at hr
        · rename_i q e hm
          split at hr
          · rename_i i hi
            split at hr
            · rename_i z hz
              split at hr <;> simp only [Option.some.injEq, reduceCtorEq] at hr
              rename_i hpl
              subst hr
              obtain ⟨h1, h2⟩ := map_fst_some hs
              simp only at h1 h2
              subst h2
              exact out_of hR (out_look hR hm hi hz hpl (hF m hok.1) (hF k hok.2) h1)
            · cases hr
          · cases hr
        · cases hr
      · cases hr
  case mapUpdate t m k x =>
    split at hr
    · rename_i hok
      simp only [Bool.and_eq_true] at hok
      cases hm : mapOf P t with
      | none => rw [hm] at hr; cases hr
      | some p =>
        obtain ⟨q, e⟩ := p
        rw [hm] at hr
        simp only [Option.map_some, Option.some.injEq] at hr
        subst hr
        simp only [stepOp, Option.map_eq_some_iff, Prod.mk.injEq] at hs
        obtain ⟨H2, h1, h2, rfl⟩ := hs
        subst h2
        obtain ⟨w', g1, g2, g3⟩ := out_mupd (P := P) hR hm (hF m hok.1.1) (hF k hok.1.2) (hF x hok.2) h1
        exact ⟨_, undef, w', φ, by simp [execOp, g1], .inr ⟨rfl, rfl⟩, VR.plain rfl, g2, g3⟩
    · cases hr
  case extract x i =>
    split at hr <;> simp only [Option.some.injEq, reduceCtorEq] at hr
    rename_i hok
    subst hr
    obtain ⟨h1, h2⟩ := map_fst_some hs
    simp only at h1 h2
    subst h2
    exact out_of hR (out_extract (hF x hok) h1)
  case call c =>
    split at hr
    · rename_i hok
      obtain ⟨callee, args, argTypes⟩ := c
      obtain ⟨args⟩ := args
      simp only at hok hr
      split at hr
      · split at hr
        · rename_i x t hxs ht
          subst_vars
          simp only [List.all_cons, List.all_nil, Bool.and_true] at hok
          have hx := hF _ hok
          split at hr <;> simp only [Option.some.injEq, reduceCtorEq] at hr <;> rename_i hu <;> subst hr
          · obtain ⟨h1, h2⟩ := map_fst_some hs
            simp only at h1 h2
            subst h2
            obtain ⟨g1, g2⟩ := out_len_slice (P := P) (w := w) (ty := type) ht hu hx h1
            exact Out.still hR (by simp [execOp, resolve, invoke, builtin, g1]) g2
          · obtain ⟨h1, h2⟩ := map_fst_some hs
            simp only at h1 h2
            subst h2
            obtain ⟨g1, g2⟩ := out_len_string (P := P) (w := w) (ty := type) ht hu hx h1
            exact Out.still hR (by simp [execOp, resolve, invoke, builtin, g1]) g2
          · simp only [stepOp, Option.some.injEq, Prod.mk.injEq] at hs
            obtain ⟨rfl, rfl⟩ := hs
            exact Out.still hR (by simp [execOp, resolve, invoke, builtin, Builtin.len_, ht, run_underlying hu, goInt]) (.int _ _)
        · cases hr
      · simp only [Option.some.injEq] at hr
        subst hr
        obtain ⟨h1, h2⟩ := map_fst_some hs
        simp only at h1 h2
        subst h2
        have hxs := evalsR hF args (by simpa using hok)
        cases args with
        | nil => cases h1
        | cons x xs =>
          cases hxs with
          | cons g1 g2 =>
            obtain ⟨v', e1, e2⟩ := out_mnmx (P := P) (w := w) _ _ _ _ g1 g2 h1
            exact Out.still hR (v' := v') (by simp only [if_true] at e1; simp [execOp, resolve, invoke, builtin, Builtin.max_, e1]) e2
      · simp only [Option.some.injEq] at hr
        subst hr
        obtain ⟨h1, h2⟩ := map_fst_some hs
        simp only at h1 h2
        subst h2
        have hxs := evalsR hF args (by simpa using hok)
        cases args with
        | nil => cases h1
        | cons x xs =>
          cases hxs with
          | cons g1 g2 =>
            obtain ⟨v', e1, e2⟩ := out_mnmx (P := P) (w := w) _ _ _ _ g1 g2 h1
            exact Out.still hR (v' := v') (by simp only [Bool.false_eq_true, if_false] at e1; simp [execOp, resolve, invoke, builtin, Builtin.min_, e1]) e2
      · split at hr
        · rename_i s x t t' hxs ht
          subst_vars
          simp only [List.all_cons, List.all_nil, Bool.and_true, Bool.and_eq_true] at hok
          split at hr
          · rename_i e hu
            split at hr
            · rename_i ie hie
              split at hr
              · rename_i z hz
                split at hr <;> simp only [Option.some.injEq, reduceCtorEq] at hr
                rename_i hc
                simp only [Bool.and_eq_true, beq_iff_eq, decide_eq_true_eq] at hc
                obtain ⟨⟨⟨rfl, c1⟩, c2⟩, c3⟩ := hc
                subst hr
                obtain ⟨v', w', φ', e1, e2, e3, e4⟩ := out_append (P := P) (ty := type) hR hu hie hz c2 c1 c3 (hF _ hok.1) (hF _ hok.2) hs hlim
                obtain ⟨argTypes⟩ := argTypes
                simp only at ht
                subst ht
                refine ⟨_, v', w', φ', ?_, .inl rfl, e2, e3, e4⟩
                simp [execOp, resolve, invoke, builtin, e1]
              · cases hr
            · cases hr
          · cases hr
        · cases hr
      · cases hr
    · cases hr
end Go.Proofs.Ytoknmodbdlfdmaa.Sim
