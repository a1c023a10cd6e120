/- A map over the plain heap: made, looked up, written. -/
import Derived.Test.YtoknmodbdlfdmaaSim5
import Derived.Carry
namespace Go.Proofs.Ytoknmodbdlfdmaa.Sim
open Go Go.RowKit
set_option linter.unusedVariables false
set_option linter.unusedSimpArgs false
variable {P : Program} {lim : Nat} {φ : Loc} {H : Heap} {w : World} {v : Value} {H' : Heap} {ρ : Fr} {a : Act}
theorem isKey_int (q : IntKind) (x : Int) : MapKept.IsKey (.int q) (.int q x) := rfl
theorem EsR.find {q : IntKind} {l : List (Int × Value)} {es : List MapEntry} (h : EsR φ q l es) (x : Int) : ∀ n,
    (findM l x = none ∧ Instr.findNow (.int q) (.int q x) es n = some none ∧ (∀ e ∈ es, e.key ≠ .int q x) ∧ ∀ v v' born, VR φ v v' → EsR φ q (putM l x v) (es ++ [⟨.int q x, v', born⟩])) ∨
    ∃ j e u, findM l x = some u ∧ Instr.findNow (.int q) (.int q x) es n = some (some (n + j, e.val)) ∧ es[j]? = some e ∧ e.key = .int q x ∧ VR φ u e.val ∧
      ∀ v v', VR φ v v' → EsR φ q (putM l x v) (es.modify j fun e => { e with key := .int q x, val := v' }) ∧ (es.modify j fun e => { e with key := .int q x, val := v' }).map (·.born) = es.map (·.born) := by
  induction h with
  | nil => intro n; exact .inl ⟨rfl, rfl, by simp, fun v v' born hv => .cons rfl hv .nil⟩
  | @cons p e l es hk hv hr ih =>
    intro n
    obtain ⟨y, u⟩ := p
    simp only at hk hv
    by_cases hxy : x = y
    · subst hxy
      refine .inr ⟨0, e, u, by simp [findM], by simp [Instr.findNow, hk, Instr.sameNow], rfl, hk, hv, fun v v' hv' => ?_⟩
      simp only [putM, if_true, List.modify_zero_cons]
      exact ⟨.cons rfl hv' hr, rfl⟩
    · have hb : (x == y) = false := by simpa using hxy
      rcases ih (n + 1) with ⟨h1, h2, h3, h4⟩ | ⟨j, e', u', h1, h2, h3, h4, h5, h6⟩
      · refine .inl ⟨by simp [findM, hxy, h1], by simp [Instr.findNow, hk, Instr.sameNow, hb, h2], fun e0 he => ?_, fun v v' born hv' => ?_⟩
        · rcases List.mem_cons.1 he with rfl | he
          · rw [hk]; intro g; simp only [Value.int.injEq] at g; exact hxy g.2.symm
          · exact h3 e0 he
        · simp only [putM, hxy, if_false, List.cons_append]
          exact .cons hk hv (h4 v v' born hv')
      · refine .inr ⟨j + 1, e', u', by simp [findM, hxy, h1], by simp [Instr.findNow, hk, Instr.sameNow, hb, h2]; omega, by simpa using h3, h4, h5, fun v v' hv' => ?_⟩
        simp only [putM, hxy, if_false, List.modify_succ_cons]
        obtain ⟨i1, i2⟩ := h6 v v' hv'
        exact ⟨.cons hk hv i1, by rw [List.map_cons, List.map_cons, i2]⟩
theorem mapOf_some {t : TypeId} {q : IntKind} {e : TypeId} (h : mapOf P t = some (q, e)) : ∃ k, P.underlying t = some (.map k e) ∧ P.underlying k = some (.int q) := by
  unfold mapOf at h
  split at h
  · rename_i k e' hu
    split at h
    · rename_i q' hk
      simp only [Option.some.injEq, Prod.mk.injEq] at h
      obtain ⟨rfl, rfl⟩ := h
      exact ⟨k, hu, hk⟩
    · cases h
  · cases h
theorem map_inv {i : Nat} {u : Value} (h : VR φ (.map (some i)) u) : ∃ k, φ i = some k ∧ u = .map (some k.1) := by
  cases h with
  | map e => exact ⟨_, e, rfl⟩
theorem intv_inv {k : IntKind} {n : Int} {u : Value} (h : VR φ (.int k n) u) : u = .int k n := by cases h; rfl
theorem Rel.mblock (hR : Rel lim φ H w) {i : Nat} {k : Nat × Nat × Nat} {q : IntKind} {l : List (Int × Value)} {g : Gs} (h : mlive H i = some (q, l, g)) (e : φ i = some k) : HeldM φ w k q l g := by
  obtain ⟨b, h1, h2⟩ := mlive_some h
  obtain ⟨k', e', g⟩ := hR.blk i b h1
  rw [e] at e'; cases e'
  rcases g with ⟨h0, _⟩ | ⟨q', l', g', h0, _, g⟩
  · rw [h2] at h0; cases h0
  · rw [h2] at h0; cases h0; exact g
theorem out_mkmap (hR : Rel lim φ H w) {t : TypeId} (q : IntKind) (hlim : H.length < lim) :
    ∃ φ', (Instr.makeMap t none).run P w = .ok (.map (some w.heap.size)) (w.alloc (.map #[] 0)) ∧ VR φ' (.map (some H.length)) (.map (some w.heap.size)) ∧
      Rel lim φ' (H ++ [some (mapB q [] ([], 0))]) (w.alloc (.map #[] 0)) ∧ Keeps φ H w φ' (H ++ [some (mapB q [] ([], 0))]) (w.alloc (.map #[] 0)) := by
  obtain ⟨h1, h2⟩ := hR.allocB hlim (.map #[] 0) (mapB q [] ([], 0)) rfl 0 (.inr ⟨q, [], ([], 0), rfl, rfl, #[], heap_alloc_new w _, MapKept.stamped_empty 0, .nil, rfl⟩)
  exact ⟨_, run_makeMap t w, .map (k := (w.heap.size, 0, 0)) (by unfold Loc.add; rw [if_pos rfl]), h1, h2⟩
theorem out_look (hR : Rel lim φ H w) {t e : TypeId} {q : IntKind} {i : TypeInfo} {z : Value} (ht : mapOf P t = some (q, e)) (hi : P.info? e = some i) (hz : i.zero = some z) (hpl : plainV z = true) {m x mu xu : Value} (hm : VR φ m mu) (hx : VR φ x xu)
    (h : lookV q z H m x = some v) : ∃ v', (Instr.lookup t mu xu true).run P w = .ok v' w ∧ VR φ v v' := by
  obtain ⟨k, hu, hk⟩ := mapOf_some ht
  unfold lookV at h
  split at h
  · rename_i n q' y
    obtain ⟨kk, ek, rfl⟩ := map_inv hm
    rw [intv_inv hx]
    simp only [Option.bind_eq_some_iff] at h
    obtain ⟨⟨q'', l, g⟩, hl, h⟩ := h
    split at h
    · rename_i hc
      obtain ⟨hc1, rfl⟩ := hc
      simp only at hc1
      subst hc1
      simp only [Option.some.injEq] at h
      obtain ⟨es, hb, hst, hes, hbn⟩ := hR.mblock hl ek
      have hck : ∀ em, (Instr.checkKey em 10000 k (.int q'' y)).run P w = .ok () w := fun em => MapKept.run_checkKey hk (isKey_int q'' y) em 9999
      have hzr : (zeroValue e).run P w = .ok z w := run_zero hi hz
      rcases hes.find y 0 with ⟨h1, h2, _⟩ | ⟨j, e0, u, h1, h2, _, _, h5, _⟩
      · refine ⟨.tuple ⟨[z, .bool false]⟩, ?_, ?_⟩
        · simp [Instr.lookup, run_underlying hu, MapKept.run_getObj_map hb, hck, MapKept.run_findKey hk h2, hzr, Result.andThen]
        · rw [← h, h1]; exact .tuple (.cons (VR.plain hpl) (.cons (.bool _) .nil))
      · refine ⟨.tuple ⟨[e0.val, .bool true]⟩, ?_, ?_⟩
        · simp [Instr.lookup, run_underlying hu, MapKept.run_getObj_map hb, hck, MapKept.run_findKey hk h2, Result.andThen]
        · rw [← h, h1]; exact .tuple (.cons h5 (.cons (.bool _) .nil))
    · cases h
  · cases h
theorem out_mupd (hR : Rel lim φ H w) {t e : TypeId} {q : IntKind} (ht : mapOf P t = some (q, e)) {m x y mu xu yu : Value} (hm : VR φ m mu) (hx : VR φ x xu) (hy : VR φ y yu) (h : mupdV q H m x y = some H') :
    ∃ w', (Instr.mapUpdate t mu xu yu).run P w = .ok () w' ∧ Rel lim φ H' w' ∧ Keeps φ H w φ H' w' := by
  obtain ⟨k, hu, hk⟩ := mapOf_some ht
  unfold mupdV at h
  split at h
  · rename_i n q' x'
    obtain ⟨kk, ek, rfl⟩ := map_inv hm
    rw [intv_inv hx]
    simp only [Option.bind_eq_some_iff] at h
    obtain ⟨⟨q'', l, g⟩, hl, h⟩ := h
    split at h
    · rename_i hc
      obtain ⟨hc1, rfl⟩ := hc
      simp only at hc1
      subst hc1
      simp only [Option.some.injEq] at h
      subst h
      obtain ⟨es, hb, hst, hes, hbn⟩ := hR.mblock hl ek
      obtain ⟨b, hb1, hb2⟩ := mlive_some hl
      have hck : ∀ em, (Instr.checkKey em 10000 k (.int q'' x')).run P w = .ok () w := fun em => MapKept.run_checkKey hk (isKey_int q'' x') em 9999
      -- whose block it is
      have key : ∀ (es' : Array MapEntry) (clock' : Nat), MapKept.Stamped es' clock' → EsR φ q'' (putM l x' y) es'.toList → (es'.toList.map (·.born), clock') = putG l x' g → b.own = true →
          Rel lim φ (H.set n (some (mapB q'' (putM l x' y) (putG l x' g)))) { w with heap := w.heap.setIfInBounds kk.1 (.map es' clock') } ∧ Keeps φ H w φ (H.set n (some (mapB q'' (putM l x' y) (putG l x' g)))) { w with heap := w.heap.setIfInBounds kk.1 (.map es' clock') } := by
        intro es' clock' g1 g2 g4 g3
        have hset := MapKept.heap_set (o' := Obj.map es' clock') hb
        exact hR.writeB hb1 g3 ek (mapB q'' (putM l x' y) (putG l x' g)) rfl (.inr ⟨q'', _, _, rfl, rfl, es', by rw [← g4]; exact hset.1, by rw [← g4]; exact g1, g2, by rw [← g4]⟩) (fun c t hc => by rw [hb] at hc; cases hc) hset.2 (by simp) rfl rfl rfl
      have hown : b.own = true := by
        obtain ⟨k', e', g⟩ := hR.blk n b hb1
        rcases g with ⟨h0, _⟩ | ⟨_, _, _, _, g, _⟩
        · rw [hb2] at h0; cases h0
        · exact g
      rcases hes.find x' 0 with ⟨h1, h2, h3, h4⟩ | ⟨j, e0, u, h1, h2, h3, h4, h5, h6⟩
      · refine ⟨_, ?_, key (es.push ⟨.int q'' x', yu, g.2⟩) (g.2 + 1) (MapKept.stamped_push hst h3) (by simpa using h4 y yu g.2 hy) (by unfold putG; rw [h1]; simp [hbn]) hown⟩
        simp [Instr.mapUpdate, run_underlying hu, MapKept.run_getObj_map hb, hck, MapKept.run_findKey hk h2, MapKept.run_setObj_map _ hb, Result.andThen]
      · have hj : es[j]? = some e0 := by simpa using h3
        refine ⟨_, ?_, key (es.modify j fun e => { e with key := .int q'' x', val := yu }) g.2 (MapKept.stamped_modify hst _ _ (fun _ _ => rfl) (fun e' _ he' => by rw [hj] at he'; cases he'; exact h4.symm)) (by simpa using (h6 y yu hy).1) (by unfold putG; rw [h1]; have := (h6 y yu hy).2; simp only [Array.toList_modify, this, hbn]) hown⟩
        simp [Instr.mapUpdate, run_underlying hu, MapKept.run_getObj_map hb, hck, MapKept.run_findKey hk h2, hj, h4, MapKept.run_keyThatStays (isKey_int q'' x'), MapKept.run_setObj_map _ hb, Result.andThen]
    · cases h
  · cases h
end Go.Proofs.Ytoknmodbdlfdmaa.Sim
