/- Slices of slices, append, and all operations but calls. -/
import Derived.Test.YtoknmodbdlfdmaaSim4
import Derived.Laws.AppendOwn
import Derived.Laws.OwnMore
import Derived.Laws.Slices
namespace Go.Proofs.Ytoknmodbdlfdmaa.Sim
open Go Go.RowKit
set_option linter.unusedVariables false
set_option linter.unusedSimpArgs false
variable {P : Program} {lim : Nat} {φ : Loc} {H : Heap} {w : World} {v : Value} {H' : Heap} {ρ : Fr} {a : Act}
theorem bound_ok {d y : Nat} {o ou : Option Value} {n : Nat} (ho : ∀ x, o = some x → ∃ u, ou = some u ∧ VR φ x u) (hn : o = none → ou = none) (h : boundV d o = some n) :
    (o = none ∧ ou = none ∧ n = d) ∨ (∃ k m, o = some (.int k m) ∧ ou = some (.int k m) ∧ 0 ≤ m ∧ n = m.toNat) := by
  unfold boundV at h
  split at h
  · simp only [Option.some.injEq] at h; exact .inl ⟨rfl, hn rfl, h.symm⟩
  · split at h
    · rename_i hm
      simp only [Option.some.injEq] at h
      obtain ⟨u, rfl, hu⟩ := ho _ rfl
      rw [int_inv hu]
      exact .inr ⟨_, _, rfl, rfl, hm, h.symm⟩
    · cases h
  · cases h
theorem out_slice {t e : TypeId} {i : TypeInfo} {x xu : Value} {lo hi lou hiu : Option Value} (hu : P.underlying t = some (.slice e)) (hi' : P.info? e = some i) (hx : VR φ x xu)
    (hlo : ∀ x, lo = some x → ∃ u, lou = some u ∧ VR φ x u) (hlo' : lo = none → lou = none) (hhi : ∀ x, hi = some x → ∃ u, hiu = some u ∧ VR φ x u) (hhi' : hi = none → hiu = none)
    (h : sliceV i.size x lo hi = some v) : ∃ v', (Instr.sliceAt t xu lou hiu none).run P w = .ok v' w ∧ VR φ v v' := by
  have hb : ∀ (len cap l hh : Nat), boundV 0 lo = some l → boundV len hi = some hh → len ≤ cap → hh ≤ len → l ≤ hh → (Instr.sliceBounds true len cap lou hiu none).run P w = .ok (l, hh, cap) w := by
    intro len cap l hh h1 h2 h3 h4 h5
    rcases bound_ok (y := 0) hlo hlo' h1 with ⟨_, rfl, rfl⟩ | ⟨k, m, _, rfl, hm, rfl⟩ <;> rcases bound_ok (y := 0) hhi hhi' h2 with ⟨_, rfl, rfl⟩ | ⟨k', m', _, rfl, hm', rfl⟩
    · simp [Instr.sliceBounds]
    · have : m' ≤ (cap : Int) := by omega
      simp [Instr.sliceBounds, Instr.sliceBound, asIntOf, hm', this]
    · have : m ≤ (hh : Int) := by omega
      simp [Instr.sliceBounds, Instr.sliceBound, asIntOf, hm, this]
    · have h6 : m' ≤ (cap : Int) := by omega
      have h7 : m ≤ m' := by omega
      have h8 : ((m'.toNat : Nat) : Int) = m' := by omega
      simp [Instr.sliceBounds, Instr.sliceBound, asIntOf, hm, hm', h6, h7, h8]
  unfold sliceV at h
  split at h
  · cases hx
    cases h1 : boundV 0 lo with
    | none => rw [h1] at h; cases h
    | some l =>
      cases h2 : boundV 0 hi with
      | none => rw [h1, h2] at h; cases h
      | some hh =>
        rw [h1, h2] at h
        simp only [Option.bind_some] at h
        split at h
        · rename_i hc
          simp only [Option.some.injEq] at h
          subst h
          obtain ⟨rfl, rfl⟩ := hc
          have := hb 0 0 0 0 h1 h2 (by omega) (by omega) (by omega)
          exact ⟨.slice none 0 0, by simp [Instr.sliceAt, Instr.slice, run_underlying hu, this, run_size hi'], .sliceNil⟩
        · cases h
  · rename_i ez
    cases hx
    rename_i cap ad
    cases h1 : boundV 0 lo with
    | none => rw [h1] at h; cases h
    | some l =>
      cases h2 : boundV 0 hi with
      | none => rw [h1, h2] at h; cases h
      | some hh =>
        rw [h1, h2] at h
        simp only [Option.bind_some] at h
        split at h
        · rename_i hc
          simp only [Option.some.injEq] at h
          subst h
          obtain ⟨rfl, rfl⟩ := hc
          have := hb 0 cap 0 0 h1 h2 (by omega) (by omega) (by omega)
          refine ⟨.slice (some ad) 0 cap, ?_, .sliceE⟩
          by_cases hcl : cap = 0
          · subst hcl
            simp [Instr.sliceAt, Instr.slice, run_underlying hu, this, run_size hi']
          · simp [Instr.sliceAt, Instr.slice, run_underlying hu, this, run_size hi', hcl, Addr.add]
        · cases h
  · rename_i j o len ez
    obtain ⟨k, cap, e1, h3, h4, rfl⟩ := slice_inv hx
    cases h1 : boundV 0 lo with
    | none => rw [h1] at h; cases h
    | some l =>
      cases h2 : boundV len hi with
      | none => rw [h1, h2] at h; cases h
      | some hh =>
        rw [h1, h2] at h
        simp only [Option.bind_some] at h
        split at h
        · rename_i hc
          obtain ⟨hc1, hc2⟩ := hc
          simp only [Option.some.injEq] at h
          subst h
          have hbb := hb len cap l hh h1 h2 h3 hc1 (by omega)
          refine ⟨.slice (some ⟨k.1, k.2.2 + (o + l * i.size), none⟩) (hh - l) (cap - l), ?_, .slice e1 (by omega) (fun h0 => ?_)⟩
          · by_cases hcl : cap = l
            · have hl0 : l = 0 := by omega
              subst hl0
              subst hcl
              simp [Instr.sliceAt, Instr.slice, run_underlying hu, hbb, run_size hi']
            · simp [Instr.sliceAt, Instr.slice, run_underlying hu, hbb, run_size hi', hcl, add_off, Nat.add_assoc]
          · have h5 := h4 (by omega)
            have h6 : (cap - l) * ez ≤ cap * ez := Nat.mul_le_mul_right _ (by omega)
            omega
        · split at h
          · rename_i hc
            obtain ⟨rfl, hc2⟩ := hc
            simp only [Option.some.injEq] at h
            subst h
            have hbb := hb len cap l l h1 h2 h3 hc2 (by omega)
            by_cases hcl : cap = l
            · subst hcl
              exact ⟨.slice (some ⟨k.1, k.2.2 + o, none⟩) 0 0, by simp [Instr.sliceAt, Instr.slice, run_underlying hu, hbb, run_size hi'], .sliceE⟩
            · exact ⟨.slice (some ⟨k.1, k.2.2 + (o + l * i.size), none⟩) 0 (cap - l), by simp [Instr.sliceAt, Instr.slice, run_underlying hu, hbb, run_size hi', hcl, add_off, Nat.add_assoc], .sliceE⟩
          · cases h
  · cases h
theorem cells_len {x : Value} {new : List Value} {esz : Nat} (h : sliceCells H esz x = some new) : new.length = sliceLen x * esz := by
  unfold sliceCells at h
  split at h
  · simp only [Option.some.injEq] at h; subst h; simp [sliceLen]
  · rename_i i o n _
    cases hl : live H i with
    | none => rw [hl] at h; simp at h
    | some b =>
      rw [hl] at h
      simp only [Option.bind_some] at h
      split at h
      · simp only [Option.some.injEq] at h; subst h; simp [sliceLen]; omega
      · cases h
  · cases h
/-- The cells of a slice, read in the world. -/
theorem cells_ok (hR : Rel lim φ H w) {x xu : Value} {new : List Value} {esz : Nat} (hx : VR φ x xu) (h : sliceCells H esz x = some new) :
    (xu = .slice none 0 0 ∧ new = []) ∨ ∃ ad c m, xu = .slice (some ad) (sliceLen x) c ∧ VRs φ new m ∧ ∀ j u, m[j]? = some u → w.cell? (ad.add j) = some u := by
  unfold sliceCells at h
  split at h
  · cases hx
    · simp only [Option.some.injEq] at h; exact .inl ⟨rfl, h.symm⟩
    · simp only [Option.some.injEq] at h
      subst h
      exact .inr ⟨_, _, [], rfl, .nil, fun j u hj => by simp at hj⟩
  · rename_i i o n e
    obtain ⟨k, cap, e1, _, _, rfl⟩ := slice_inv hx
    cases hl : live H i with
    | none => rw [hl] at h; simp at h
    | some b =>
      rw [hl] at h
      simp only [Option.bind_some] at h
      split at h
      · rename_i hc
        simp only [Option.some.injEq] at h
        subst h
        obtain ⟨pre, m, rest, fz, hw, _, hm, _, hpre⟩ := hR.block (live_some hl) (live_mp hl) e1
        have hml := hm.length
        refine .inr ⟨_, _, (m.drop o).take (n * esz), rfl, (hm.drop o).take _, fun j u hj => ?_⟩
        have hjl : j < n * esz := by
          rcases Nat.lt_or_ge j (n * esz) with g | g
          · exact g
          · rw [List.getElem?_take] at hj; split at hj <;> first | omega | cases hj
        rw [add_off, cell_of_row w k.1 _ _ _ _ hw]
        rw [List.getElem?_take, if_pos hjl, List.getElem?_drop] at hj
        simp only [List.getElem?_toArray]
        rw [List.getElem?_append_right (by omega), List.getElem?_append_left (by omega)]
        have : k.2.2 + o + j - pre.length = o + j := by omega
        rw [this]
        exact hj
      · cases h
  · cases h
/-- A block under a new name. -/
theorem Rel.rename {φ : Loc} {H : Heap} {w : World} (r : Rel lim φ H w) (hlim : H.length < lim) {i : Nat} {b : Blk} {k : Nat × Nat × Nat} (h : H[i]? = some (some b)) (ho : b.own = true) (e : φ i = some k) :
    Rel lim (φ.add H.length k) (H.set i none ++ [some b]) w ∧ Keeps φ H w (φ.add H.length k) (H.set i none ++ [some b]) w := by
  have hle : Loc.le φ (φ.add H.length k) := Loc.le_add (r.dom _ (Nat.le_refl _) hlim)
  have hi : i < H.length := by
    rcases Nat.lt_or_ge i H.length with g | g
    · exact g
    · rw [List.getElem?_eq_none g] at h; cases h
  have hnew : (φ.add H.length k) H.length = some k := by unfold Loc.add; rw [if_pos rfl]
  have hne : ∀ j, j < H.length → (φ.add H.length k) j = φ j := fun j hj => by unfold Loc.add; rw [if_neg (by omega)]
  have hcase : ∀ j c, (H.set i none ++ [some b])[j]? = some (some c) → (j ≠ i ∧ j < H.length ∧ H[j]? = some (some c)) ∨ (j = H.length ∧ c = b) := by
    intro j c g
    rcases Nat.lt_trichotomy j H.length with q | q | q
    · rw [List.getElem?_append_left (by simpa using q)] at g
      by_cases hj : j = i
      · subst hj; rw [List.getElem?_set_self hi] at g; simp at g
      · rw [List.getElem?_set_ne (by omega)] at g; exact .inl ⟨hj, q, g⟩
    · subst q; simp at g; exact .inr ⟨rfl, g.symm⟩
    · rw [List.getElem?_eq_none (by simp; omega)] at g; cases g
  refine ⟨⟨fun j hj hjl => ?_, fun j c g => ?_, fun j j' c c' q q' g o g' eq eq' hq => ?_, r.sld.mono hle (fun b c t e => ⟨c, t, e⟩)⟩, ⟨rfl, rfl, rfl, Nat.le_refl _, hle, by simp, fun j hj => ?_, fun j c g => ?_, fun j c q g o eq => ?_, fun _ _ _ => rfl⟩⟩
  · simp at hj; unfold Loc.add; rw [if_neg (by omega)]; exact r.dom j (by omega) hjl
  · rcases hcase j c g with ⟨_, hj, hc⟩ | ⟨rfl, rfl⟩
    · obtain ⟨q, eq, g⟩ := r.blk j c hc
      exact ⟨q, by rw [hne j hj]; exact eq, g.mono hle rfl⟩
    · obtain ⟨q, eq, g⟩ := r.blk i c h
      rw [e] at eq; cases eq
      exact ⟨k, hnew, g.mono hle rfl⟩
  · rcases hcase j c g with ⟨hji, hj, hc⟩ | ⟨rfl, rfl⟩ <;> rcases hcase j' c' g' with ⟨hji', hj', hc'⟩ | ⟨rfl, rfl⟩
    · rw [hne j hj] at eq; rw [hne j' hj'] at eq'
      exact r.inj j j' c c' q q' hc o hc' eq eq' hq
    · rw [hne j hj] at eq; rw [hnew] at eq'; cases eq'
      exact absurd (r.inj j i c c' q k hc o h eq e hq) hji
    · rw [hne j' hj'] at eq'; rw [hnew] at eq; cases eq
      exact absurd (r.inj i j' c c' k q' h ho hc' e eq' hq).symm hji'
    · rfl
  · unfold Loc.add; simp at hj; rw [if_neg (by omega)]
  · rcases hcase j c g with ⟨_, hj, hc⟩ | ⟨rfl, rfl⟩
    · exact .inr ⟨c, hc, rfl⟩
    · exact .inl ho
  · rcases hcase j c g with ⟨_, hj, hc⟩ | ⟨rfl, rfl⟩
    · rw [hne j hj] at eq; exact .inr ⟨j, c, q, hc, o, eq, rfl⟩
    · rw [hnew] at eq; cases eq; exact .inr ⟨i, c, k, h, o, e, rfl⟩
theorem Keeps.drew {φ : Loc} {H : Heap} {w : World} {φ' : Loc} {H' : Heap} {w' : World} (h : Keeps φ H w.drew φ' H' w') : Keeps φ H w φ' H' w' := ⟨h.os, h.tape, h.output, h.size, h.ext, h.len, h.same, h.kind, h.own, h.old⟩
theorem out_append (hR : Rel lim φ H w) {t e ty : TypeId} {i : TypeInfo} {z : Value} (hu : P.underlying t = some (.slice e)) (hi : P.info? e = some i) (hz : i.zero = some z) (hzs : z.cells.size = i.size) (hsz : 0 < i.size) (hby : 0 < i.bytes)
    {s x su xu : Value} (hs : VR φ s su) (hx : VR φ x xu) (h : appendV e i.size i.bytes H s x = some (v, H')) (hlim : H'.length ≤ lim) :
    ∃ v' w' φ', (Builtin.append_ #[t, t] ty #[su, xu]).run P w = .ok v' w' ∧ VR φ' v v' ∧ Rel lim φ' H' w' ∧ Keeps φ H w φ' H' w' := by
  unfold appendV at h
  cases hc : sliceCells H i.size x with
  | none => rw [hc] at h; cases h
  | some new =>
    rw [hc] at h
    simp only [Option.bind_some] at h
    have hl := cells_len hc
    have hcell := cells_ok hR hx hc
    have hzero : sliceLen x = 0 → ∀ base n c, su = .slice base n c → n ≤ c → (Builtin.append_ #[t, t] ty #[su, xu]).run P w = .ok su w := by
      intro h0 base n c hsu hnc
      subst hsu
      rcases hcell with ⟨rfl, rfl⟩ | ⟨ad, c', m, rfl, hm, hrd⟩
      · cases base <;> simp [Builtin.append_, run_underlying hu, sizeOf, typeInfo, hi, Builtin.lenOf, hnc, Builtin.firstCells, storeCells]
      · rw [h0]
        cases base <;> simp [Builtin.append_, run_underlying hu, sizeOf, typeInfo, hi, Builtin.lenOf, hnc, Builtin.firstCells, loadCells, loadCellsFrom, storeCells]
    have grow : ∀ (old : List Value) (oldu : List Value) (need cap : Nat), H.length < lim → VRs φ old oldu → (old ++ new).length = need * i.size → ∀ m, VRs φ new m →
        ∃ φ', VR φ' (.slice (some ⟨H.length, 0, none⟩) need i.size) (.slice (some ⟨w.heap.size, 0, none⟩) need (grownCap w need cap e)) ∧
          Rel lim φ' (H ++ [some ⟨true, e, old ++ new⟩]) (w.drew.alloc (.cells (oldu.toArray ++ m.toArray ++ Builtin.zeroCells z.cells (grownCap w need cap e - need)) e)) ∧
          Keeps φ H w φ' (H ++ [some ⟨true, e, old ++ new⟩]) (w.drew.alloc (.cells (oldu.toArray ++ m.toArray ++ Builtin.zeroCells z.cells (grownCap w need cap e - need)) e)) := by
      intro old oldu need cap hlt ho hlen m hm
      have hge := grownCap_ge w need cap e
      have hv := ho.append hm
      obtain ⟨h1, h2⟩ := (hR.same (w' := w.drew) rfl).alloc hlt e hv (Builtin.zeroCells z.cells (grownCap w need cap e - need)).toList
      have harr : (⟨oldu ++ m ++ (Builtin.zeroCells z.cells (grownCap w need cap e - need)).toList⟩ : Array Value) = oldu.toArray ++ m.toArray ++ Builtin.zeroCells z.cells (grownCap w need cap e - need) := by
        apply Array.ext'; simp
      rw [harr] at h1 h2
      refine ⟨_, .slice (k := (w.heap.size, _, 0)) (by unfold Loc.add; rw [if_pos rfl]; rfl) hge (fun _ => ?_), h1, h2.drew⟩
      have e1 := hv.length
      have e2 : (Builtin.zeroCells z.cells (grownCap w need cap e - need)).size = (grownCap w need cap e - need) * i.size := by rw [size_zeroCells, hzs]
      simp only [List.length_append, Array.length_toList] at *
      rw [e2]
      have : grownCap w need cap e * i.size = need * i.size + (grownCap w need cap e - need) * i.size := by rw [← Nat.add_mul]; congr 1; omega
      omega
    split at h
    · cases hs
      split at h
      · rename_i h0
        simp only [Option.some.injEq, Prod.mk.injEq] at h
        obtain ⟨rfl, rfl⟩ := h
        exact ⟨_, w, φ, hzero h0 none 0 0 rfl (Nat.le_refl _), .sliceNil, hR, Keeps.refl _ _ _⟩
      · rename_i h0
        split at h
        · rename_i hb
          simp only [Option.some.injEq, Prod.mk.injEq] at h
          obtain ⟨rfl, rfl⟩ := h
          rcases hcell with ⟨rfl, rfl⟩ | ⟨ad, c', m, rfl, hm, hrd⟩
          · exfalso; have hp := Nat.mul_pos (show 0 < sliceLen x by omega) hsz; simp only [List.length_nil] at hl; omega
          · have hml := hm.length
            have hb1 : sliceLen x ≤ sliceLen x * i.bytes := Nat.le_mul_of_pos_right _ hby
            have hr := run_append_nil (P := P) w t ty e i z hu hi hz ad (sliceLen x) c' m (by omega) hrd (by omega) (by omega) (by omega)
            obtain ⟨φ', g1, g2, g3⟩ := grow [] [] (sliceLen x) 0 (by simp at hlim; omega) .nil (by simpa using hl) m hm
            simp only [Array.empty_append, List.nil_append] at g2 g3
            exact ⟨_, _, φ', hr, g1, by simpa using g2, by simpa using g3⟩
        · cases h
    · rename_i j n ez
      obtain ⟨k, cap, e1, h3, h4, rfl⟩ := slice_inv hs
      split at h
      · rename_i h0
        simp only [Option.some.injEq, Prod.mk.injEq] at h
        obtain ⟨rfl, rfl⟩ := h
        exact ⟨_, w, φ, hzero h0 _ _ _ rfl h3, hs, hR, Keeps.refl _ _ _⟩
      · rename_i h0
        cases hlv : live H j with
        | none => rw [hlv] at h; cases h
        | some b =>
          rw [hlv] at h
          simp only [Option.bind_some] at h
          split at h
          · rename_i hcond
            obtain ⟨ho, rfl, rfl, hbl, hbytes, hone⟩ := hcond
            simp only [Option.some.injEq, Prod.mk.injEq] at h
            obtain ⟨rfl, rfl⟩ := h
            have hlive := live_some hlv
            obtain ⟨pre, m0, rest, fz, hw, hfz, hm0, hk2, hpre⟩ := hR.block hlive (live_mp hlv) e1
            obtain ⟨rfl, rfl⟩ := hfz ho
            have hk0 : k.2.2 = 0 := hpre.symm
            rw [hk0, Nat.zero_add]
            rw [List.nil_append] at hw
            have hm0l := hm0.length
            rcases hcell with ⟨rfl, rfl⟩ | ⟨ad, c', m, rfl, hm, hrd⟩
            · exfalso; have hp := Nat.mul_pos (show 0 < sliceLen x by omega) hsz; simp only [List.length_nil] at hl; omega
            · have hml := hm.length
              have hb1 : n + sliceLen x ≤ (n + sliceLen x) * i.bytes := Nat.le_mul_of_pos_right _ hby
              by_cases hroom : n + sliceLen x ≤ cap
              · have hcapb := h4 rfl
                have hmul : (n + sliceLen x) * i.size ≤ cap * i.size := Nat.mul_le_mul_right _ hroom
                have hadd : (n + sliceLen x) * i.size = n * i.size + sliceLen x * i.size := Nat.add_mul _ _ _
                have hrl : (m0 ++ rest).length = m0.length + rest.length := List.length_append
                have hr := run_append_room (P := P) w t ty b.ty i hu hi k.1 n cap ⟨m0 ++ rest⟩ hw ad (sliceLen x) c' m (by omega) hrd (hm.one hone) hroom (by simp; omega)
                have hre : ((⟨m0 ++ rest⟩ : Array Value).toList.take (n * i.size) ++ m ++ (⟨m0 ++ rest⟩ : Array Value).toList.drop (n * i.size + m.length)).toArray = ⟨(m0 ++ m) ++ rest.drop m.length⟩ := by
                  apply Array.ext'
                  have q1 : n * i.size = m0.length := by omega
                  simp [q1, List.drop_append]
                rw [hre] at hr
                obtain ⟨g1, g2⟩ := hR.write (w' := w.setRow k.1 ⟨(m0 ++ m) ++ rest.drop m.length⟩) (l := b.cells ++ new) (m := m0 ++ m) (rest := rest.drop m.length) hlive ho e1 (hm0.append hm)
                  (by rw [hk2]; simp; omega) hk0 (setRow_heap w k.1 _ _ b.ty _ hw) (fun n' hn => by simp [World.setRow, Array.getElem?_modify, Ne.symm hn]) (by simp [World.setRow]) rfl rfl rfl
                have hjlt : j < H.length := by
                  rcases Nat.lt_or_ge j H.length with g | g
                  · exact g
                  · rw [List.getElem?_eq_none g] at hlive; cases hlive
                have hset : (H.set j (some (⟨true, b.ty, b.cells ++ new⟩ : Blk)))[j]? = some (some ⟨true, b.ty, b.cells ++ new⟩) := List.getElem?_set_self hjlt
                obtain ⟨g3, g4⟩ := g1.rename (by simp at hlim ⊢; omega) hset rfl e1
                simp only [List.length_set, List.set_set] at g3 g4
                have hsl := VR.slice (φ := φ.add H.length k) (i := H.length) (off := 0) (len := n + sliceLen x) (esz := i.size) (cap := cap) (k := k) (by unfold Loc.add; rw [if_pos rfl]) hroom (fun _ => hcapb)
                rw [hk0] at hsl
                refine ⟨_, _, _, hr, hsl, g3, g2.trans g4⟩
              · have holds : ∀ j' u, m0[j']? = some u → w.cell? ((⟨k.1, 0, none⟩ : Addr).add j') = some u := by
                  intro j' u hj'
                  rw [add_off, Nat.zero_add, cell_of_row w k.1 _ _ _ _ hw]
                  have : j' < m0.length := by
                    rcases Nat.lt_or_ge j' m0.length with g | g
                    · exact g
                    · rw [List.getElem?_eq_none g] at hj'; cases hj'
                  simp only [List.getElem?_toArray]
                  rw [List.getElem?_append_left this]; exact hj'
                have hr := run_append_grow (P := P) w t ty b.ty i z hu hi hz ⟨k.1, 0, none⟩ n cap m0 (by omega) holds ad (sliceLen x) c' m (by omega) hrd (by omega) (by omega) (growslice_fits (by omega) hbytes)
                obtain ⟨φ', g1, g2, g3⟩ := grow b.cells m0 (n + sliceLen x) cap (by simp at hlim; omega) hm0 (by simp [hbl, hl, Nat.add_mul]) m hm
                have hjlt : j < H.length := by
                  rcases Nat.lt_or_ge j H.length with g | g
                  · exact g
                  · rw [List.getElem?_eq_none g] at hlive; cases hlive
                obtain ⟨g4, g5⟩ := g2.forget (H' := H.set j none ++ [some ⟨true, b.ty, b.cells ++ new⟩]) (by simp) (fun q c hq => by
                  rcases Nat.lt_or_ge q H.length with g | g
                  · rw [List.getElem?_append_left (by simpa using g)] at hq
                    rw [List.getElem?_append_left g]
                    by_cases hqj : q = j
                    · subst hqj; rw [List.getElem?_set_self hjlt] at hq; cases hq
                    · rw [List.getElem?_set_ne (by omega)] at hq; exact hq
                  · rw [List.getElem?_append_right (by simpa using g)] at hq
                    rw [List.getElem?_append_right g]
                    simpa using hq)
                exact ⟨_, _, φ', hr, g1, g4, g3.trans g5⟩
          · cases h
    · cases h
end Go.Proofs.Ytoknmodbdlfdmaa.Sim
