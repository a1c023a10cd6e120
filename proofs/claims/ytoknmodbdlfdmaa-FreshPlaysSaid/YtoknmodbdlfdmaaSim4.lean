/- Each operation does in the model what it does over the plain heap: the numbers, the equalities, the lists. -/
import Derived.Test.YtoknmodbdlfdmaaSim3
import Derived.LaidEql
namespace Go.Proofs.Ytoknmodbdlfdmaa.Sim
open Go Go.RowKit
set_option linter.unusedVariables false
set_option linter.unusedSimpArgs false
variable {P : Program} {lim : Nat} {φ : Loc} {H : Heap} {w : World} {v : Value} {H' : Heap} {ρ : Fr} {a : Act}
theorem run_bin_int {op : BinOp} {t : TypeId} {x y : Operand} {k k' : IntKind} {m n : Int} (h : binInt op k m k' n = some v) :
    (do eqGuard op t x y (.int k m) (.int k' n); binOp op t (.int k m) (.int k' n) : Sem Value).run P w = .ok v w := by
  cases op <;> simp only [binInt] at h <;> (repeat' split at h) <;> simp only [Option.some.injEq, reduceCtorEq] at h <;> (try subst h) <;>
    simp_all [eqGuard, binOp, Op.shift, Op.intArith, Op.intDiv, Op.intBits, Op.intCmp] <;> first | rfl | (intro h; omega)
theorem int_inv {k : IntKind} {n : Int} {u : Value} (h : VR φ (.int k n) u) : u = .int k n := by cases h; rfl
theorem bool_inv {b : Bool} {u : Value} (h : VR φ (.bool b) u) : u = .bool b := by cases h; rfl
theorem int_self {k : IntKind} {n : Int} : VR φ (.int k n) (.int k n) := .int k n
theorem binInt_plain {op : BinOp} {k k' : IntKind} {m n : Int} (h : binInt op k m k' n = some v) : VR φ v v := by
  cases op <;> simp only [binInt] at h <;> (repeat' split at h) <;> simp only [Option.some.injEq, reduceCtorEq] at h <;> subst h <;> first | exact .int _ _ | exact .bool _
theorem out_arith {op : BinOp} {t : TypeId} {x y : Operand} {xv yv xu yu : Value} (hR : Rel lim φ H w) (hx : VR φ xv xu) (hy : VR φ yv yu) (h : arithV op xv yv = some v) :
    (do eqGuard op t x y xu yu; binOp op t xu yu : Sem Value).run P w = .ok v w ∧ VR φ v v := by
  unfold arithV at h
  split at h
  · rw [int_inv hx, int_inv hy]
    exact ⟨run_bin_int h, binInt_plain h⟩
  · cases h
def kindOk (kind : EqKind) (d : TypeDesc) : Prop :=
  match kind, d with | .bool, .bool => True | .ptr, .pointer _ => True | .slice, .slice _ => True | .iface, .interface _ => True | _, _ => False
theorem run_eqIn {kind : EqKind} {t : TypeId} {d : TypeDesc} {xv yv xu yu : Value} {b : Bool} (n : Nat) (hx : VR φ xv xu) (hy : VR φ yv yu) (h : eqV kind xv yv = some b) (hu : P.underlying t = some d)
    (hd : kindOk kind d) : (Op.equalIn (n + 1) t xu yu).run P w = .ok b w := by
  cases kind <;> cases d <;> simp only [kindOk] at hd <;> cases hx <;> cases hy <;> simp only [eqV, Option.some.injEq, reduceCtorEq] at h <;> subst h <;>
    simp [Op.equalIn, run_underlying hu]
theorem run_equal {kind : EqKind} {t : TypeId} {d : TypeDesc} {xv yv xu yu : Value} {b : Bool} (hx : VR φ xv xu) (hy : VR φ yv yu) (h : eqV kind xv yv = some b) (hu : P.underlying t = some d)
    (hd : kindOk kind d) : (Op.equal t xu yu).run P w = .ok b w :=
  run_eqIn 9999 hx hy h hu hd
theorem sameV_eqV {kind : EqKind} {x y : Operand} {xv yv : Value} {b : Bool} (h : sameV kind x y xv yv = some b) : eqV kind xv yv = some b := by
  unfold sameV at h
  split at h
  · split at h
    · exact h
    · cases h
  · exact h
theorem run_guard {kind : EqKind} {op : BinOp} {t : TypeId} {x y : Operand} {xv yv xu yu : Value} {b : Bool} (hx : VR φ xv xu) (hy : VR φ yv yu) (h : sameV kind x y xv yv = some b) : (eqGuard op t x y xu yu).run P w = .ok () w := by
  unfold eqGuard
  by_cases hop : op = .eql ∨ op = .neq
  · cases hx <;> cases hy <;> first
      | (rcases hop with rfl | rfl <;> simp; done)
      | (cases kind <;> simp [sameV, eqV] at h; done)
      | (cases kind <;> simp only [sameV, eqV, reduceCtorEq] at h
         split at h
         · rename_i hcst
           rcases hop with rfl | rfl <;> cases x <;> cases y <;> first | (simp [isConst] at hcst; done) | simp
         · cases h)
  · cases op <;> first | (simp at hop; done) | simp
theorem out_same {kind : EqKind} {op : BinOp} {neg : Bool} {t : TypeId} {x y : Operand} {xv yv xu yu : Value} {b : Bool} (hx : VR φ xv xu) (hy : VR φ yv yu) (h : sameV kind x y xv yv = some b)
    (hop : op = if neg = true then .neq else .eql) {d : TypeDesc} (hu : P.underlying t = some d)
    (hd : kindOk kind d) :
    (do eqGuard op t x y xu yu; binOp op t xu yu : Sem Value).run P w = .ok (.bool (if neg = true then !b else b)) w := by
  have g := run_guard (P := P) (w := w) (op := op) (t := t) hx hy h
  have e := run_equal (P := P) (w := w) (t := t) hx hy (sameV_eqV h) hu hd
  have h' := sameV_eqV h
  simp only [Sem.run_bind, g, Result.andThen_ok]
  subst hop
  cases neg <;> simp only [Bool.false_eq_true, if_false, if_true] <;> cases hx <;> first
    | (exfalso; cases kind <;> simp [eqV] at h'; done)
    | (cases hy <;> first | (exfalso; cases kind <;> simp [eqV] at h'; done) | simp [binOp, e])
theorem out_sameI (hR : Rel lim φ H w) {op : BinOp} {neg : Bool} {t : TypeId} {x y : Operand} {xv yv xu yu : Value} {b : Bool} (hx : VR φ xv xu) (hy : VR φ yv yu) (h : eqI xv yv = some b)
    (hop : op = if neg = true then .neq else .eql) {ms : Array (String × TypeId)} (hu : P.underlying t = some (.interface ms)) (he : etOk P = true) :
    (do eqGuard op t x y xu yu; binOp op t xu yu : Sem Value).run P w = .ok (.bool (if neg = true then !b else b)) w := by
  have key : (eqGuard op t x y xu yu).run P w = .ok () w ∧ (Op.equal t xu yu).run P w = .ok b w ∧ (∃ p q, xu = p ∧ yu = q) := by
    unfold eqI at h
    split at h
    · rename_i tx a ty c
      cases hx; cases hy
      rename_i a' ha c' hc
      refine ⟨by subst hop; cases neg <;> simp [eqGuard], ?_, _, _, rfl, rfl⟩
      split at h
      · rename_i htt
        subst htt
        split at h
        · rename_i hte
          subst hte
          split at h
          · rename_i i j
            split at h
            · rename_i hij
              simp only [Option.some.injEq] at h
              subst h
              unfold etOk at he
              split at he
              · rename_i te inf hp hinf
                simp only [Bool.and_eq_true] at he
                obtain ⟨hcomp, hj⟩ := he
                split at hj
                · rename_i jn hjn
                  have hsz : jn.size ≠ 0 := by simpa using hj
                  obtain ⟨k, e1, rfl⟩ := ptr_inv ha
                  obtain ⟨l, e2, rfl⟩ := ptr_inv hc
                  obtain ⟨h1, h2, h3, h4⟩ := hij
                  obtain ⟨k', c1, t1, f1, g1⟩ := hR.sld.pt (i - gl.length) (by omega)
                  obtain ⟨l', c2, t2, f2, g2⟩ := hR.sld.pt (j - gl.length) (by omega)
                  have q1 : gl.length + (i - gl.length) = i := by omega
                  have q2 : gl.length + (j - gl.length) = j := by omega
                  have hI := hR.sld.inj (i - gl.length) (j - gl.length) k' l' (by omega) (by omega) f1 f2
                  rw [q1, e1] at f1; rw [q2, e2] at f2
                  cases f1; cases f2
                  by_cases hh : i = j
                  · subst hh
                    rw [e1] at e2; cases e2
                    simp only [decide_true]
                    exact run_equalIn_iface_ptr_same w 9998 _ hu hp hinf hcomp hjn
                  · have hne : (⟨k.1, k.2.2 + 0, none⟩ : Addr) ≠ ⟨l.1, l.2.2 + 0, none⟩ := by
                      intro e
                      simp only [Nat.add_zero, Addr.mk.injEq, and_true] at e
                      have := hI e.1 e.2
                      omega
                    rw [decide_eq_false hh]
                    exact run_equalIn_iface_ptr_other w 9998 hu hp hinf hcomp hjn hsz hne g1 g2
                · cases hj
              · cases he
            · cases h
          · cases h
        · cases h
      · rename_i htt
        simp only [Option.some.injEq] at h
        subst h
        have hd : ∀ d : Nat, (Op.equalIn (d + 1) t (.iface tx a') (.iface ty c')).run P w = .ok false w := fun d => by simp [Op.equalIn, run_underlying hu, htt]
        exact hd 9999
    · cases hx; cases hy
      simp only [Option.some.injEq] at h
      subst h
      rename_i tx _ c _
      have hd : ∀ d : Nat, (Op.equalIn (d + 1) t .nilIface (.iface tx c)).run P w = .ok false w := fun d => by simp [Op.equalIn, run_underlying hu]
      exact ⟨by subst hop; cases neg <;> simp [eqGuard], hd 9999, _, _, rfl, rfl⟩
    · cases hx; cases hy
      simp only [Option.some.injEq] at h
      subst h
      rename_i tx _ c _
      have hd : ∀ d : Nat, (Op.equalIn (d + 1) t (.iface tx c) .nilIface).run P w = .ok false w := fun d => by simp [Op.equalIn, run_underlying hu]
      exact ⟨by subst hop; cases neg <;> simp [eqGuard], hd 9999, _, _, rfl, rfl⟩
    · cases h
  obtain ⟨k1, k2, _⟩ := key
  simp only [Sem.run_bind, k1, Result.andThen_ok]
  subst hop
  have hI : xu = .nilIface ∨ ∃ u v, xu = .iface u v := by
    unfold eqI at h
    split at h
    · cases hx; exact .inr ⟨_, _, rfl⟩
    · cases hx; exact .inl rfl
    · cases hx; exact .inr ⟨_, _, rfl⟩
    · cases h
  have hJ : yu = .nilIface ∨ ∃ u v, yu = .iface u v := by
    unfold eqI at h
    split at h
    · cases hy; exact .inr ⟨_, _, rfl⟩
    · cases hy; exact .inr ⟨_, _, rfl⟩
    · cases hy; exact .inl rfl
    · cases h
  rcases hI with rfl | ⟨u, v, rfl⟩ <;> rcases hJ with rfl | ⟨u', v', rfl⟩ <;> cases neg <;> simp [binOp, k2]
theorem out_un {op : UnOp} {xv xu : Value} (hx : VR φ xv xu) (h : unV op xv = some v) : (Op.unary op xu).run P w = .ok v w ∧ VR φ v v := by
  unfold unV at h
  split at h <;> simp only [Option.some.injEq, reduceCtorEq] at h <;> subst h
  · rw [int_inv hx]; exact ⟨by simp [Op.unary, Op.intArith], .int _ _⟩
  · rw [int_inv hx]; exact ⟨by simp [Op.unary, Op.intBits], .int _ _⟩
  · rw [bool_inv hx]; exact ⟨by simp [Op.unary], .bool _⟩
theorem out_part {agg : Bool} {off : Nat} {t : TypeId} {d : TypeDesc} {i : TypeInfo} (hu : P.underlying t = some d) (hi : P.info? t = some i) {l m : List Value} (hl : VRs φ l m) (h : partV (isAggB d) off i.size (.agg ⟨l⟩) = some v) :
    ∃ v', (part t ⟨m⟩ off).run P w = .ok v' w ∧ VR φ v v' := by
  unfold partV at h
  simp only at h
  by_cases hd : isAggB d = true
  · rw [if_pos hd] at h
    simp only [Option.some.injEq] at h
    subst h
    refine ⟨.agg ⟨(m.drop off).take i.size⟩, ?_, .agg ((hl.drop off).take i.size)⟩
    simp only [part, Sem.run_bind, run_isAgg hu, Result.andThen_ok, hd, if_true, run_size hi, Sem.run_pure]
    congr 2
    apply Array.ext'
    simp [List.extract_eq_take_drop]
  · rw [if_neg hd] at h
    obtain ⟨v', h1, h2⟩ := hl.get h
    refine ⟨v', ?_, h2⟩
    simp only [Bool.not_eq_true] at hd
    simp [part, run_isAgg hu, hd, h1]
theorem agg_inv {l : List Value} {u : Value} (h : VR φ (.agg ⟨l⟩) u) : ∃ m, u = .agg ⟨m⟩ ∧ VRs φ l m := by cases h with | agg r => exact ⟨_, rfl, r⟩
theorem slice_inv {i off len esz : Nat} {u : Value} (h : VR φ (.slice (some ⟨i, off, none⟩) len esz) u) : ∃ k cap, φ i = some k ∧ len ≤ cap ∧ (off = 0 → cap * esz ≤ k.2.1) ∧ u = .slice (some ⟨k.1, k.2.2 + off, none⟩) len cap := by
  cases h with | slice e a b => exact ⟨_, _, e, a, b, rfl⟩
theorem out_idxS {t e : TypeId} {i : TypeInfo} {x y xu yu : Value} (hu : P.underlying t = some (.slice e)) (hi : P.info? e = some i) (hx : VR φ x xu) (hy : VR φ y yu) (h : idxSV i.size x y = some v) :
    ∃ v', (Instr.indexAt t xu yu).run P w = .ok v' w ∧ VR φ v v' := by
  unfold idxSV at h
  split at h
  · split at h
    · rename_i hj
      simp only [Option.some.injEq] at h
      subst h
      obtain ⟨k, cap, e1, _, _, rfl⟩ := slice_inv hx
      rw [int_inv hy]
      refine ⟨_, ?_, .ptr e1⟩
      simp [Instr.indexAt, asIntOf, run_underlying hu, run_size hi, hj, add_off, Nat.add_assoc]
    · cases h
  · cases h
theorem out_idxA {t e : TypeId} {n : Nat} {i : TypeInfo} {x y xu yu : Value} (hu : P.underlying t = some (.array n e)) (hi : P.info? e = some i) (hx : VR φ x xu) (hy : VR φ y yu) (h : idxAV n i.size x y = some v) :
    ∃ v', (Instr.indexAt t xu yu).run P w = .ok v' w ∧ VR φ v v' := by
  unfold idxAV at h
  split at h
  · split at h
    · rename_i hj
      simp only [Option.some.injEq] at h
      subst h
      obtain ⟨k, e1, rfl⟩ := ptr_inv hx
      rw [int_inv hy]
      refine ⟨_, ?_, .ptr e1⟩
      simp [Instr.indexAt, asIntOf, run_underlying hu, run_size hi, hj, add_off, Nat.add_assoc, Instr.sureAddr]
    · cases h
  · cases h
theorem out_idxV {t e : TypeId} {n : Nat} {d : TypeDesc} {i : TypeInfo} {x y xu yu : Value} (hu : P.underlying t = some (.array n e)) (he : P.underlying e = some d) (hi : P.info? e = some i) (hx : VR φ x xu) (hy : VR φ y yu) (h : idxVV (isAggB d) n i.size x y = some v) :
    ∃ v', (Instr.index t xu yu).run P w = .ok v' w ∧ VR φ v v' := by
  unfold idxVV at h
  split at h
  · rename_i cs _ j
    obtain ⟨cs⟩ := cs
    split at h
    · rename_i hj
      obtain ⟨m, rfl, hm⟩ := agg_inv hx
      rw [int_inv hy]
      obtain ⟨v', h1, h2⟩ := out_part (agg := true) (w := w) he hi hm h
      refine ⟨v', ?_, h2⟩
      simp [Instr.index, asIntOf, run_underlying hu, run_size hi, hj, h1]
    · cases h
  · cases h
theorem out_mnmx2 {mx : Bool} {x y xu yu : Value} (hx : VR φ x xu) (hy : VR φ y yu) (h : mnmx2 mx x y = some v) :
    (if mx then Builtin.max2 xu yu else Builtin.min2 xu yu).run P w = .ok v w ∧ VR φ v v := by
  unfold mnmx2 at h
  split at h
  · simp only [Option.some.injEq] at h
    subst h
    rw [int_inv hx, int_inv hy]
    cases mx <;> simp [Builtin.max2, Builtin.min2] <;> exact .int _ _
  · cases h
theorem out_mnmx {mx : Bool} : ∀ (xs xus : List Value) (x xu : Value), VR φ x xu → VRs φ xs xus → xs.foldl (fun a x => a.bind fun a => mnmx2 mx a x) (some x) = some v →
    ∃ v', (xus.foldlM (if mx then Builtin.max2 else Builtin.min2) xu).run P w = .ok v' w ∧ VR φ v v' := by
  intro xs
  induction xs with
  | nil => intro xus x xu hx hxs h; cases hxs; simp at h; subst h; exact ⟨xu, by simp, hx⟩
  | cons y ys ih =>
    intro xus x xu hx hxs h
    cases hxs with
    | cons hy hys =>
      rename_i yu yus
      simp only [List.foldl_cons, Option.bind_some] at h
      cases e : mnmx2 mx x y with
      | none =>
        rw [e] at h
        have : ∀ l : List Value, l.foldl (fun a x => a.bind fun a => mnmx2 mx a x) (none : Option Value) = none := by
          intro l; induction l with
          | nil => rfl
          | cons z l ih => simpa using ih
        rw [this] at h; cases h
      | some z =>
        rw [e] at h
        obtain ⟨h1, h2⟩ := out_mnmx2 (P := P) (w := w) hx hy e
        obtain ⟨v', h3, h4⟩ := ih yus z z h2 hys h
        refine ⟨v', ?_, h4⟩
        cases mx <;> simp only [if_true, if_false, Bool.false_eq_true] at h1 h3 ⊢ <;> simp only [List.foldlM_cons, Sem.run_bind, h1, Result.andThen_ok] <;> exact h3
theorem tuple_inv {l : List Value} {u : Value} (h : VR φ (.tuple ⟨l⟩) u) : ∃ m, u = .tuple ⟨m⟩ ∧ VRs φ l m := by cases h with | tuple r => exact ⟨_, rfl, r⟩
theorem out_extract {i : Nat} {x xu : Value} (hx : VR φ x xu) (h : extractV i x = some v) : ∃ v', (Instr.extract xu i).run P w = .ok v' w ∧ VR φ v v' := by
  unfold extractV at h
  split at h
  · rename_i vs
    obtain ⟨vs⟩ := vs
    obtain ⟨m, rfl, hm⟩ := tuple_inv hx
    obtain ⟨v', h1, h2⟩ := hm.get h
    refine ⟨v', ?_, h2⟩
    simp [Instr.extract, h1]
  · cases h
end Go.Proofs.Ytoknmodbdlfdmaa.Sim
