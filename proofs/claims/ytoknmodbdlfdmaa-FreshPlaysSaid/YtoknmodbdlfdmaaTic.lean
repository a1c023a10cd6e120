/- A bank's Tick keeps its contract, whatever the order of its map. -/
import Derived.Test.YtoknmodbdlfdmaaPrg
import Derived.Test.YtoknmodbdlfdmaaSim21
import Derived.Test.YtoknmodbdlfdmaaSim26
namespace Go.Proofs.Ytoknmodbdlfdmaa.Sim
open Go Go.RowKit
set_option linter.unusedSimpArgs false
set_option linter.unusedVariables false
variable {lim : Nat} {φ : Loc} {H : Heap} {w : World}
theorem frame_ok {P : Program} {N : Nat} (hR : Rel lim φ H w) {args args' : List Value} (hargs : VRs φ args args') (hal : args.length ≤ N) : FR N φ (frame0 args) { tmps := ⟨args'⟩ ++ Array.replicate (N - (⟨args'⟩ : Array Value).size) undef, defers := [] } := by
  have hargl := hargs.length
  refine ⟨by simp; omega, fun t => ?_, hR.sld.at_⟩
  simp only [frame0]
  have : ∀ (l m : List Value), VRs φ l m → ∀ (k t : Nat), VR φ (l.getD t undef) ((⟨m⟩ ++ Array.replicate k undef : Array Value).getD t undef) := by
    intro l m hlm k t
    simp only [List.getD_eq_getElem?_getD, Array.getD_eq_getD_getElem?]
    cases hl : l[t]? with
    | some x =>
      obtain ⟨y, hy, hxy⟩ := hlm.get hl
      have ht : t < m.length := by
        rcases Nat.lt_or_ge t m.length with g | g
        · exact g
        · rw [List.getElem?_eq_none g] at hy; cases hy
      have : ((⟨m⟩ ++ Array.replicate k undef : Array Value))[t]? = some y := by
        rw [Array.getElem?_append_left (by simpa using ht)]; simpa using hy
      rw [this]; exact hxy
    | none =>
      have ht : m.length ≤ t := by
        rcases Nat.lt_or_ge t l.length with g | g
        · rw [List.getElem?_eq_getElem g] at hl; cases hl
        · rw [hlm.length]; exact g
      have : (((⟨m⟩ ++ Array.replicate k undef : Array Value))[t]?).getD undef = undef := by
        rw [Array.getElem?_append_right (by simpa using ht), Array.getElem?_replicate]
        split <;> rfl
      rw [this]; exact .tuple .nil
  exact this args args' hargs _ t
theorem findM_some : ∀ (l : List (Int × Value)) (x : Int) (u : Value), (x, u) ∈ l → ∃ v, findM l x = some v := by
  intro l
  induction l with
  | nil => intro x u h; cases h
  | cons p l ih =>
    intro x u h
    obtain ⟨y, z⟩ := p
    simp only [findM]
    by_cases hxy : x = y
    · rw [if_pos hxy]; exact ⟨_, rfl⟩
    · rw [if_neg hxy]
      rcases List.mem_cons.1 h with h | h
      · cases h; exact absurd rfl hxy
      · exact ih x u h
theorem ageOk_inv {v : Value} (h : ageOk v = true) : ∃ a x b y n, v = .agg ⟨[.int a x, .int b y, .int .i64 n]⟩ := by
  unfold ageOk at h
  split at h
  · exact ⟨_, _, _, _, _, rfl⟩
  · cases h
def pre0 : List RO := [⟨some 4, .plain (.mv (.tmp 0)), none⟩, ⟨some 5, .plain (.nilCheck (.tmp 4)), none⟩, ⟨some 6, .plain (.fieldA 1 (.tmp 5)), none⟩, ⟨some 7, .plain (.load (.tmp 6)), none⟩]
def x1 : List RO := [⟨some 10, .plain (.extract (.tmp 9) 0), none⟩]
def x2 : List RO := [⟨some 12, .plain (.extract (.tmp 11) 0), none⟩, ⟨some 13, .plain (.extract (.tmp 11) 1), none⟩, ⟨some 3, .plain (.newv 54 [.int .i64 0, .int .u8 0, .int .i64 0]), none⟩, ⟨some 2, .plain (.mv (.tmp 12)), none⟩, ⟨none, .plain (.store 3 (.tmp 3) (.tmp 13)), none⟩]
def x3 : List RO := [⟨some 14, .plain (.fieldA 2 (.tmp 3)), none⟩, ⟨some 15, .plain (.load (.tmp 14)), none⟩, ⟨some 16, .plain (.arith .add (.tmp 15) (.const (.int .i64 1))), none⟩, ⟨some 17, .plain (.mnmx false [.tmp 16, .const (.int .i64 1000)]), none⟩,
  ⟨some 18, .plain (.fieldA 2 (.tmp 3)), none⟩, ⟨none, .plain (.store 1 (.tmp 18) (.tmp 17)), none⟩]
def x4 : List DO := [⟨⟨some 19, .plain (.mv (.tmp 0)), none⟩, [], false⟩, ⟨⟨some 20, .plain (.nilCheck (.tmp 19)), none⟩, [0], false⟩, ⟨⟨some 21, .plain (.fieldA 1 (.tmp 20)), none⟩, [0, 1], false⟩, ⟨⟨some 22, .plain (.load (.tmp 21)), none⟩, [0, 1, 2], false⟩,
  ⟨⟨some 23, .plain (.mv (.tmp 2)), none⟩, [], false⟩, ⟨⟨some 24, .plain (.loadn 3 (.tmp 3)), none⟩, [], false⟩, ⟨⟨none, .plain (.mupd .i64 (.tmp 22) (.tmp 23) (.tmp 24)), none⟩, [0, 1, 2, 3, 4, 5], true⟩]
/-- What holds between two entries. -/
structure LI (φ0 : Loc) (H0 : Heap) (w0 : World) (lim i m bm r : Nat) (l : List (Int × Value)) (g : Gs) (km : Nat × Nat × Nat) (a : Act) (w : World) (φ : Loc) (ρ : Fr) (H : Heap) (seen : Array Nat) (c0 : Nat) : Prop where
  fr : FR 25 φ ρ a
  rel : Rel lim φ H w
  kp : Keeps φ0 H0 w0 φ H w
  r0 : ρ 0 = .pointer (some ⟨i, 0, none⟩)
  r8 : ρ 8 = .pointer (some ⟨H0.length, 0, none⟩)
  it : φ H0.length = some (r, 0, 0)
  mb : mlive H m = some (.i64, doneB seen l g.1, g)
  old : ∀ j, j < H0.length → j ≠ m → H[j]? = H0[j]?
  len : H.length + leftN seen g.1 ≤ H0.length + 1 + l.length
  len0 : H0.length < H.length
  iter : w.heap[r]? = some (.mapIter (some bm) g.2 seen c0)
  c0 : g.2 ≤ c0
  at_ : φ m = some km
  bm : km.1 = bm
  defers : a.defers = []
  apart : ∀ (i : Nat) (b : Blk) (k : Nat × Nat × Nat), H[i]? = some (some b) → φ i = some k → k.1 ≠ r
def mu (r : Nat) (B : List Nat) (w : World) : Nat := match w.heap[r]? with | some (.mapIter _ _ seen _) => leftN seen B | _ => 0
theorem setB_heap {w w1 : World} {r : Nat} {o o' : Obj} (hw : w1 = w ∨ w1 = w.drew) (h : w.heap[r]? = some o) : (ChangeMaps.setBlock w1 r o').heap[r]? = some o' ∧ (∀ n, n ≠ r → (ChangeMaps.setBlock w1 r o').heap[n]? = w.heap[n]?) ∧ (ChangeMaps.setBlock w1 r o').heap.size = w.heap.size ∧
    (ChangeMaps.setBlock w1 r o').os = w.os ∧ (ChangeMaps.setBlock w1 r o').tape = w.tape ∧ (ChangeMaps.setBlock w1 r o').output = w.output := by
  have h1 : w1.heap = w.heap := by rcases hw with rfl | rfl <;> rfl
  have h2 : w1.heap[r]? = some o := by rw [h1]; exact h
  obtain ⟨g1, g2⟩ := MapKept.heap_set (o' := o') h2
  refine ⟨g1, fun n hn => (g2 n hn).trans (by rw [h1]), by show (w1.heap.setIfInBounds r o').size = _; rw [Array.size_setIfInBounds, h1], ?_, ?_, ?_⟩ <;> rcases hw with rfl | rfl <;> rfl
theorem tick_ok {i m : Nat} {o : Bool} {t : TypeId} {x : Value} {l : List (Int × Value)} {g : Gs} (hb : live H i = some ⟨o, t, [x, .map (some m)]⟩) (hm : mlive H m = some (.i64, l, g)) (hl : l.all (fun x => ageOk x.2) = true) (hlim : H.length + (l.length + 1) ≤ lim)
    (hR : Rel lim φ H w) {u : Value} (hu : VR φ (.pointer (some ⟨i, 0, none⟩)) u) :
    Calls Try.prog 16 #[u] w fun e w' => ∃ φ', e = .returned (.tuple #[]) ∧ Rel lim φ' (H.set m (some (mapB .i64 (ageM l) g)) ++ List.replicate (l.length + 1) none) w' ∧ Keeps φ H w φ' (H.set m (some (mapB .i64 (ageM l) g)) ++ List.replicate (l.length + 1) none) w' := by
  have hilt := live_ltG hb
  have hmlt := mlive_lt hm
  have hne := live_ne_mlive hb hm
  refine calls_of_wp Try.func16 rfl ?_
  have hF0 := frame_ok (P := Try.prog) (N := 25) hR (args := [.pointer (some ⟨i, 0, none⟩)]) (args' := [u]) (.cons hu .nil) (by simp)
  refine wp_seq ?_
  refine wp_regionL ?_
  rw [← List.take_append_drop 4 (Array.toList _)]
  refine list_wp2 (N := 25) noC_sound noC_len _ _ pre0 ?hres0 (frame0 [.pointer (some ⟨i, 0, none⟩)]) H φ _ w ?ρ1 H ?run0 (by omega) hR hF0 fun a1 w1 φ1 hd1 hF1 hR1 hK1 => ?_
  case hres0 => kernel_rfl
  case run0 =>
    simp (maxDischargeDepth := 8) only [pre0, hb, RUN, Ed, knd, kndR, resV, binInt, mnmxV, mnmx2, fillL, unV, lenV, extractV, partV, loadAt, Nat.reduceAdd, Nat.reduceBEq, Nat.reduceEqDiff, Nat.reduceLT, Nat.reduceLeDiff, Nat.reduceMul, Nat.reduceSub, reduceIte, Int.reduceEq, Int.reduceNe, Int.reduceLT, Int.reduceLE, Int.reduceAdd, Int.reduceSub, Int.reduceMul, Int.reduceNeg, Int.reduceMod, Int.reduceDiv, Int.reduceTMod, Int.reduceTDiv, Int.reduceToNat, okChain_i, okLoads_nil, okLoads_in, okLoads_eq]
    rfl
  have z7 := hF1.eval (.tmp 7) rfl
  have e7 : ∃ km, φ1 m = some km ∧ a1.eval (.tmp 7) = .map (some km.1) := by
    refine map_inv (φ := φ1) ?_
    have : ev (upd (upd (upd (upd (frame0 [.pointer (some ⟨i, 0, none⟩)]) 4 (.pointer (some ⟨i, 0, none⟩))) 5 (.pointer (some ⟨i, 0, none⟩))) 6 (.pointer (some ⟨i, 0 + 1, none⟩))) 7 (.map (some m))) (.tmp 7) = .map (some m) := rfl
    exact z7
  obtain ⟨km, ekm, e7⟩ := e7
  obtain ⟨es, hb1, hst, hes, hborn⟩ := hR1.mblock hm ekm
  have hlB : l.length = g.1.length := by
    have h1 := congrArg List.length hes.keys
    have h2 := congrArg List.length hborn
    simp only [List.length_map] at h1 h2
    omega
  have hu46 : Try.prog.underlying 46 = some (.map 3 54) := by kernel_rfl
  have hrun := run_range_map (P := Try.prog) w1 46 3 54 km.1 es g.2 hu46 hb1
  obtain ⟨hR2, hK2⟩ := hR1.grow (by omega) (.mapIter (some km.1) g.2 #[] g.2)
  refine wpList_val rfl (v := .pointer (some ⟨w1.heap.size, 0, none⟩)) (w' := w1.alloc (.mapIter (some km.1) g.2 #[] g.2)) ?run1 ?_
  case run1 =>
    have e7' : a1.tmps.getD 7 undef = .map (some km.1) := e7
    simp [execOp, e7, hrun]
  show (Code.block 0 _).wp _ _ _ _
  refine wp_block ?_
  refine wp_loop (fun a w' => ∃ φ' ρ H' seen c0, LI φ H w lim i m km.1 w1.heap.size l g km a w' φ' ρ H' seen c0) (fun _ w' => mu w1.heap.size g.1 w') ?start ?round
  case start =>
    refine ⟨_, _, _, #[], g.2, ⟨(hF1.mono hK2.ext).put (d := some 8) rfl (VR.ptr (k := (w1.heap.size, 0, 0)) (i := H.length) (off := 0) (by unfold Loc.add; rw [if_pos rfl])), hR2, hK1.trans hK2, rfl, rfl, by unfold Loc.add; rw [if_pos rfl], ?mb, ?old, ?len, by simp, heap_alloc_new w1 _, Nat.le_refl _, hK2.ext _ _ ekm, rfl, (defers_put _ _ _).trans hd1, ?apart⟩⟩
    case mb => rw [mlive_app _ _ _ hmlt, done_nil l g.1 hlB]; exact hm
    case old => intro j hj _; rw [List.getElem?_append_left hj]
    case len =>
      have : leftN #[] g.1 ≤ g.1.length := List.length_filter_le _ _
      simp only [List.length_append, List.length_cons, List.length_nil]
      omega
    case apart =>
      intro j b k hj ek
      rcases Nat.lt_trichotomy j H.length with q | q | q
      · rw [List.getElem?_append_left q] at hj
        unfold Loc.add at ek
        rw [if_neg (by omega)] at ek
        have := hR1.lt hj ek
        omega
      · subst q; simp at hj
      · rw [List.getElem?_eq_none (by simp; omega)] at hj; cases hj
  case round =>
    clear hR2 hK2 hrun hb1 hst hes hborn es
    rintro av wv ⟨φ', ρ, H', seen, c0, hI⟩
    obtain ⟨hF, hR, hK, r0, r8, hit, hmb, hold, hlen, hlen0, hiter, hc0, hkm, hbm, hdef, hap⟩ := hI
    clear hbm
    obtain ⟨es, hb1, hst, hes, hborn⟩ := hR.mblock hmb hkm
    have hw1 : w.heap.size ≤ w1.heap.size := hK1.size
    have hrs : w1.heap.size < wv.heap.size := by
      rcases Nat.lt_or_ge w1.heap.size wv.heap.size with q | q
      · exact q
      · rw [Array.getElem?_eq_none q] at hiter; cases hiter
    have hlive : live H' i = some ⟨o, t, [x, .map (some m)]⟩ := by
      obtain ⟨q1, q2⟩ := live_iff.1 hb
      exact live_iff.2 ⟨(hold i hilt (Ne.symm hne)).trans q1, q2⟩
    have e8 : av.eval (.tmp 8) = .pointer (some ⟨w1.heap.size, 0, none⟩) := by
      have z8 := hF.eval (.tmp 8) rfl
      rw [ev_t, r8] at z8
      obtain ⟨k, ek, e⟩ := ptr_inv z8
      rw [hit] at ek
      cases ek
      exact e
    refine wp_seq ?_
    refine wp_regionL ?_
    rcases run_next_at (P := Try.prog) wv 0 w1.heap.size km.1 g.2 c0 seen es g.2 hiter hb1 hst.1 hc0 with ⟨hz, hrun⟩ | ⟨e, he, w2, hal, hrun⟩
    · -- nothing is left
      refine wpList_val rfl (v := .tuple #[.bool false]) (w' := wv) ?run2 ?_
      case run2 => simp [execOp, e8, hrun]
      refine wpList_val rfl (v := .bool false) (w' := wv) ?run3 ?_
      case run3 =>
        have : (av.put (some 9) (.tuple #[.bool false])).eval (.tmp 9) = .tuple #[.bool false] := by simp [Act.put, Act.eval, Array.getD, hF.1]
        simp [execOp, this, Instr.extract]
      show (Code.seq _ _).wp _ _ _ _
      refine wp_seq ?_
      refine wp_cond_false ?ce ?_
      case ce =>
        have hF2 := (hF.put (d := some 9) rfl (.tuple (.cons (.bool false) .nil))).put (d := some 10) rfl (.bool false)
        exact bool_inv (hF2.eval (.tmp 10) rfl)
      refine wp_exit ?_
      simp only [Exit.inBlock, Exit.then, if_true]
      refine bodyPost_end (results_none rfl _ _ _) ((defers_put _ _ _).trans ((defers_put _ _ _).trans hdef)) ?_
      have hall : ∀ b ∈ g.1, seen.contains b = true := by
        intro b hbm
        rw [← hborn] at hbm
        obtain ⟨e, he, rfl⟩ := List.mem_map.1 hbm
        exact all_seen es seen hz e he
      rw [done_all seen l g.1 hlB hall] at hmb
      obtain ⟨b, q1, q2⟩ := mlive_some hmb
      obtain ⟨k, ek, gk⟩ := hR.blk m b q1
      have hown : b.own = true := by
        rcases gk with ⟨q, _⟩ | ⟨_, _, _, _, q, _⟩
        · rw [q2] at q; cases q
        · exact q
      have hM := hR.mblock hmb ek
      obtain ⟨hR3, hK3⟩ := hR.writeB q1 hown ek (mapB .i64 (ageM l) g) rfl (.inr ⟨_, _, _, rfl, rfl, hM⟩) (fun c t hc => ⟨c, t, hc⟩) (fun _ _ => rfl) rfl rfl rfl rfl
      have hml : m < H'.length := mlive_lt hmb
      obtain ⟨hR4, hK4⟩ := hR3.pad (H' := H.set m (some (mapB .i64 (ageM l) g)) ++ List.replicate (l.length + 1) none) (by simp; omega) (fun j c hj => by
        rcases Nat.lt_or_ge j H.length with q | q
        · rw [List.getElem?_append_left (by simpa using q)] at hj
          by_cases hjm : j = m
          · subst hjm
            rw [List.getElem?_set_self q] at hj
            rw [List.getElem?_set_self hml]; exact hj
          · rw [List.getElem?_set_ne (Ne.symm hjm)] at hj
            rw [List.getElem?_set_ne (Ne.symm hjm), hold j q hjm]; exact hj
        · rw [List.getElem?_append_right (by simpa using q), List.getElem?_replicate] at hj
          split at hj <;> cases hj)
      exact ⟨φ', rfl, hR4, (hK.trans hK3).trans hK4⟩
    · -- an entry comes
      obtain ⟨hem, hns⟩ := mem_left he
      obtain ⟨j, hj⟩ := List.getElem?_of_mem hem
      obtain ⟨⟨xk, uv⟩, hp, hkey, hval⟩ := hes.get hj
      have hBj : g.1[j]? = some e.born := by rw [← hborn, List.getElem?_map, hj]; rfl
      have hlj := done_get seen l g.1 j _ _ hp hBj hns
      have hok := List.all_eq_true.1 hl _ (List.mem_of_getElem? hlj)
      obtain ⟨ka, va, kb, vb, na, rfl⟩ := ageOk_inv hok
      simp only at hkey hval
      obtain ⟨s1, s2, s3, s4, s5, s6⟩ := setB_heap (o' := .mapIter (some km.1) g.2 (seen.push e.born) g.2) hal hiter
      obtain ⟨w3, hw3⟩ : ∃ w3, w3 = ChangeMaps.setBlock w2 w1.heap.size (.mapIter (some km.1) g.2 (seen.push e.born) g.2) := ⟨_, rfl⟩
      rw [← hw3] at s1 s2 s3 s4 s5 s6 hrun
      have hR3 : Rel lim φ' H' w3 := hR.aside hap s2 (fun c t hc => by rw [hiter] at hc; cases hc)
      have hK3 : Keeps φ H w φ' H' w3 := hK.aside hw1 s2 s3 s4 s5 s6
      obtain ⟨bm, qm1, qm2⟩ := mlive_some hmb
      have hkr := hap m bm km qm1 hkm
      have hb3 : w3.heap[km.1]? = some (.map es g.2) := (s2 _ hkr).trans hb1
      have hentry := run_entry_at (P := Try.prog) w3 w1.heap.size km.1 g.2 seen es g.2 e s1 hb3 hem hst.2.1
      refine wpList_val rfl (v := .tuple #[.bool true, e.key, e.val]) (w' := w3) ?run4 ?_
      case run4 => simp [execOp, e8, hrun]
      refine wpList_val rfl (v := .bool true) (w' := w3) ?run5 ?_
      case run5 =>
        have : (av.put (some 9) (.tuple #[.bool true, e.key, e.val])).eval (.tmp 9) = .tuple #[.bool true, e.key, e.val] := by simp [Act.put, Act.eval, Array.getD, hF.1]
        simp [execOp, this, Instr.extract]
      show (Code.seq _ _).wp _ _ _ _
      have hkv : VR φ' (.int .i64 xk) e.key := by rw [hkey]; exact .int _ _
      have hF2 := (hF.put (d := some 9) rfl (.tuple (.cons (.bool true) (.cons hkv (.cons hval .nil))))).put (d := some 10) rfl (.bool true)
      refine wp_seq ?_
      refine wp_cond_true ?ct ?_
      case ct => exact bool_inv (hF2.eval (.tmp 10) rfl)
      refine wp_skip ?_
      show (Code.block 1 _).wp _ _ _ _
      refine wp_block ?_
      refine wp_seq ?_
      refine wp_regionL ?_
      have e8' : ((av.put (some 9) (.tuple #[.bool true, e.key, e.val])).put (some 10) (.bool true)).eval (.tmp 8) = .pointer (some ⟨w1.heap.size, 0, none⟩) := by
        rw [Act.eval_put (by simp), Act.eval_put (by simp)]; exact e8
      refine wpList_val rfl (v := .tuple #[e.key, e.val]) (w' := w3) ?run6 ?_
      case run6 => simp [execOp, e8', hentry]
      have hF3 := hF2.put (d := some 11) rfl (.tuple (.cons hkv (.cons hval .nil)))
      have hlim3 : H'.length + 1 ≤ lim := by
        have h1 := left_shrinks es seen e he
        rw [leftOf_N, leftOf_N, hborn] at h1
        omega
      refine list_wp (N := 25) noC_sound noC_len _ x2 ?hres2 _ H' φ' _ w3 ?ρ5 ?H5 ?run7 ?hlen7 hR3 hF3 fun a5 w5 φ5 hd5 hF5 hR5 hK5 => ?_
      case hres2 => kernel_rfl
      case run7 =>
        simp (maxDischargeDepth := 8) only [x2, r0, r8, RUN, Ed, knd, kndR, resV, binInt, mnmxV, mnmx2, fillL, unV, lenV, extractV, partV, loadAt, Nat.reduceAdd, Nat.reduceBEq, Nat.reduceEqDiff, Nat.reduceLT, Nat.reduceLeDiff, Nat.reduceMul, Nat.reduceSub, reduceIte, Int.reduceEq, Int.reduceNe, Int.reduceLT, Int.reduceLE, Int.reduceAdd, Int.reduceSub, Int.reduceMul, Int.reduceNeg, Int.reduceMod, Int.reduceDiv, Int.reduceTMod, Int.reduceTDiv, Int.reduceToNat, okChain_i, okLoads_nil, okLoads_in, okLoads_eq]
        rfl
      case hlen7 => simpa using hlim3
      show (Code.seq _ _).wp _ _ _ _
      have hml : m < H'.length := mlive_lt hmb
      have hil : i < H'.length := live_ltG hlive
      obtain ⟨v9, hv9⟩ := findM_some _ _ _ (List.mem_of_getElem? hp)
      have hpg : putG (doneB seen l g.1) xk g = g := by unfold putG; rw [hv9]
      have hpm := done_step seen xk _ e.born hns l g.1 j hlB (by rw [← hborn]; exact hst.2.1) (by
        have h1 := hst.2.2
        rw [hes.keys, done_keys seen l g.1 hlB] at h1
        exact (List.pairwise_map.1 h1).imp fun h e => h (by rw [e])) hlj hBj
      simp only [ageW] at hpm
      have hM2 : live (H' ++ [some ⟨true, 54, [.int ka va, .int kb vb, .int .i64 na]⟩]) i = some ⟨o, t, [x, .map (some m)]⟩ := (Ext.more _ _).live hlive
      refine code_ok noC_sound noC_len mixed 0 (hints 16) _ (.seq (.region x3) (.draw x4)) ?hres3 _ _ .normal ?ρ6 ?H6 φ5 a5 w5 _ ?run8 ?hlen8 hR5 hF5 fun a6 w6 φ6 hd6 hF6 hR6 hK6 => ?_
      case hres3 => kernel_rfl
      case run8 =>
        simp (maxDischargeDepth := 8) only [x3, x4, Es0, Er0, Ed0, r0, r8, hlive, hmb, hml, hil, hpm, hpg, okChain_all, RUN, Ed, knd, kndR, resV, binInt, mnmxV, mnmx2, fillL, unV, lenV, extractV, partV, loadAt, Nat.reduceAdd, Nat.reduceBEq, Nat.reduceEqDiff, Nat.reduceLT, Nat.reduceLeDiff, Nat.reduceMul, Nat.reduceSub, reduceIte, Int.reduceEq, Int.reduceNe, Int.reduceLT, Int.reduceLE, Int.reduceAdd, Int.reduceSub, Int.reduceMul, Int.reduceNeg, Int.reduceMod, Int.reduceDiv, Int.reduceTMod, Int.reduceTDiv, Int.reduceToNat]
        rfl
      case hlen8 => simpa using hlim3
      obtain ⟨ap5, it5⟩ := hK5.beside hR3 hap (by rw [s3]; exact hrs)
      obtain ⟨ap6, it6⟩ := hK6.beside hR5 ap5 (Nat.lt_of_lt_of_le (by rw [s3]; exact hrs) hK5.size)
      have hit6 : w6.heap[w1.heap.size]? = some (.mapIter (some km.1) g.2 (seen.push e.born) g.2) := it6.trans (it5.trans s1)
      have hsh := left_shrinks es seen e he
      rw [leftOf_N, leftOf_N, hborn] at hsh
      show (∃ φ' ρ H' seen c0, LI φ H w lim i m km.1 w1.heap.size l g km a6 w6 φ' ρ H' seen c0) ∧ mu w1.heap.size g.1 w6 < mu w1.heap.size g.1 wv
      refine ⟨⟨φ6, _, _, seen.push e.born, g.2, hF6, hR6, (hK3.trans hK5).trans hK6, ?q0, ?q8, hK6.ext _ _ (hK5.ext _ _ hit), ?qm, ?qold, ?qlen, ?qlen0, hit6, Nat.le_refl _, hK6.ext _ _ (hK5.ext _ _ hkm), rfl, ?qd, ap6⟩, ?qmu⟩
      case q0 => simp (maxDischargeDepth := 8) only [r0, RUN, Ed, knd, kndR, resV, binInt, mnmxV, mnmx2, fillL, unV, lenV, extractV, partV, loadAt, Nat.reduceAdd, Nat.reduceBEq, Nat.reduceEqDiff, Nat.reduceLT, Nat.reduceLeDiff, Nat.reduceMul, Nat.reduceSub, reduceIte, Int.reduceEq, Int.reduceNe, Int.reduceLT, Int.reduceLE, Int.reduceAdd, Int.reduceSub, Int.reduceMul, Int.reduceNeg, Int.reduceMod, Int.reduceDiv, Int.reduceTMod, Int.reduceTDiv, Int.reduceToNat, okChain_i, okLoads_nil, okLoads_in, okLoads_eq]
      case q8 => simp (maxDischargeDepth := 8) only [r8, RUN, Ed, knd, kndR, resV, binInt, mnmxV, mnmx2, fillL, unV, lenV, extractV, partV, loadAt, Nat.reduceAdd, Nat.reduceBEq, Nat.reduceEqDiff, Nat.reduceLT, Nat.reduceLeDiff, Nat.reduceMul, Nat.reduceSub, reduceIte, Int.reduceEq, Int.reduceNe, Int.reduceLT, Int.reduceLE, Int.reduceAdd, Int.reduceSub, Int.reduceMul, Int.reduceNeg, Int.reduceMod, Int.reduceDiv, Int.reduceTMod, Int.reduceTDiv, Int.reduceToNat, okChain_i, okLoads_nil, okLoads_in, okLoads_eq]
      case qm =>
        rw [mlive_app _ _ _ (by simpa using hml)]
        exact mlive_set_eq _ _ _ _ _ hml
      case qold =>
        intro j' h1 h2
        rw [List.getElem?_append_left (by simp; omega), List.getElem?_set_ne (Ne.symm h2)]
        exact hold j' h1 h2
      case qlen => simp; omega
      case qlen0 => simp; omega
      case qd => exact hd6.trans (hd5.trans ((defers_put _ _ _).trans ((defers_put _ _ _).trans ((defers_put _ _ _).trans hdef))))
      case qmu => unfold mu; rw [hit6, hiter]; exact hsh
theorem tick_known : CSound Try.prog extSem := by
  intro f args H v H' h
  unfold extSem at h
  split at h
  · rename_i hf
    simp only [tickF, Option.some.injEq] at hf
    subst hf
    refine ⟨⟨Try.f16, Try.func16, by kernel_rfl, by kernel_rfl⟩, ?_⟩
    intro lim φ w args' hlim hR hargs
    unfold tickV at h
    split at h
    · rename_i i
      unfold tickB at h
      split at h
      · rename_i o t x m hb
        simp only [Option.bind_eq_some_iff] at h
        obtain ⟨⟨q, l, g⟩, hm, h⟩ := h
        split at h
        · rename_i hc
          obtain ⟨hq, hl⟩ := hc
          simp only at hq hl
          subst hq
          simp only [Option.some.injEq, Prod.mk.injEq] at h
          obtain ⟨rfl, rfl⟩ := h
          cases hargs with
          | cons hu hn =>
            cases hn
            refine (tick_ok hb hm hl (by simpa using hlim) hR hu).mono ?_
            rintro e w' ⟨φ', rfl, h1, h2⟩
            exact ⟨_, φ', rfl, .tuple .nil, h1, h2⟩
        · cases h
      · cases h
    · cases h
  · cases h
instance known : Known Try.prog := ⟨tick_known⟩
#print axioms tick_known
end Go.Proofs.Ytoknmodbdlfdmaa.Sim
