/- Step and Lock of the buses of chapter 24 over the plain heap. -/
import Derived.Test.YtncpbbdgckkdmaaLoc2
import Derived.Test.YtncpbbdgckkdmaaSim21
namespace Go.Proofs.Ytncpbbdgckkdmaa.Sim
open Go
set_option linter.unusedSimpArgs false
set_option linter.unusedVariables false
theorem cut_loopR {P : Program} {hs : Nat → Hints} {R : Option (Value × Heap) → Prop} {b : RCode} {id : Nat} {rs : List RRes} {ρ : Fr} {H : Heap} {k : Fr → Heap → Option (Ex × Fr × Heap)} (I J : Fr → Heap → Prop) (hI : I ρ H)
    (hl : ∀ ρ H, I ρ H → ∃ ρ' H', E P hs (.loop b) ρ H = some (.exit id, ρ', H') ∧ J ρ' H') (hk : ∀ ρ' H', J ρ' H' → R (done rs (k ρ' H'))) : R (done rs (andThen (blk id (E P hs (.loop b) ρ H)) k)) := by
  obtain ⟨ρ', H', h1, h2⟩ := hl ρ H hI
  rw [h1, blk_x, if_pos rfl, andThen_n]
  exact hk ρ' H' h2
/-- Every block but three is as it was. -/
def But (a b c : Nat) (H G : Heap) : Prop := ∀ (i : Nat) (z : Blk), live H i = some z → i ≠ a → i ≠ b → i ≠ c → live G i = some z
structure S17 (g p : Nat) (L : List Value) (k : Int) (ρ : Fr) : Prop where
  q0 : ρ 0 = .pointer (some ⟨g, 0, none⟩)
  q4 : ρ 4 = .pointer (some ⟨p, 0, none⟩)
  q7 : ρ 7 = .agg ⟨L⟩
  q8 : ρ 8 = .int .i64 k
structure Dist (g a b c : Nat) : Prop where
  ga : g ≠ a
  gb : g ≠ b
  gc : g ≠ c
  ab : a ≠ b
  ac : a ≠ c
  bc : b ≠ c
def Bd (s : Int × Bool) : Prop := 0 ≤ s.1 ∧ s.1 ≤ 1000000
theorem loop17 (g a b c p : Nat) (t n : Int) (x y z : Int × Bool) (v0 : Int) (f0 : Bool) (v1 : Int) (f1 : Bool) (v2 : Int) (f2 : Bool) (hd : Dist g a b c) (hx : Bd x) (hy : Bd y) (hz : Bd z) (ρ : Fr) (H : Heap)
    (h : S17 g p (smp v0 f0 v1 f1 v2 f2) 0 ρ) (hb : Bus H g a b c t n x y z) :
    ∃ ρ' H', E Try.prog hints (.loop l17_0) ρ H = some (.exit 0, ρ', H') ∧ S17 g p (smp v0 f0 v1 f1 v2 f2) 3 ρ' ∧ Bus H' g a b c t n (lk n t x v0 f0) (lk n t y v1 f1) (lk n t z v2 f2) ∧ But a b c H H' := by
  obtain ⟨ρ1, H1, e1, ⟨q0, q4, q7, q8⟩, a1, k1⟩ := round0 H ρ g a b c t n x v0 f0 v1 f1 v2 f2 _ hd.ga hb.g hb.a hx h.q0 h.q4 h.q7 h.q8
  have hg1 := k1 _ _ hb.g hd.ga
  have hb1 := k1 _ _ hb.b hd.ab.symm
  have hc1 := k1 _ _ hb.c hd.ac.symm
  obtain ⟨ρ2, H2, e2, ⟨q0, q4, q7, q8⟩, b2, k2⟩ := round1 H1 ρ1 g a b c t n y v0 f0 v1 f1 v2 f2 _ hd.gb hg1 hb1 hy q0 q4 q7 q8
  have hg2 := k2 _ _ hg1 hd.gb
  have ha2 := k2 _ _ a1 hd.ab
  have hc2 := k2 _ _ hc1 hd.bc.symm
  obtain ⟨ρ3, H3, e3, ⟨q0, q4, q7, q8⟩, c3, k3⟩ := round2 H2 ρ2 g a b c t n z v0 f0 v1 f1 v2 f2 _ hd.gc hg2 hc2 hz q0 q4 q7 q8
  have hg3 := k3 _ _ hg2 hd.gc
  have ha3 := k3 _ _ ha2 hd.ac
  have hb3 := k3 _ _ b2 hd.bc
  have e4 : E Try.prog hints l17_0 ρ3 H3 = some (.exit 0, upd ρ3 9 (.bool false), H3) := by
    simp (maxDischargeDepth := 8) only [l17_0, c17_2, q8, RUN, Ed, knd, kndR, resV, binInt, mnmxV, mnmx2, fillL, unV, lenV, extractV, partV, loadAt, Nat.reduceAdd, Nat.reduceBEq, Nat.reduceEqDiff, Nat.reduceLT, Nat.reduceLeDiff, Nat.reduceMul, Nat.reduceSub, reduceIte, Int.reduceEq, Int.reduceNe, Int.reduceLT, Int.reduceLE, Int.reduceAdd, Int.reduceSub, Int.reduceMul, Int.reduceNeg, Int.reduceMod, Int.reduceDiv, Int.reduceTMod, Int.reduceTDiv, Int.reduceToNat, okChain_i, okLoads_nil, okLoads_in, okLoads_eq]
  refine ⟨_, H3, by rw [El, e1, andThen_n, El, e2, andThen_n, El, e3, andThen_n, El, e4, andThen_x], ⟨?_, ?_, ?_, ?_⟩, ⟨hg3, ha3, hb3, c3⟩, fun i z hz h1 h2 h3 => k3 _ _ (k2 _ _ (k1 _ _ hz h1) h2) h3⟩
  all_goals simp (maxDischargeDepth := 8) only [q0, q4, q7, q8, RUN, Ed, knd, kndR, resV, binInt, mnmxV, mnmx2, fillL, unV, lenV, extractV, partV, loadAt, Nat.reduceAdd, Nat.reduceBEq, Nat.reduceEqDiff, Nat.reduceLT, Nat.reduceLeDiff, Nat.reduceMul, Nat.reduceSub, reduceIte, Int.reduceEq, Int.reduceNe, Int.reduceLT, Int.reduceLE, Int.reduceAdd, Int.reduceSub, Int.reduceMul, Int.reduceNeg, Int.reduceMod, Int.reduceDiv, Int.reduceTMod, Int.reduceTDiv, Int.reduceToNat, okChain_i, okLoads_nil, okLoads_in, okLoads_eq]
def StepR (H : Heap) (g a b c : Nat) (t n : Int) (x y z : Int × Bool) (o : Option (Value × Heap)) : Prop :=
  ∃ G, o = some (.agg ⟨[.bool x.2, .bool y.2, .bool z.2]⟩, G) ∧ Bus G g a b c t n x y z ∧ But a b c H G
theorem lstep_f (H : Heap) (g a b c : Nat) (t n : Int) (x y z : Int × Bool) (v0 : Int) (f0 : Bool) (v1 : Int) (f1 : Bool) (v2 : Int) (f2 : Bool) (hd : Dist g a b c) (hx : Bd x) (hy : Bd y) (hz : Bd z) (hb : Bus H g a b c t n x y z) :
    StepR H g a b c t n (lk n t x v0 f0) (lk n t y v1 f1) (lk n t z v2 f2) (K 17 [.pointer (some ⟨g, 0, none⟩), .agg ⟨smp v0 f0 v1 f1 v2 f2⟩] H) := by
  have hg := live_lt hb.g
  have ha := live_lt hb.a
  have hbb := live_lt hb.b
  have hc := live_lt hb.c
  rw [K, D_eq p17 _ _ (Nat.le_of_ble_eq_true rfl)]
  simp (maxDischargeDepth := 8) only [r17, b17, c17_0, c17_1, smp, RUN, Ed, knd, kndR, resV, binInt, mnmxV, mnmx2, fillL, unV, lenV, extractV, partV, loadAt, Nat.reduceAdd, Nat.reduceBEq, Nat.reduceEqDiff, Nat.reduceLT, Nat.reduceLeDiff, Nat.reduceMul, Nat.reduceSub, reduceIte, Int.reduceEq, Int.reduceNe, Int.reduceLT, Int.reduceLE, Int.reduceAdd, Int.reduceSub, Int.reduceMul, Int.reduceNeg, Int.reduceMod, Int.reduceDiv, Int.reduceTMod, Int.reduceTDiv, Int.reduceToNat, okChain_i, okLoads_nil, okLoads_in, okLoads_eq]
  refine cut_loopR (R := StepR H g a b c t n (lk n t x v0 f0) (lk n t y v1 f1) (lk n t z v2 f2))
    (fun ρ G => S17 g (H.length + 1) (smp v0 f0 v1 f1 v2 f2) 0 ρ ∧ Bus G g a b c t n x y z ∧ But a b c H G ∧ live G (H.length + 1) = some ⟨true, 39, [.bool false, .bool false, .bool false]⟩)
    (fun ρ G => S17 g (H.length + 1) (smp v0 f0 v1 f1 v2 f2) 3 ρ ∧ Bus G g a b c t n (lk n t x v0 f0) (lk n t y v1 f1) (lk n t z v2 f2) ∧ But a b c H G ∧ live G (H.length + 1) = some ⟨true, 39, [.bool false, .bool false, .bool false]⟩) ?_ ?_ ?_
  · refine ⟨⟨?_, ?_, ?_, ?_⟩, ⟨live_more hb.g _, live_more hb.a _, live_more hb.b _, live_more hb.c _⟩, fun i z hz _ _ _ => live_more hz _, ?_⟩
    all_goals simp (maxDischargeDepth := 8) only [smp, RUN, Ed, knd, kndR, resV, binInt, mnmxV, mnmx2, fillL, unV, lenV, extractV, partV, loadAt, Nat.reduceAdd, Nat.reduceBEq, Nat.reduceEqDiff, Nat.reduceLT, Nat.reduceLeDiff, Nat.reduceMul, Nat.reduceSub, reduceIte, Int.reduceEq, Int.reduceNe, Int.reduceLT, Int.reduceLE, Int.reduceAdd, Int.reduceSub, Int.reduceMul, Int.reduceNeg, Int.reduceMod, Int.reduceDiv, Int.reduceTMod, Int.reduceTDiv, Int.reduceToNat, okChain_i, okLoads_nil, okLoads_in, okLoads_eq]
  · rintro ρ G ⟨hs, hbus, hk, hl⟩
    obtain ⟨ρ', G', e, h1, h2, h3⟩ := loop17 g a b c (H.length + 1) t n x y z v0 f0 v1 f1 v2 f2 hd hx hy hz ρ G hs hbus
    exact ⟨ρ', G', e, h1, h2, fun i z hz u v w => h3 i z (hk i z hz u v w) u v w, h3 _ _ hl (by omega) (by omega) (by omega)⟩
  · rintro ρ G ⟨⟨q0, q4, q7, q8⟩, hbus, hk, hl⟩
    have e1 := locked_f G g a b c t n _ _ _ hbus
    simp only [K] at e1
    have hll := live_lt hl
    have gl := fun X => live_more hl X
    refine ⟨?G1, ?run, ?inv⟩
    case run =>
      simp (maxDischargeDepth := 8) only [c17_7, q0, q4, e1, outB, hl, hll, gl, RUN, Ed, knd, kndR, resV, binInt, mnmxV, mnmx2, fillL, unV, lenV, extractV, partV, loadAt, Nat.reduceAdd, Nat.reduceBEq, Nat.reduceEqDiff, Nat.reduceLT, Nat.reduceLeDiff, Nat.reduceMul, Nat.reduceSub, reduceIte, Int.reduceEq, Int.reduceNe, Int.reduceLT, Int.reduceLE, Int.reduceAdd, Int.reduceSub, Int.reduceMul, Int.reduceNeg, Int.reduceMod, Int.reduceDiv, Int.reduceTMod, Int.reduceTDiv, Int.reduceToNat, okChain_i, okLoads_nil, okLoads_in, okLoads_eq]
      rfl
    case inv =>
      have key : ∀ (i : Nat) (z : Blk) (w : Option Blk) (X : Heap), live G i = some z → i ≠ H.length + 1 → live (G.set (H.length + 1) w ++ X) i = some z := fun i z w X h1 h2 => by
        rw [live_app _ _ _ (by simpa using live_lt h1), live_set_ne _ _ _ _ (Ne.symm h2)]; exact h1
      exact ⟨⟨key _ _ _ _ hbus.g (by omega), key _ _ _ _ hbus.a (by omega), key _ _ _ _ hbus.b (by omega), key _ _ _ _ hbus.c (by omega)⟩, fun i z hz u v w => key _ _ _ _ (hk i z hz u v w) (by have := live_lt hz; omega)⟩
end Go.Proofs.Ytncpbbdgckkdmaa.Sim
