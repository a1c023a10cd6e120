/- ActSays as the statement's row asks it. -/
import Derived.Test.YtdmfedmhcegggaaDoorAct4
namespace Go.Proofs.YtdmfedmhcegggaaDoor.Sim
open Go
set_option linter.unusedSimpArgs false
set_option linter.unusedVariables false
theorem wf_u8 (a : Int) (h : (Lit.int .u8 a).wf = true) : 0 ≤ a ∧ a < 256 := by
  simp only [Lit.wf, Bool.and_eq_true, decide_eq_true_eq] at h
  rw [show IntKind.u8.min = 0 from rfl, show IntKind.u8.max = 255 from rfl] at h
  omega
/-- A slice of bytes that came in. -/
theorem Opn_bytes {H : Heap} {l : List Value} (h : Opn H (.slice (.int .u8)) l) : ∃ v B, l = [v] ∧ BS H v B ∧ ∀ b ∈ B, 0 ≤ b ∧ b < 256 := by
  simp only [Opn] at h
  obtain ⟨i, x, ty, L, rfl, hl, hc, hm⟩ := h
  obtain ⟨M, rfl, hM⟩ := rows_map (fun a : Int => [Value.int .u8 a]) (fun a => (Lit.int .u8 a).wf = true) L hc
  have hf : (M.map (fun a : Int => [Value.int .u8 a])).flatten = bL M := by
    unfold bL
    clear hM hm hc hl
    induction M with
    | nil => rfl
    | cons a M ih => simp [ih]
  rw [hf] at hm
  rw [List.length_map] at hm ⊢
  refine ⟨_, M, rfl, ?_, fun b hb => wf_u8 b (hM b hb)⟩
  unfold argV
  by_cases h0 : M.length = 0
  · rw [if_pos h0]
    exact .inl ⟨List.eq_nil_of_length_eq_zero h0, x, rfl⟩
  · rw [if_neg h0]
    exact BS.blk (hm (by omega))
def sh5 : List Sh := [.agg ((.cons (.int .i64) (.cons (.int .i64) (.cons (.int .i64) (.cons (.int .i64) (.cons (.int .i64) .nil)))))), .int .u8, .agg ((.cons (.int .u8) (.cons (.int .u8) (.cons (.slice (.int .u8)) .nil))))]
theorem Opn_out {H : Heap} {l : List Value} (h : Opn H (.agg ((.cons (.int .i64) (.cons (.int .i64) (.cons (.int .i64) (.cons (.int .i64) (.cons (.int .i64) .nil))))))) l) : ∃ c f g m n, l = outL c f g m n ∧ ((Lit.int .i64 c).wf = true ∧ (Lit.int .i64 f).wf = true ∧ (Lit.int .i64 g).wf = true ∧ (Lit.int .i64 m).wf = true ∧ (Lit.int .i64 n).wf = true) := by
  simp only [Opn, OpnL] at h
  obtain ⟨_, _, rfl, ⟨c, rfl, hc⟩, _, _, rfl, ⟨f, rfl, hf⟩, _, _, rfl, ⟨g, rfl, hg⟩, _, _, rfl, ⟨m, rfl, hm⟩, _, _, rfl, ⟨n, rfl, hn⟩, rfl⟩ := h
  exact ⟨c, f, g, m, n, rfl, hc, hf, hg, hm, hn⟩
theorem Opn_frame {H : Heap} {l : List Value} (h : Opn H (.agg ((.cons (.int .u8) (.cons (.int .u8) (.cons (.slice (.int .u8)) .nil))))) l) : ∃ id s v B, l = [.int .u8 id, .int .u8 s, v] ∧ BS H v B ∧ (∀ b ∈ B, 0 ≤ b ∧ b < 256) ∧ (0 ≤ id ∧ id < 256) ∧ (0 ≤ s ∧ s < 256) := by
  simp only [Opn.eq_4, OpnL] at h
  obtain ⟨_, _, rfl, h1, _, _, rfl, h2, _, _, rfl, h3, rfl⟩ := h
  simp only [Opn.eq_1] at h1 h2
  obtain ⟨id, rfl, hi⟩ := h1
  obtain ⟨s, rfl, hs⟩ := h2
  obtain ⟨v, B, rfl, hb, hB⟩ := Opn_bytes h3
  exact ⟨id, s, v, B, rfl, hb, hB, wf_u8 _ hi, wf_u8 _ hs⟩
theorem says_law (H : Heap) (h : EH all7 H) (ls : List (List Value)) (o : OpnAll H sh5 ls) : Ok (K 5 (argsS sh5 ls) H) := by
  obtain ⟨l0, _, rfl, h0, o⟩ := o.uncons
  obtain ⟨l1, _, rfl, h1, o⟩ := o.uncons
  obtain ⟨l2, _, rfl, h2, o⟩ := o.uncons
  cases o.unnil
  obtain ⟨c, f, g, m, n, rfl, _⟩ := Opn_out h0
  simp only [Opn.eq_1] at h1
  obtain ⟨s, rfl, _⟩ := h1
  obtain ⟨id, s2, v, B, rfl, hB, hb, _⟩ := Opn_frame h2
  exact says c f g m n s id s2 v B hb H h hB
end Go.Proofs.YtdmfedmhcegggaaDoor.Sim
