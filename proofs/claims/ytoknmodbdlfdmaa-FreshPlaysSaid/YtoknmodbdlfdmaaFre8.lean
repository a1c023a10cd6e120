/- The four statements' forms. -/
import Derived.Test.YtoknmodbdlfdmaaFre7
import Derived.Test.YtoknmodbdlfdmaaTic
namespace Go.Proofs.Ytoknmodbdlfdmaa.Sim
open Go
set_option linter.unusedSimpArgs false
set_option linter.unusedVariables false
theorem wf_u8 (a : Int) (h : (Lit.int .u8 a).wf = true) : 0 ≤ a ∧ a < 256 := by
  simp only [Lit.wf, Bool.and_eq_true, decide_eq_true_eq] at h
  rw [show IntKind.u8.min = 0 from rfl, show IntKind.u8.max = 255 from rfl] at h
  omega
/-- A slice of bytes that came in. -/
theorem wfu8 {a : Int} (h : (Lit.int .u8 a).wf = true) : 0 ≤ a ∧ a ≤ 255 := by have := wf_u8 a h; omega
def sh3 : List Sh := [.int .u8, .int .u8, .int .i64, .int .i64, .int .i64]
theorem newer_law (H : Heap) (ls : List (List Value)) (o : OpnAll H sh3 ls) : Ok (K 3 (argsS sh3 ls) H) := by
  obtain ⟨l0, _, rfl, h0, o⟩ := o.uncons
  obtain ⟨l1, _, rfl, h1, o⟩ := o.uncons
  obtain ⟨l2, _, rfl, h2, o⟩ := o.uncons
  obtain ⟨l3, _, rfl, h3, o⟩ := o.uncons
  obtain ⟨l4, _, rfl, h4, o⟩ := o.uncons
  cases o.unnil
  simp only [Opn.eq_1] at h0 h1 h2 h3 h4
  obtain ⟨a0, rfl, w0⟩ := h0
  obtain ⟨a1, rfl, w1⟩ := h1
  obtain ⟨a2, rfl, w2⟩ := h2
  obtain ⟨a3, rfl, w3⟩ := h3
  obtain ⟨a4, rfl, w4⟩ := h4
  exact newer a0 a1 a2 a3 a4 (wfu8 w0) (wfu8 w1) H
def sh4 : List Sh := [.int .i64, .int .u8, .int .i64, .int .i64]
theorem rowsL_law (H : Heap) (ls : List (List Value)) (o : OpnAll H sh4 ls) : Ok (K 4 (argsS sh4 ls) H) := by
  obtain ⟨l0, _, rfl, h0, o⟩ := o.uncons
  obtain ⟨l1, _, rfl, h1, o⟩ := o.uncons
  obtain ⟨l2, _, rfl, h2, o⟩ := o.uncons
  obtain ⟨l3, _, rfl, h3, o⟩ := o.uncons
  cases o.unnil
  simp only [Opn.eq_1] at h0 h1 h2 h3
  obtain ⟨a0, rfl, w0⟩ := h0
  obtain ⟨a1, rfl, w1⟩ := h1
  obtain ⟨a2, rfl, w2⟩ := h2
  obtain ⟨a3, rfl, w3⟩ := h3
  exact rowsL a0 a1 a2 a3 (wfu8 w1) H
def sh6 : List Sh := [.int .i64, .int .i64, .int .i64, .int .u8]
theorem ages_law (H : Heap) (ls : List (List Value)) (o : OpnAll H sh6 ls) : Ok (K 6 (argsS sh6 ls) H) := by
  obtain ⟨l0, _, rfl, h0, o⟩ := o.uncons
  obtain ⟨l1, _, rfl, h1, o⟩ := o.uncons
  obtain ⟨l2, _, rfl, h2, o⟩ := o.uncons
  obtain ⟨l3, _, rfl, h3, o⟩ := o.uncons
  cases o.unnil
  simp only [Opn.eq_1] at h0 h1 h2 h3
  obtain ⟨a0, rfl, w0⟩ := h0
  obtain ⟨a1, rfl, w1⟩ := h1
  obtain ⟨a2, rfl, w2⟩ := h2
  obtain ⟨a3, rfl, w3⟩ := h3
  exact ages a0 a1 a2 a3 (wfu8 w3) H
def sh7 : List Sh := [.int .i64, .int .i64, .int .i64, .int .i64, .int .i64]
theorem apart_law (H : Heap) (ls : List (List Value)) (o : OpnAll H sh7 ls) : Ok (K 7 (argsS sh7 ls) H) := by
  obtain ⟨l0, _, rfl, h0, o⟩ := o.uncons
  obtain ⟨l1, _, rfl, h1, o⟩ := o.uncons
  obtain ⟨l2, _, rfl, h2, o⟩ := o.uncons
  obtain ⟨l3, _, rfl, h3, o⟩ := o.uncons
  obtain ⟨l4, _, rfl, h4, o⟩ := o.uncons
  cases o.unnil
  simp only [Opn.eq_1] at h0 h1 h2 h3 h4
  obtain ⟨a0, rfl, w0⟩ := h0
  obtain ⟨a1, rfl, w1⟩ := h1
  obtain ⟨a2, rfl, w2⟩ := h2
  obtain ⟨a3, rfl, w3⟩ := h3
  obtain ⟨a4, rfl, w4⟩ := h4
  exact apart a0 a1 a2 a3 a4 H
end Go.Proofs.Ytoknmodbdlfdmaa.Sim
