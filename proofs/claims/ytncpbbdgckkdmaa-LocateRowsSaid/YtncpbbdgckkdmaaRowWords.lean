/- Slices of Bools and of whole numbers that came in, as lists: what a row hands to a walk. -/
import Derived.Test.YtncpbbdgckkdmaaProg
import Derived.ProofKit
import Derived.OpenShut
import Derived.SizedLaws
import Derived.ChangeSlices
import Derived.Deep.Grids
namespace Go.Proofs.Ytncpbbdgckkdmaa.RowW
open Go Go.ChangeShapes Go.WideShapes Go.Deep
/-- A slice of Bools at an address reads as a list. -/
def RdB (w : World) (A : Option Addr) (l : List Bool) : Prop := ∀ i, i < l.length → ∃ ad, A = some ad ∧ w.cell? (ad.add i) = some (.bool (l.getD i false))
def RdI (k : IntKind) (w : World) (A : Option Addr) (l : List Int) : Prop := ∀ i, i < l.length → ∃ ad, A = some ad ∧ w.cell? (ad.add i) = some (.int k (l.getD i 0))
section
variable {H : Type} {enc : TypeId × Value → H} {P : Program} {W : World} {held : Bool}
theorem opens_bools {t e : TypeId} {a : Option Addr} {len cap : Nat} {d : DataW H} {ps : List MemPlace} (ht : P.underlying t = some (.slice e)) (he : P.underlying e = some .bool) (hc : P.cellsOf e = 1)
    (h : DataW.Trod enc P W 0 (fun _ => true) held t (.slice a len cap) d ps) : ∃ l : List Bool, l.length = len ∧ RdB W a l ∧ l.length ≤ cap ∧ cap ≤ maxLen := by
  obtain ⟨fuel, hf⟩ := h
  rcases open_bools ht he hc hf with ⟨hcs, _⟩ | ⟨x, l, c, B, hcs, _, hl, hm, _, hcell⟩
  · simp [Value.cells] at hcs
    obtain ⟨rfl, rfl, rfl⟩ := hcs
    exact ⟨[], rfl, fun i hi => absurd hi (by simp), by simp, by decide⟩
  · simp [Value.cells] at hcs
    obtain ⟨rfl, rfl, rfl⟩ := hcs
    refine ⟨(List.range len).map B, by simp, fun i hi => ⟨_, rfl, ?_⟩, by simpa using hl, hm⟩
    simp at hi
    rw [hcell i (by omega)]
    simp [List.getD, hi]
theorem opens_ints {k : IntKind} {t e : TypeId} {a : Option Addr} {len cap : Nat} {d : DataW H} {ps : List MemPlace} (ht : P.underlying t = some (.slice e)) (he : P.underlying e = some (.int k)) (hc : P.cellsOf e = 1)
    (h : DataW.Trod enc P W 0 (fun _ => true) held t (.slice a len cap) d ps) : ∃ l : List Int, l.length = len ∧ RdI k W a l ∧ l.length ≤ cap ∧ cap ≤ maxLen ∧ ∀ n ∈ l, (Lit.int k n).wf = true := by
  obtain ⟨fuel, hf⟩ := h
  rcases open_ints ht he hc hf with ⟨hcs, _⟩ | ⟨x, l, c, zs, hcs, _, hl, hm, hz, _, hcell, hw⟩
  · simp [Value.cells] at hcs
    obtain ⟨rfl, rfl, rfl⟩ := hcs
    exact ⟨[], rfl, fun i hi => absurd hi (by simp), by simp, by decide, by simp⟩
  · simp [Value.cells] at hcs
    obtain ⟨rfl, rfl, rfl⟩ := hcs
    simp only [if_true] at hz
    refine ⟨zs.take len, by simp; omega, fun i hi => ⟨_, rfl, ?_⟩, by simp; omega, hm, fun n hn => hw n (List.mem_of_mem_take hn)⟩
    simp at hi
    rw [hcell i (by omega)]
    congr 2
    have hi2 : i < zs.length := by omega
    simp [List.getD, hi, hi2]
end
end Go.Proofs.Ytncpbbdgckkdmaa.RowW
