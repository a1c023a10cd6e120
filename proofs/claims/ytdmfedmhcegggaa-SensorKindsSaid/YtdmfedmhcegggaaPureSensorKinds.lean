/- Channels of a kind have one range: the plain law, of the ten kinds one by one. -/
import Derived.Test.YtdmfedmhcegggaaSekx1
namespace Go.Proofs.Ytdmfedmhcegggaa.Pure
open Go Go.RowKit Go.Proofs.Ytdmfedmhcegggaa.Sek Go.Proofs.YtdmfedmhcegggaaW.PrintWords Go.Proofs.YtdmfedmhcegggaaW.PrintLast
theorem number_f (a n : Int) (h : 0 < n) (h2 : n < 4000000000000000000) : ∃ i, dynamoworld_Number.f a n = some i ∧ 0 ≤ i ∧ i < n := by
  have h3 : Int.tmod a n < n := Int.tmod_lt_of_pos a h
  have h4 : -n < Int.tmod a n := by have := Int.lt_tmod_of_pos a h; omega
  unfold dynamoworld_Number.f
  rw [if_neg (by omega)]
  by_cases hn : Int.tmod a n < 0
  · rw [if_pos hn]
    have hw : wrap64 (Int.tmod a n + n) = Int.tmod a n + n := by unfold wrap64; omega
    rw [hw]
    exact ⟨_, rfl, by omega, by omega⟩
  · rw [if_neg hn]
    exact ⟨_, rfl, by omega, by omega⟩
def rest (k : Nat) (t144 : Int) : Option Bool := if 0 ≤ t144 then (if t144 < ((([1, 5, 9, 12, 15, 23, 25, 29, 30, 46] : List Int)).length : Int) then (dynamolaw7_SensorKinds.l0 k true (([5, 9, 12, 15, 23, 25, 29, 30, 46, 48] : List Int)) (([0, (-500000), 0, 0, 0, (-500), (-30000), 0, 0, (-500000)] : List Int)) (([60000, 500000, 60000, 500000, 6000, 1500, 30000, 127, 1, 500000] : List Int)) t144 (rd ([1, 5, 9, 12, 15, 23, 25, 29, 30, 46] : List Int) t144)) else (none)) else (none)
theorem rest_all : ∀ i : Fin 10, rest 60 (i.val : Int) = some true := by decide +kernel
theorem SensorKinds : dynamolaw7_SensorKinds.Pure := by
  intro a _
  obtain ⟨i, hi, h0, h1⟩ := number_f a 10 (by omega) (by omega)
  refine ⟨60, ?_⟩
  unfold dynamolaw7_SensorKinds.f
  have hf : dynamolaw7_first.f 60 = some true := by decide +kernel
  rw [hf]
  simp only [Option.bind_some, if_true, hi]
  have := rest_all ⟨i.toNat, by omega⟩
  simp only at this
  rw [show ((i.toNat : Nat) : Int) = i by omega] at this
  exact this
end Go.Proofs.Ytdmfedmhcegggaa.Pure
