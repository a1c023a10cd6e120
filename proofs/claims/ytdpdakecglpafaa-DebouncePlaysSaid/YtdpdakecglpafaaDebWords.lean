/- The filter of chapter 13 as plain numbers: what a step leaves of its count and its state, and the contracts of its functions said with these. -/
import Derived.Test.YtdpdakecglpafaaDebx1
import Derived.Test.YtdpdakecglpafaaDebx2
namespace Go.Proofs.Ytdpdakecglpafaa.Deb
open Go Go.RowKit Go.Proofs.YtdpdakecglpafaaW.PrintWords Go.Proofs.YtdpdakecglpafaaW.PrintLast Go.Proofs.YtdpdakecglpafaaW.PrintMore

def stC (n c : Int) (s x : Bool) : Int := if x = s then 0 else if n ≤ c + 1 then 0 else c + 1
def stS (n c : Int) (s x : Bool) : Bool := if x = s then s else if n ≤ c + 1 then x else s
theorem step_is (n c : Int) (s x : Bool) (h0 : 0 ≤ c) (h1 : c ≤ 1000) : debounce_Filter_Step.f n c s x = some (stS n c s x, n, stC n c s x, stS n c s x) := by
  unfold debounce_Filter_Step.f debounce_Filter_Force.f stC stS
  have hw : wrap64 (c + 1) = c + 1 := by unfold wrap64; omega
  rw [hw]
  by_cases hx : x = s
  · simp [hx]
  · rw [if_neg (by simpa using hx), if_neg hx, if_neg hx]
    by_cases hn : n ≤ c + 1
    · rw [if_pos (by omega), if_pos hn, if_pos hn]; rfl
    · rw [if_neg (by omega), if_neg hn, if_neg hn]
theorem stC_lo (n c : Int) (s x : Bool) (h : 0 ≤ c) : 0 ≤ stC n c s x := by
  unfold stC; split
  · omega
  · split <;> omega
theorem stC_hi (n c : Int) (s x : Bool) (h : 1 ≤ n) : stC n c s x < n := by
  unfold stC; split
  · omega
  · split <;> omega
theorem first_true : dynamolaw13_first.f = some true := by decide +kernel
theorem first_c (w : World) : Calls Try.prog 14 #[] w fun e w' => e = .returned (.bool true) ∧ Below w.heap.size w w' := dynamolaw13_first.calls true w first_true
theorem new_c (n : Int) (w0 w : World) (hB : Below w0.heap.size w0 w) : Calls Try.prog 16 #[.int .i64 n] w fun e w' => ∃ g : Nat, e = .returned (.pointer (some ⟨g, 0, none⟩)) ∧ IsS67 w0 w' g (mx (mn n 1000) 1) 0 false ∧ Below w0.heap.size w0 w' ∧ Below w.heap.size w w' ∧ w.heap.size ≤ g :=
  (debounce_New.calls n _ _ _ w w (Below.refl _ _) rfl).mono fun _ _ ⟨g, he, ⟨hi, hg⟩, h1, h2⟩ => ⟨g, he, ⟨hi, Nat.le_trans hB.size hg⟩, below_step hB h1, h2, hg⟩
theorem force_c (g : Nat) (n c : Int) (s x : Bool) (w0 w : World) (hI : IsS67 w0 w g n c s) (hB : Below w0.heap.size w0 w) : Calls Try.prog 17 #[.pointer (some ⟨g, 0, none⟩), .bool x] w fun e w' => e = .returned (.tuple #[]) ∧ IsS67 w0 w' g n 0 x ∧ Below w0.heap.size w0 w' ∧ KeepBut w w' g none :=
  debounce_Filter_Force.calls g n c s x _ _ _ w0 w hI hB rfl
theorem step_c (g : Nat) (n c : Int) (s x : Bool) (w0 w : World) (hI : IsS67 w0 w g n c s) (hB : Below w0.heap.size w0 w) (h0 : 0 ≤ c) (h1 : c ≤ 1000) : Calls Try.prog 18 #[.pointer (some ⟨g, 0, none⟩), .bool x] w fun e w' => e = .returned (.bool (stS n c s x)) ∧ IsS67 w0 w' g n (stC n c s x) (stS n c s x) ∧ Below w0.heap.size w0 w' ∧ KeepBut w w' g none :=
  debounce_Filter_Step.calls g n c s x _ _ _ _ w0 w hI hB (step_is n c s x h0 h1)
theorem state_c (g : Nat) (n c : Int) (s : Bool) (w0 w : World) (hI : IsS67 w0 w g n c s) (hB : Below w0.heap.size w0 w) : Calls Try.prog 22 #[.pointer (some ⟨g, 0, none⟩)] w fun e w' => e = .returned (.bool s) ∧ IsS67 w0 w' g n c s ∧ Below w0.heap.size w0 w' ∧ KeepBut w w' g none :=
  debounce_Filter_State.calls g n c s _ _ _ _ w0 w hI hB rfl
theorem number_f (a n : Int) (h : 0 < n) (h2 : n < 4000000000000000000) : ∃ i, dynamoworld_Number.f a n = some i ∧ 0 ≤ i ∧ i < n := by
  have h3 : Int.tmod a n < n := Int.tmod_lt_of_pos a h
  have h4 : -n < Int.tmod a n := by have := Int.lt_tmod_of_pos a h; omega
  unfold dynamoworld_Number.f
  rw [if_neg (by omega)]
  by_cases hn : Int.tmod a n < 0
  · rw [if_pos hn]
    have hw : wrap64 (Int.tmod a n + n) = Int.tmod a n + n := by unfold wrap64; omega
    rw [hw]
    exact ⟨_, rfl, by omega, by omega⟩
  · rw [if_neg hn]
    exact ⟨_, rfl, by omega, by omega⟩
theorem number_c (a n i : Int) (w : World) (h : dynamoworld_Number.f a n = some i) (h1 : 0 < n) (h2 : n < 4000000000000000000) : Calls Try.prog 15 #[.int .i64 a, .int .i64 n] w fun e w' => e = .returned (.int .i64 i) ∧ w = w' := by
  have h3 : Int.tmod a n < n := Int.tmod_lt_of_pos a h1
  have h4 : -n < Int.tmod a n := by have := Int.lt_tmod_of_pos a h1; omega
  unfold dynamoworld_Number.f at h
  rw [if_neg (by omega)] at h
  have z : (n == 0) = false := beq_eq_false_iff_ne.mpr (by omega)
  by_cases hn : Int.tmod a n < 0
  · have hw : wrap64 (Int.tmod a n + n) = Int.tmod a n + n := by unfold wrap64; omega
    rw [if_pos hn, hw] at h
    clear hw
    obtain rfl := Option.some.inj h
    have d : decide (Int.tmod a n < 0) = true := decide_eq_true hn
    go_enter Try.func15, Try.ntmps15
    go_wp2
    go_ret
    exact ⟨rfl, rfl⟩
  · rw [if_neg hn] at h
    obtain rfl := Option.some.inj h
    have d : decide (Int.tmod a n < 0) = false := decide_eq_false hn
    go_enter Try.func15, Try.ntmps15
    go_wp2
    go_ret
    exact ⟨rfl, rfl⟩
/-- A state of another block is as it was. -/
theorem keep_s {w0 W W1 : World} {g g' : Nat} {n c : Int} {s : Bool} (h : IsS67 w0 W g' n c s) (hk : KeepBut W W1 g none) (hne : g' ≠ g) : IsS67 w0 W1 g' n c s := by
  obtain ⟨hb, hg⟩ := h
  exact ⟨hk.blk hb hne (by simp), hg⟩
theorem below_s {w0 W W1 : World} {g' : Nat} {n c : Int} {s : Bool} (h : IsS67 w0 W g' n c s) (hk : Below W.heap.size W W1) : IsS67 w0 W1 g' n c s := h.below hk
/-! ### the document's filter -/
theorem rstep_is (n c : Int) (s x : Bool) (h0 : 0 ≤ c) (h1 : c ≤ 1000) : dynamoref1_Filter_Step.f n c s x = some (stS n c s x, n, stC n c s x, stS n c s x) := by
  unfold dynamoref1_Filter_Step.f stC stS
  have hw : wrap64 (c + 1) = c + 1 := by unfold wrap64; omega
  rw [hw]
  by_cases hx : x = s
  · simp [hx]
  · rw [if_neg (by simpa using hx), if_neg hx, if_neg hx]
    by_cases hn : n ≤ c + 1
    · rw [if_pos (by omega), if_pos hn, if_pos hn]
    · rw [if_neg (by omega), if_neg hn, if_neg hn]
theorem rnew_c (n : Int) (w0 w : World) (hB : Below w0.heap.size w0 w) : Calls Try.prog 19 #[.int .i64 n] w fun e w' => ∃ g : Nat, e = .returned (.pointer (some ⟨g, 0, none⟩)) ∧ IsS34 w0 w' g (mx (mn n 1000) 1) 0 false ∧ Below w0.heap.size w0 w' ∧ Below w.heap.size w w' ∧ w.heap.size ≤ g :=
  (dynamoref1_NewFilter.calls n (mx (mn n 1000) 1) 0 false w w (Below.refl _ _) (by
    have h : mn (mx n 1) 1000 = mx (mn n 1000) 1 := by unfold mx mn; omega
    unfold dynamoref1_NewFilter.f
    rw [h])).mono fun _ _ ⟨g, he, ⟨hi, hg⟩, h1, h2⟩ => ⟨g, he, ⟨hi, Nat.le_trans hB.size hg⟩, below_step hB h1, h2, hg⟩
theorem rforce_c (g : Nat) (n c : Int) (s x : Bool) (w0 w : World) (hI : IsS34 w0 w g n c s) (hB : Below w0.heap.size w0 w) : Calls Try.prog 20 #[.pointer (some ⟨g, 0, none⟩), .bool x] w fun e w' => e = .returned (.tuple #[]) ∧ IsS34 w0 w' g n 0 x ∧ Below w0.heap.size w0 w' ∧ KeepBut w w' g none :=
  dynamoref1_Filter_Force.calls g n c s x _ _ _ w0 w hI hB rfl
theorem rstep_c (g : Nat) (n c : Int) (s x : Bool) (w0 w : World) (hI : IsS34 w0 w g n c s) (hB : Below w0.heap.size w0 w) (h0 : 0 ≤ c) (h1 : c ≤ 1000) : Calls Try.prog 21 #[.pointer (some ⟨g, 0, none⟩), .bool x] w fun e w' => e = .returned (.bool (stS n c s x)) ∧ IsS34 w0 w' g n (stC n c s x) (stS n c s x) ∧ Below w0.heap.size w0 w' ∧ KeepBut w w' g none :=
  dynamoref1_Filter_Step.calls g n c s x _ _ _ _ w0 w hI hB (rstep_is n c s x h0 h1)
theorem keep_r {w0 W W1 : World} {g g' : Nat} {n c : Int} {s : Bool} (h : IsS34 w0 W g' n c s) (hk : KeepBut W W1 g none) (hne : g' ≠ g) : IsS34 w0 W1 g' n c s := by
  obtain ⟨hb, hg⟩ := h
  exact ⟨hk.blk hb hne (by simp), hg⟩
theorem n_lo (n : Int) : 1 ≤ mx (mn n 1000) 1 := by unfold mx mn; omega
theorem n_hi (n : Int) : mx (mn n 1000) 1 ≤ 1000 := by unfold mx mn; omega
end Go.Proofs.Ytdpdakecglpafaa.Deb
