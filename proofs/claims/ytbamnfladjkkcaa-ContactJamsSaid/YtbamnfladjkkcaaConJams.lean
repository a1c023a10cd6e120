/- One that does not follow is told to be jammed behind its time and so many looks, for good: the walk through the law's Go text, for all arguments. -/
import Derived.Test.YtbamnfladjkkcaaConOpens
namespace Go.Proofs.Ytbamnfladjkkcaa.Con
open Go Go.RowKit Go.Proofs.YtbamnfladjkkcaaW.PrintWords Go.Proofs.YtbamnfladjkkcaaW.PrintLast Go.Proofs.YtbamnfladjkkcaaW.PrintMore
set_option linter.unusedVariables false
set_option linter.unusedSimpArgs false
/-- The first look that counts. -/
def firstF (gap D : Int) : Int := (D + gap - 1) / gap * gap
/-- How many looks ahead of cycle k counted. -/
def cntF (gap D k : Int) : Int := if k ≤ firstF gap D then 0 else (k - firstF gap D + gap - 1) / gap
theorem cnt_step (gap D k : Int) (hg : gap = 1 ∨ gap = 2 ∨ gap = 3) (hD : 1 ≤ D) (hk : 0 ≤ k) : cntF gap D (k + 1) = if k % gap = 0 ∧ D ≤ k then cntF gap D k + 1 else cntF gap D k := by
  unfold cntF firstF
  rcases hg with rfl | rfl | rfl <;> (split <;> split <;> (try split) <;> omega)
theorem cnt_zero (gap D k : Int) (hg : gap = 1 ∨ gap = 2 ∨ gap = 3) (hD : 1 ≤ D) (hk : k < D) : cntF gap D k = 0 := by
  unfold cntF firstF
  rcases hg with rfl | rfl | rfl <;> (rw [if_pos]; omega)
theorem cnt_found (gap D k b : Int) (hg : gap = 1 ∨ gap = 2 ∨ gap = 3) (hD : 1 ≤ D) (hk : 0 ≤ k) (hb : 1 ≤ b) (h1 : cntF gap D k < b) (h2 : b ≤ cntF gap D (k + 1)) : k = firstF gap D + (b - 1) * gap := by
  unfold cntF firstF at *
  rcases hg with rfl | rfl | rfl <;> (split at h1 <;> split at h2 <;> omega)
theorem cnt_late (gap D b : Int) (hg : gap = 1 ∨ gap = 2 ∨ gap = 3) (hD : 1 ≤ D) (hD2 : D ≤ 21) (hb : b ≤ 20) : ¬ cntF gap D 200 < b := by
  unfold cntF firstF
  rcases hg with rfl | rfl | rfl <;> (split <;> omega)
def s0 (dir : Bool) : Int := if dir = true then 0 else 1
def vJ (dir : Bool) : Int := if dir = true then 0 else 1
structure JamAt (d b gap : Int) (dir : Bool) (k : Nat) (c : CS) : Prop where
  ok : c.Ok
  cd : c.d = d
  cb : c.b = b
  jo : c.jo = false
  jn : c.jn = false
  w : c.wrong = cntF gap (d + s0 dir) k
  t0 : k = 0 → c.told = false
  t1 : 0 < k → c.told = dir
  si : 0 < k ∨ dir = false → c.since = (k : Int) - 1 - s0 dir
  lt : cntF gap (d + s0 dir) k < b
theorem JamAt.since {d b gap : Int} {dir : Bool} {k : Nat} {c : CS} (h : JamAt d b gap dir k c) (hk : k < 900) : nSince c dir = (k : Int) - s0 dir := by
  unfold nSince
  by_cases h0 : k = 0
  · subst h0
    rw [h.t0 rfl]
    cases dir
    · rw [if_pos rfl, h.si (.inr rfl)]
      unfold mn s0
      simp
    · rw [if_neg (by decide)]
      simp [s0]
  · rw [h.t1 (by omega), if_pos rfl, h.si (.inl (by omega))]
    unfold mn s0
    split <;> split <;> omega
theorem JamAt.wrong0 {d b gap : Int} {dir : Bool} {k : Nat} {c : CS} (h : JamAt d b gap dir k c) (hg : gap = 1 ∨ gap = 2 ∨ gap = 3) (hd : 1 ≤ d) : nWrong0 c dir = cntF gap (d + s0 dir) k := by
  have hs : 0 ≤ s0 dir := by unfold s0; split <;> omega
  unfold nWrong0
  by_cases h0 : k = 0
  · subst h0
    rw [h.w, cnt_zero gap _ _ hg (by omega) (by omega)]
    split <;> rfl
  · rw [h.t1 (by omega), if_pos rfl, h.w]
theorem JamAt.wrong {d b gap : Int} {dir : Bool} {k : Nat} {c : CS} (h : JamAt d b gap dir k c) (hg : gap = 1 ∨ gap = 2 ∨ gap = 3) (hd : 1 ≤ d) (hk : k < 900) (hb : b ≤ 900) (fr : Bool) (hfr : fr = decide ((k : Int) % gap = 0)) : nWrong c dir (vJ dir) fr = cntF gap (d + s0 dir) ((k : Int) + 1) := by
  have hs : 0 ≤ s0 dir := by unfold s0; split <;> omega
  have hc := cnt_step gap (d + s0 dir) k hg (by omega) (by omega)
  have hlt := h.lt
  have hne : (decide (vJ dir = 1) != dir) = true := by cases dir <;> simp [vJ]
  unfold nWrong
  rw [h.since hk, h.wrong0 hg hd, h.cd, hc, hfr]
  by_cases hm : (k : Int) % gap = 0
  · rw [decide_eq_true hm, if_pos rfl]
    by_cases hD : d + s0 dir ≤ (k : Int)
    · rw [if_pos ⟨hne, by omega⟩, if_pos ⟨hm, hD⟩]
      unfold mn
      rw [if_neg (by omega)]
    · rw [if_neg (fun hh => hD (by have := hh.2; omega)), if_neg (fun hh => hD hh.2), cnt_zero gap _ _ hg (by omega) (by omega)]
  · rw [decide_eq_false hm, if_neg (by decide), if_neg (fun hh => hm hh.1)]
/-- Not yet. -/
theorem JamAt.next {d b gap : Int} {dir : Bool} {k : Nat} {c : CS} (h : JamAt d b gap dir k c) (hg : gap = 1 ∨ gap = 2 ∨ gap = 3) (hd : 1 ≤ d) (hk : k < 900) (hb : b ≤ 900) (fr : Bool) (hfr : fr = decide ((k : Int) % gap = 0)) (hn : cntF gap (d + s0 dir) ((k : Int) + 1) < b) : JamAt d b gap dir (k + 1) (c.step dir (vJ dir) fr) := by
  have hw := h.wrong hg hd hk hb fr hfr
  have hnn : ¬ c.b ≤ nWrong c dir (vJ dir) fr := by rw [hw, h.cb]; omega
  refine ⟨h.ok.step _ _ _, h.cd, h.cb, ?_, ?_, ?_, fun h0 => by omega, fun _ => rfl, fun _ => ?_, by rw [show (((k + 1 : Nat) : Int)) = (k : Int) + 1 by omega]; exact hn⟩
  · show (if c.b ≤ nWrong c dir (vJ dir) fr then c.jo || dir else c.jo) = false
    rw [if_neg hnn, h.jo]
  · show (if c.b ≤ nWrong c dir (vJ dir) fr then c.jn || !dir else c.jn) = false
    rw [if_neg hnn, h.jn]
  · show nWrong c dir (vJ dir) fr = _
    rw [hw, show (((k + 1 : Nat) : Int)) = (k : Int) + 1 by omega]
  · show nSince c dir = _
    rw [h.since hk]; omega
/-- Jammed, and nothing takes it back. -/
structure JamDone (d b : Int) (dir : Bool) (c : CS) : Prop where
  ok : c.Ok
  cd : c.d = d
  cb : c.b = b
  jo : c.jo = dir
  jn : c.jn = !dir
  t : c.told = dir
theorem JamAt.done {d b gap : Int} {dir : Bool} {k : Nat} {c : CS} (h : JamAt d b gap dir k c) (hg : gap = 1 ∨ gap = 2 ∨ gap = 3) (hd : 1 ≤ d) (hk : k < 900) (hb : b ≤ 900) (fr : Bool) (hfr : fr = decide ((k : Int) % gap = 0)) (hn : ¬ cntF gap (d + s0 dir) ((k : Int) + 1) < b) : JamDone d b dir (c.step dir (vJ dir) fr) := by
  have hw := h.wrong hg hd hk hb fr hfr
  have hnn : c.b ≤ nWrong c dir (vJ dir) fr := by rw [hw, h.cb]; omega
  refine ⟨h.ok.step _ _ _, h.cd, h.cb, ?_, ?_, rfl⟩
  · show (if c.b ≤ nWrong c dir (vJ dir) fr then c.jo || dir else c.jo) = dir
    rw [if_pos hnn, h.jo, Bool.false_or]
  · show (if c.b ≤ nWrong c dir (vJ dir) fr then c.jn || !dir else c.jn) = !dir
    rw [if_pos hnn, h.jn, Bool.false_or]
theorem JamDone.last {d b : Int} {dir : Bool} {c : CS} (h : JamDone d b dir c) (hd : 1 ≤ d) (hb : 1 ≤ b) : (c.step (!dir) (1 - vJ dir) true).jo = dir ∧ (c.step (!dir) (1 - vJ dir) true).jn = !dir := by
  have hs : nSince c (!dir) = 0 := by unfold nSince; rw [h.t, if_neg (by cases dir <;> decide)]
  have hw : nWrong c (!dir) (1 - vJ dir) true = 0 := by
    unfold nWrong
    rw [if_pos rfl, if_neg (by rw [hs, h.cd]; rintro ⟨_, h2⟩; omega)]
  have hnn : ¬ c.b ≤ nWrong c (!dir) (1 - vJ dir) true := by rw [hw, h.cb]; omega
  refine ⟨?_, ?_⟩
  · show (if c.b ≤ nWrong c (!dir) (1 - vJ dir) true then c.jo || !dir else c.jo) = dir
    rw [if_neg hnn, h.jo]
  · show (if c.b ≤ nWrong c (!dir) (1 - vJ dir) true then c.jn || !!dir else c.jn) = !dir
    rw [if_neg hnn, h.jn]
theorem JamAt.new (d b gap : Int) (dir : Bool) (hg : gap = 1 ∨ gap = 2 ∨ gap = 3) (hd : 1 ≤ d) (hd2 : d ≤ 1000) (hb : 1 ≤ b) (hb2 : b ≤ 1000) : JamAt d b gap dir 0 (CS.new d b) := by
  have hs : 0 ≤ s0 dir := by unfold s0; split <;> omega
  have hz : cntF gap (d + s0 dir) ((0 : Nat) : Int) = 0 := cnt_zero gap _ _ hg (by omega) (by omega)
  exact ⟨CS.new_ok d b, clamp_id d hd hd2, clamp_id b hb hb2, rfl, rfl, hz.symm, fun _ => rfl, fun h => by omega, fun h => by rcases h with h | h; omega; subst h; rfl, by rw [hz]; omega⟩
end Go.Proofs.Ytbamnfladjkkcaa.Con
