/- Where feedback is true, and a contactor follows within so many cycles, what is proved open is open, and one that follows is never jammed: the walk through the law's Go text, for all slices that can be read. -/
import Derived.Test.YtbamnfladjkkcaaConOpens
import Derived.Test.YtbamnfladjkkcaaRowWords
namespace Go.Proofs.Ytbamnfladjkkcaa.Con
open Go Go.RowKit Go.Proofs.YtbamnfladjkkcaaW.PrintWords Go.Proofs.YtbamnfladjkkcaaW.PrintLast Go.Proofs.YtbamnfladjkkcaaW.PrintMore
set_option linter.unusedVariables false
set_option linter.unusedSimpArgs false
def vOf (shut : Bool) : Int := if shut = true then 1 else 0
/-- A contactor that follows in time: never a wrong look. -/
structure Follows (d : Int) (told shut : Bool) (left : Int) (c : CS) : Prop where
  ok : c.Ok
  b1 : 1 ≤ c.b
  cd : c.d = d
  w : c.wrong = 0
  jo : c.jo = false
  jn : c.jn = false
  l0 : 0 ≤ left
  l1 : left ≤ d
  key : shut ≠ told → nSince c told + left ≤ d - 1
/-- The same right behind a step. -/
structure Stepped (d : Int) (told shut : Bool) (left : Int) (c : CS) : Prop where
  ok : c.Ok
  b1 : 1 ≤ c.b
  cd : c.d = d
  w : c.wrong = 0
  jo : c.jo = false
  jn : c.jn = false
  l0 : 0 ≤ left
  l1 : left ≤ d
  t : c.told = told
  v : c.v = vOf shut
  key : shut ≠ told → c.since + left ≤ d - 1
theorem Follows.step {d : Int} {told shut : Bool} {left : Int} {c : CS} (h : Follows d told shut left c) (fresh : Bool) : Stepped d told shut left (c.step told (vOf shut) fresh) := by
  have h0 : nWrong0 c told = 0 := by unfold nWrong0; rw [h.w]; split <;> rfl
  have hw : nWrong c told (vOf shut) fresh = 0 := by
    unfold nWrong
    split
    · rw [if_neg]
      rintro ⟨h1, h2⟩
      have hne : shut ≠ told := by
        rintro rfl
        cases shut <;> simp [vOf] at h1
      have := h.key hne
      have := h.l0
      rw [h.cd] at h2
      omega
    · exact h0
  have hn : ¬ c.b ≤ nWrong c told (vOf shut) fresh := by rw [hw]; have := h.b1; omega
  exact ⟨h.ok.step _ _ _, h.b1, h.cd, hw, by show (if c.b ≤ nWrong c told (vOf shut) fresh then c.jo || told else c.jo) = false; rw [if_neg hn, h.jo], by show (if c.b ≤ nWrong c told (vOf shut) fresh then c.jn || !told else c.jn) = false; rw [if_neg hn, h.jn], h.l0, h.l1, rfl, rfl, h.key⟩
theorem Stepped.shut_open {d : Int} {told : Bool} {left : Int} {c : CS} (h : Stepped d told true left c) : c.isOpen = false := by
  unfold CS.isOpen; rw [h.v]; simp [vOf]
/-- Told otherwise, and not there yet. -/
theorem Stepped.turn {d : Int} {told shut : Bool} {left : Int} {c : CS} (h : Stepped d told shut left c) (x : Bool) (hx : x ≠ told) (n : Int) (hn0 : 0 < n) (hn : n ≤ d) : Follows d x shut (n - 1) c :=
  ⟨h.ok, h.b1, h.cd, h.w, h.jo, h.jn, by omega, by omega, fun _ => by
    have : nSince c x = 0 := by unfold nSince; rw [if_neg (by rw [h.t]; exact hx)]
    rw [this]; omega⟩
/-- There at once. -/
theorem Stepped.there {d : Int} {told shut : Bool} {left : Int} {c : CS} (h : Stepped d told shut left c) (x : Bool) (hd : 0 ≤ d) : Follows d x x 0 c :=
  ⟨h.ok, h.b1, h.cd, h.w, h.jo, h.jn, by omega, hd, fun hh => absurd rfl hh⟩
theorem Stepped.wait {d : Int} {told shut : Bool} {left : Int} {c : CS} (h : Stepped d told shut left c) (hn0 : 0 < left) : Follows d told shut (left - 1) c :=
  ⟨h.ok, h.b1, h.cd, h.w, h.jo, h.jn, by omega, by have := h.l1; omega, fun hh => by
    have h1 := h.key hh
    have : nSince c told ≤ c.since + 1 := by unfold nSince mn; rw [if_pos h.t.symm]; split <;> omega
    omega⟩
theorem Follows.new (d b : Int) (hd : 1 ≤ d) (hd2 : d ≤ 1000) : Follows d false false 0 (CS.new d b) :=
  ⟨CS.new_ok d b, clamp_lo b, clamp_id d hd hd2, rfl, rfl, rfl, by decide, by omega, fun h => absurd rfl h⟩
set_option maxHeartbeats 8000000 in
set_option maxRecDepth 100000 in
theorem proves_calls (a b : Int) (A : Option Addr) (c : Nat) (l : List Bool) (B : Option Addr) (d : Nat) (q : List Int) (D : Option Addr) (f : Nat) (p : List Bool) (w : World) (_ : (Lit.int .i64 a).wf = true) (_ : (Lit.int .i64 b).wf = true)
    (hr : RowW.RdB w A l) (hc : l.length ≤ c) (hm : c ≤ maxLen) (hq : RowW.RdI .i64 w B q) (hd : q.length ≤ d) (hm2 : d ≤ maxLen) (_ : ∀ n ∈ q, (Lit.int .i64 n).wf = true) (hp : RowW.RdB w D p) (hf : p.length ≤ f) (hm3 : f ≤ maxLen) :
    Calls Try.prog 4 #[.int .i64 a, .int .i64 b, .slice A l.length c, .slice B q.length d, .slice D p.length f] w fun e w' => e = .returned (.bool true) ∧ Below w.heap.size w w' := by
  have HR := Aside0.mk hr
  have HQ := Aside0.mk hq
  have HP := Aside0.mk hp
  have HB := Aside0.mk (Below.refl w.heap.size w)
  have hu := Try.underlying36
  clear hr hq hp
  by_cases hl : l.length > 120
  · have hl1 : decide (120 < (l.length : Int)) = true := decide_eq_true (by omega)
    have hl2 : decide (120 < l.length) = true := decide_eq_true (by omega)
    go_enter Try.func4, Try.ntmps4
    go_wp2_with fail
    refine (first_c _).mono ?_
    rintro e w1 ⟨rfl, hb⟩
    have B1 := Aside0.mk hb
    clear hb
    go_wp2_with fail
    go_ret
    exact ⟨rfl, B1.out⟩
  · have hl1 : decide (120 < (l.length : Int)) = false := decide_eq_false (by omega)
    have hl2 : decide (120 < l.length) = false := decide_eq_false (by omega)
    by_cases hql : q.length < l.length
    · have hq1 : decide ((q.length : Int) < (l.length : Int)) = true := decide_eq_true (by omega)
      have hq2 : decide (q.length < l.length) = true := decide_eq_true (by omega)
      go_enter Try.func4, Try.ntmps4
      go_wp2_with fail
      refine (first_c _).mono ?_
      rintro e w1 ⟨rfl, hb⟩
      have B1 := Aside0.mk hb
      clear hb
      go_wp2_with fail
      go_ret
      exact ⟨rfl, B1.out⟩
    · have hq1 : decide ((q.length : Int) < (l.length : Int)) = false := decide_eq_false (by omega)
      have hq2 : decide (q.length < l.length) = false := decide_eq_false (by omega)
      by_cases hpl : p.length < l.length
      · have hp1 : decide ((p.length : Int) < (l.length : Int)) = true := decide_eq_true (by omega)
        have hp2 : decide (p.length < l.length) = true := decide_eq_true (by omega)
        go_enter Try.func4, Try.ntmps4
        go_wp2_with fail
        refine (first_c _).mono ?_
        rintro e w1 ⟨rfl, hb⟩
        have B1 := Aside0.mk hb
        clear hb
        go_wp2_with fail
        go_ret
        exact ⟨rfl, B1.out⟩
      · have hp1 : decide ((p.length : Int) < (l.length : Int)) = false := decide_eq_false (by omega)
        have hp2 : decide (p.length < l.length) = false := decide_eq_false (by omega)
        go_enter Try.func4, Try.ntmps4
        go_wp2_with fail
        refine (first_c _).mono ?_
        rintro e w1 ⟨rfl, hb⟩
        have B1 := Aside0.mk hb
        clear hb
        go_wp2_with fail
        obtain ⟨i, hi0, hi1, hcc⟩ := number_c a 9 w1 (by decide) (by decide)
        refine hcc.mono ?_
        clear hcc
        rintro e w1' ⟨rfl, rfl⟩
        go_wp2_with fail
        obtain ⟨j, hj0, hj1, hcc⟩ := number_c b 5 w1 (by decide) (by decide)
        refine hcc.mono ?_
        clear hcc
        rintro e w1' ⟨rfl, rfl⟩
        go_wp2_with fail
        with_reducible refine (newk_c (i + 1) (j + 1) w _ B1.out).mono ?_
        rintro e w2 ⟨g, rfl, hcc, hb, _, _⟩
        have C2 := Aside0.mk hcc
        have B2 := Aside0.mk hb
        clear hcc hb B1
        have F2 := Aside0.mk (Follows.new (i + 1) (j + 1) (by omega) (by omega))
        generalize CS.new (i + 1) (j + 1) = c2 at C2 F2
        go_wp2_with fail
        go_loopw [13, 14, 15, 16, 17, 18, 19] (fun sh tl lf v _ _ _ wr => ∃ (k : Nat) (c : CS) (shut told : Bool) (left : Int), k ≤ l.length ∧ v = .int .i64 k ∧ sh = .bool shut ∧ tl = .bool told ∧ lf = .int .i64 left ∧ Aside0 (Follows (i + 1) told shut left c) ∧ Aside0 (Con w wr g c) ∧ Aside0 (Below w.heap.size w wr)) (fun _ _ _ v _ _ _ _ => l.length - (intOf v).toNat)
        case atStart => exact ⟨0, c2, false, false, 0, Nat.zero_le _, rfl, rfl, rfl, rfl, F2, C2, B2⟩
        case round =>
          obtain ⟨k, cc, shut, told, left, hk, rfl, rfl, rfl, rfl, HF, HC, HBr⟩ := hrel
          by_cases hlt : k < l.length
          · have hlt1 : decide ((k : Int) < (l.length : Int)) = true := decide_eq_true (by omega)
            obtain ⟨ad, e, hx⟩ := HR.out k hlt
            cases e
            generalize hX : l.getD k false = x at hx
            clear hX
            have HX := Aside0.mk hx
            clear hx
            obtain ⟨qd, e, hy⟩ := HQ.out k (by omega)
            cases e
            generalize hY : q.getD k 0 = y at hy
            clear hY
            have HY := Aside0.mk hy
            clear hy
            obtain ⟨pd, e, hz⟩ := HP.out k (by omega)
            cases e
            generalize hZ : p.getD k false = z at hz
            clear hZ
            have HZ := Aside0.mk hz
            clear hz
            have hkq : decide ((k : Int) < (q.length : Int)) = true := decide_eq_true (by omega)
            have hkp : decide ((k : Int) < (p.length : Int)) = true := decide_eq_true (by omega)
            have hz1 := (HBr.out.cell (World.block_lt_of_cell? w _ HZ.out)).trans HZ.out
            have hl0 := HF.out.l0
            have hl9 := HF.out.l1
            cases shut
            · have B5 : Aside0 (Below w.heap.size w (wr.alloc (.cells #[.int .i64 0, .bool !z] 36))) := ⟨below_step HBr.out (below_alloc (Below.refl _ _) _)⟩
              have C5 : Aside0 (Con w (wr.alloc (.cells #[.int .i64 0, .bool !z] 36)) g cc) := ⟨IsS80.alloc HC.out _⟩
              go_wp2_with fail
              with_reducible refine (stepk_c g cc told 0 (!z) w _ C5.out B5.out HF.out.ok).mono ?_
              rintro e w4 ⟨rfl, hc4, hb4, _⟩
              have C6 := Aside0.mk hc4
              have B6 := Aside0.mk hb4
              clear hc4 hb4 C5 B5 hz1
              have F6 : Aside0 (Stepped (i + 1) told false left (cc.step told 0 (!z))) := ⟨HF.out.step (!z)⟩
              generalize cc.step told 0 (!z) = c6 at C6 F6
              go_wp2_with fail
              with_reducible refine (open_c g c6 w _ C6.out B6.out).mono ?_
              rintro e w7 ⟨rfl, hc4, hb4, _⟩
              have C7 := Aside0.mk hc4
              have B7 := Aside0.mk hb4
              clear hc4 hb4 C6 B6
              generalize c6.isOpen = oo
              cases oo
              all_goals
                go_wp2_with fail
                with_reducible refine (jam_c g c6 w _ C7.out B7.out).mono ?_
                rintro e w8 ⟨rfl, hc4, hb4, _⟩
                rw [F6.out.jo, F6.out.jn]
                have C8 := Aside0.mk hc4
                have B8 := Aside0.mk hb4
                clear hc4 hb4 C7 B7
                have hx1 := (B8.out.cell (World.block_lt_of_cell? w _ HX.out)).trans HX.out
                have hy1 := (B8.out.cell (World.block_lt_of_cell? w _ HY.out)).trans HY.out
                by_cases hxt : x = told
                · subst hxt
                  by_cases hgt : 0 < left
                  · have hgt1 : decide (0 < left) = true := decide_eq_true hgt
                    have F9 := Aside0.mk (F6.out.wait hgt)
                    cases x
                    all_goals
                      go_wp2_with fail
                      go_roundw
                      case rel => exact ⟨k + 1, c6, false, _, left - 1, by omega, by go_num, rfl, rfl, by first | rfl | (simp; done) | (simp; omega), F9, C8, B8⟩
                      case measure => simp [intOf]; omega
                  · have hgt1 : decide (0 < left) = false := decide_eq_false hgt
                    obtain rfl : left = 0 := by omega
                    have F9 := Aside0.mk (F6.out.there x (by omega))
                    cases x
                    all_goals
                      go_wp2_with fail
                      go_roundw
                      case rel => exact ⟨k + 1, c6, _, _, 0, by omega, by go_num, rfl, rfl, by first | rfl | (simp; done) | (simp; omega), F9, C8, B8⟩
                      case measure => simp [intOf]; omega
                · obtain ⟨n, hn0, hn1, hcc⟩ := number_c y (i + 1 + 1) w8 (by omega) (by omega)
                  have HCC := Aside0.mk hcc
                  clear hcc
                  by_cases hgt : 0 < n
                  · have hgt1 : decide (0 < n) = true := decide_eq_true hgt
                    have F9 := Aside0.mk (F6.out.turn x hxt n hgt (by omega))
                    cases x <;> cases told <;> first | (exact absurd rfl hxt) | clear hxt
                    all_goals
                      go_wp2_with fail
                      refine HCC.out.mono ?_
                      rintro e w8' ⟨rfl, rfl⟩
                      go_wp2_with fail
                      go_roundw
                      case rel => exact ⟨k + 1, c6, false, _, n - 1, by omega, by go_num, rfl, rfl, by first | rfl | (simp; done) | (simp; omega), F9, C8, B8⟩
                      case measure => simp [intOf]; omega
                  · have hgt1 : decide (0 < n) = false := decide_eq_false hgt
                    obtain rfl : n = 0 := by omega
                    have F9 := Aside0.mk (F6.out.there x (by omega))
                    cases x <;> cases told <;> first | (exact absurd rfl hxt) | clear hxt
                    all_goals
                      go_wp2_with fail
                      refine HCC.out.mono ?_
                      rintro e w8' ⟨rfl, rfl⟩
                      go_wp2_with fail
                      go_roundw
                      case rel => exact ⟨k + 1, c6, _, _, 0, by omega, by go_num, rfl, rfl, by first | rfl | (simp; done) | (simp; omega), F9, C8, B8⟩
                      case measure => simp [intOf]; omega
            · have B5 : Aside0 (Below w.heap.size w (wr.alloc (.cells #[.int .i64 1, .bool !z] 36))) := ⟨below_step HBr.out (below_alloc (Below.refl _ _) _)⟩
              have C5 : Aside0 (Con w (wr.alloc (.cells #[.int .i64 1, .bool !z] 36)) g cc) := ⟨IsS80.alloc HC.out _⟩
              go_wp2_with fail
              with_reducible refine (stepk_c g cc told 1 (!z) w _ C5.out B5.out HF.out.ok).mono ?_
              rintro e w4 ⟨rfl, hc4, hb4, _⟩
              have C6 := Aside0.mk hc4
              have B6 := Aside0.mk hb4
              clear hc4 hb4 C5 B5 hz1
              have F6 : Aside0 (Stepped (i + 1) told true left (cc.step told 1 (!z))) := ⟨HF.out.step (!z)⟩
              generalize cc.step told 1 (!z) = c6 at C6 F6
              go_wp2_with fail
              with_reducible refine (open_c g c6 w _ C6.out B6.out).mono ?_
              rintro e w7 ⟨rfl, hc4, hb4, _⟩
              have C7 := Aside0.mk hc4
              have B7 := Aside0.mk hb4
              clear hc4 hb4 C6 B6
              rw [F6.out.shut_open]
              go_wp2_with fail
              with_reducible refine (jam_c g c6 w _ C7.out B7.out).mono ?_
              rintro e w8 ⟨rfl, hc4, hb4, _⟩
              rw [F6.out.jo, F6.out.jn]
              have C8 := Aside0.mk hc4
              have B8 := Aside0.mk hb4
              clear hc4 hb4 C7 B7
              have hx1 := (B8.out.cell (World.block_lt_of_cell? w _ HX.out)).trans HX.out
              have hy1 := (B8.out.cell (World.block_lt_of_cell? w _ HY.out)).trans HY.out
              by_cases hxt : x = told
              · subst hxt
                by_cases hgt : 0 < left
                · have hgt1 : decide (0 < left) = true := decide_eq_true hgt
                  have F9 := Aside0.mk (F6.out.wait hgt)
                  cases x
                  all_goals
                    go_wp2_with fail
                    go_roundw
                    case rel => exact ⟨k + 1, c6, true, _, left - 1, by omega, by go_num, rfl, rfl, by first | rfl | (simp; done) | (simp; omega), F9, C8, B8⟩
                    case measure => simp [intOf]; omega
                · have hgt1 : decide (0 < left) = false := decide_eq_false hgt
                  obtain rfl : left = 0 := by omega
                  have F9 := Aside0.mk (F6.out.there x (by omega))
                  cases x
                  all_goals
                    go_wp2_with fail
                    go_roundw
                    case rel => exact ⟨k + 1, c6, _, _, 0, by omega, by go_num, rfl, rfl, by first | rfl | (simp; done) | (simp; omega), F9, C8, B8⟩
                    case measure => simp [intOf]; omega
              · obtain ⟨n, hn0, hn1, hcc⟩ := number_c y (i + 1 + 1) w8 (by omega) (by omega)
                have HCC := Aside0.mk hcc
                clear hcc
                by_cases hgt : 0 < n
                · have hgt1 : decide (0 < n) = true := decide_eq_true hgt
                  have F9 := Aside0.mk (F6.out.turn x hxt n hgt (by omega))
                  cases x <;> cases told <;> first | (exact absurd rfl hxt) | clear hxt
                  all_goals
                    go_wp2_with fail
                    refine HCC.out.mono ?_
                    rintro e w8' ⟨rfl, rfl⟩
                    go_wp2_with fail
                    go_roundw
                    case rel => exact ⟨k + 1, c6, true, _, n - 1, by omega, by go_num, rfl, rfl, by first | rfl | (simp; done) | (simp; omega), F9, C8, B8⟩
                    case measure => simp [intOf]; omega
                · have hgt1 : decide (0 < n) = false := decide_eq_false hgt
                  obtain rfl : n = 0 := by omega
                  have F9 := Aside0.mk (F6.out.there x (by omega))
                  cases x <;> cases told <;> first | (exact absurd rfl hxt) | clear hxt
                  all_goals
                    go_wp2_with fail
                    refine HCC.out.mono ?_
                    rintro e w8' ⟨rfl, rfl⟩
                    go_wp2_with fail
                    go_roundw
                    case rel => exact ⟨k + 1, c6, _, _, 0, by omega, by go_num, rfl, rfl, by first | rfl | (simp; done) | (simp; omega), F9, C8, B8⟩
                    case measure => simp [intOf]; omega
          · go_wp2_with fail
            go_ret
            exact ⟨rfl, HBr.out⟩
end Go.Proofs.Ytbamnfladjkkcaa.Con
