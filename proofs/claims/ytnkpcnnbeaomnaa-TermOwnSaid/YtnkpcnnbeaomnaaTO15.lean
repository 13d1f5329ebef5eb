import Derived.Test.YtnkpcnnbeaomnaaTO6
import Derived.Test.YtnkpcnnbeaomnaaTO14
import Derived.Test.YtnkpcnnbeaomnaaTO13

section
-- Written by a program of this session (a scratch print over hand-made contracts), out of the translation. Not trusted: Lean checks it.
namespace Go.Proofs.Ytnkpcnnbeaomnaa.C
open Go.RowKit Go.Proofs.YtnkpcnnbeaomnaaW.PrintWords Go.Proofs.YtnkpcnnbeaomnaaW.PrintLast Go.Proofs.YtnkpcnnbeaomnaaW.PrintMore
attribute [local go_sem] max2_int min2_int max_two min_two max_three min_three max_four min_four   -- for this text's walks alone
set_option linter.unusedVariables false
set_option linter.unusedSimpArgs false

/-! ### aumbryref04_Check: function 45 -/
def aumbryref04_Check.l0 : Nat → List (S28) → Int → Int → Option (Int)
  | 0, _, _, _ => none
  | k + 1, x0, x9, x10 => if x10 < x9 then (if 0 ≤ x10 then (if x10 < (x0.length : Int) then ((aumbryref03_Kind.f k ((rd_T28 x0 x10).f0)).bind fun t322 => (if t322 = 0 then (some 4) else (if ((rd_T28 x0 x10).f1) < 0 then (some 5) else (if ((rd_T28 x0 x10).f1) > 4 then (some 5) else (if t322 = 2 then (if ((rd_T28 x0 x10).f1) = 0 then (aumbryref04_Check.l0 k x0 x9 (wrap64 (x10 + 1))) else (some 5)) else (aumbryref04_Check.l0 k x0 x9 (wrap64 (x10 + 1)))))))) else (none)) else (none)) else ((aumbryref04_Behind.f k x0 0).bind fun t320 => (if t320 = (x0.length : Int) then (some 0) else (some 3)))
def aumbryref04_Check.f (k : Nat) (l0 : List (S28)) : Option (Int) := if (l0.length : Int) > 64 then (some 6) else (aumbryref04_Check.l0 k l0 (l0.length : Int) 0)
theorem aumbryref04_Check.mono_l : ∀ k, (∀ y0 y1 y2, LeO (aumbryref04_Check.l0 k y0 y1 y2) (aumbryref04_Check.l0 (k + 1) y0 y1 y2))
  | 0 => fun _ _ _ r h => by simp [aumbryref04_Check.l0] at h
  | k + 1 => by
    have ih0 := aumbryref04_Check.mono_l k
    · intro y0 y1 y2
      unfold aumbryref04_Check.l0
      repeat' first
      | (with_reducible exact ih0 _ _ _)
      | (with_reducible exact aumbryref03_Kind.mono _ _)
      | (with_reducible exact aumbryref04_Behind.mono _ _ _)
      | (with_reducible exact LeO.refl _)
      | (with_reducible exact LeO.none _)
      | (with_reducible refine LeO.ite ?_ ?_)
      | (with_reducible refine LeO.bind ?_ (fun _ => ?_))
      | exact ih0 _ _ _
      | exact aumbryref03_Kind.mono _ _
      | exact aumbryref04_Behind.mono _ _ _
      | exact LeO.none _
      | refine LeO.ite ?_ ?_
      | refine LeO.bind ?_ (fun _ => ?_)
theorem aumbryref04_Check.mono : ∀ a0 k, LeO (aumbryref04_Check.f k a0) (aumbryref04_Check.f (k + 1) a0) := by
  intro a0 k
  have ih0 := aumbryref04_Check.mono_l k
  unfold aumbryref04_Check.f
  repeat' first
      | (with_reducible exact ih0 _ _ _)
      | (with_reducible exact aumbryref03_Kind.mono _ _)
      | (with_reducible exact aumbryref04_Behind.mono _ _ _)
      | (with_reducible exact LeO.refl _)
      | (with_reducible exact LeO.none _)
      | (with_reducible refine LeO.ite ?_ ?_)
      | (with_reducible refine LeO.bind ?_ (fun _ => ?_))
      | exact ih0 _ _ _
      | exact aumbryref03_Kind.mono _ _
      | exact aumbryref04_Behind.mono _ _ _
      | exact LeO.none _
      | refine LeO.ite ?_ ?_
      | refine LeO.bind ?_ (fun _ => ?_)
set_option maxHeartbeats 8000000 in
set_option maxRecDepth 100000 in
theorem aumbryref04_Check.calls (k : Nat) (A0 : Option Addr) (c0 : Nat) (l0 : List (S28)) (r : Int) (w : World) (hr0 : Kd.C k28 w A0 l0.length l0) (hc0 : l0.length ≤ c0) (h : aumbryref04_Check.f k l0 = some r) :
    Calls Try.prog 45 #[.slice A0 l0.length c0] w fun e w' => e = .returned (.int .i64 r) ∧ Drawn0 w w' := by
  have HR0 := Aside0.mk hr0
  have HC0 := Aside0.mk hc0
  clear hr0 hc0
  have H : (if (l0.length : Int) > 64 then (some 6) else (aumbryref04_Check.l0 k l0 (l0.length : Int) 0)) = some r := h
  clear h
  by_cases c2 : (l0.length : Int) > 64
  · rw [if_pos c2] at H
    have c2b0 : decide (64 < (l0.length : Int)) = true := decide_eq_true c2
    have c2b1 : decide (64 < l0.length) = true := decide_eq_true (by omega)
    clear c2
    obtain rfl := Option.some.inj H
    go_enter Try.func45, Try.ntmps45
    go_wp2
    go_ret
    exact ⟨by first | rfl | (simp; done) | (simp [*]; done), by repeat (first | exact Drawn0.refl _ | apply Drawn0.step)⟩
  · rw [if_neg c2] at H
    have c2b0 : decide (64 < (l0.length : Int)) = false := decide_eq_false c2
    have c2b1 : decide (64 < l0.length) = false := decide_eq_false (by omega)
    clear c2
    have H' := Aside0.mk H
    clear H
    go_enter Try.func45, Try.ntmps45
    go_wp2
    go_loopg [10] k (fun kq v10 w' => ∃ (x10_1 : Int), v10 = .int .i64 x10_1 ∧ Aside0 (aumbryref04_Check.l0 kq l0 (l0.length : Int) x10_1 = some r) ∧ Aside0 (kq ≤ k) ∧ Drawn0 w w')
    case atStart => exact ⟨(0), (by first | rfl | (simp; done) | (simp [*]; done)), H', ⟨Nat.le_refl _⟩, by repeat (first | exact Drawn0.refl _ | apply Drawn0.step)⟩
    case round =>
      clear H'
      try clear c2
      try clear c2b0
      try clear c2b1
      try clear p2
      obtain ⟨x10_1, rfl, HA, HK1, ⟨m1, rfl⟩⟩ := hrel
      cases gk with
      | zero => exact absurd HA.out (by simp [aumbryref04_Check.l0])
      | succ k1 =>
        have H := HA.out
        clear HA
        simp only [aumbryref04_Check.l0] at H
        by_cases c3 : x10_1 < (l0.length : Int)
        · rw [if_pos c3] at H
          have c3b0 : decide (x10_1 < (l0.length : Int)) = true := decide_eq_true c3
          clear c3
          by_cases c4 : 0 ≤ x10_1
          · rw [if_pos c4] at H
            have c4b0 : decide (0 ≤ x10_1) = true := decide_eq_true c4
            clear c4
            by_cases c5 : x10_1 < (l0.length : Int)
            · rw [if_pos c5] at H
              have c5b0 : decide (x10_1 < (l0.length : Int)) = true := decide_eq_true c5
              clear c5
              replace H := Option.bind_eq_some_iff.mp H
              obtain ⟨t322, A60, H⟩ := H
              replace H : (if t322 = 0 then (some 4) else (if ((rd_T28 l0 x10_1).f1) < 0 then (some 5) else (if ((rd_T28 l0 x10_1).f1) > 4 then (some 5) else (if t322 = 2 then (if ((rd_T28 l0 x10_1).f1) = 0 then (aumbryref04_Check.l0 k1 l0 (l0.length : Int) (wrap64 (x10_1 + 1))) else (some 5)) else (aumbryref04_Check.l0 k1 l0 (l0.length : Int) (wrap64 (x10_1 + 1))))))) = some r := H
              have A6 := Aside0.mk A60
              clear A60
              by_cases c7 : t322 = 0
              · rw [if_pos c7] at H
                have c7b0 : (t322 == 0) = true := beq_iff_eq.mpr c7
                have c7b1 : (t322 != 0) = false := bne_eq_false_iff_eq.mpr c7
                clear c7
                obtain rfl := Option.some.inj H
                have p321 : 0 ≤ (x10_1 : Int) := of_decide_eq_true (by first | (with_reducible assumption) | assumption)
                have q321 : x10_1 < (l0.length : Int) := of_decide_eq_true (by first | (with_reducible assumption) | assumption)
                obtain ⟨ad321, e321, hx321_0, hx321_1⟩ := at_T28 HR0.out x10_1 p321 q321
                cases e321
                replace p321 := eq_true p321
                replace q321 := eq_true q321
                go_wp2_with (first | ((with_reducible refine gate_callee (f := 51) rfl ?_); refine goesL_ (some 18) rfl rfl Try.func51 (by kernel_rfl) rfl #[.string ((rd_T28 l0 x10_1).f0)] rfl (by (try simp only [List.map_toArray, List.map_cons, List.map_nil]); first | done | rfl | (simp only [List.length_drop, List.length_take]; rfl)) ?_; (with_reducible refine (aumbryref03_Kind.calls k1 ((rd_T28 l0 x10_1).f0) t322 _ A6.out).mono ?_); rintro e w' ⟨rfl, ⟨nd, rfl⟩⟩; refine ⟨_, rfl, ?_⟩))
                go_ret
                exact ⟨by first | rfl | (simp; done) | (simp [*]; done), by repeat (first | exact Drawn0.refl _ | apply Drawn0.step)⟩
              · rw [if_neg c7] at H
                have c7b0 : (t322 == 0) = false := beq_eq_false_iff_ne.mpr c7
                have c7b1 : (t322 != 0) = true := bne_iff_ne.mpr c7
                by_cases c8 : ((rd_T28 l0 x10_1).f1) < 0
                · rw [if_pos c8] at H
                  have c8b0 : decide (((rd_T28 l0 x10_1).f1) < 0) = true := decide_eq_true c8
                  clear c8
                  obtain rfl := Option.some.inj H
                  have p321 : 0 ≤ (x10_1 : Int) := of_decide_eq_true (by first | (with_reducible assumption) | assumption)
                  have q321 : x10_1 < (l0.length : Int) := of_decide_eq_true (by first | (with_reducible assumption) | assumption)
                  obtain ⟨ad321, e321, hx321_0, hx321_1⟩ := at_T28 HR0.out x10_1 p321 q321
                  cases e321
                  replace p321 := eq_true p321
                  replace q321 := eq_true q321
                  go_wp2_with (first | ((with_reducible refine gate_callee (f := 51) rfl ?_); refine goesL_ (some 18) rfl rfl Try.func51 (by kernel_rfl) rfl #[.string ((rd_T28 l0 x10_1).f0)] rfl (by (try simp only [List.map_toArray, List.map_cons, List.map_nil]); first | done | rfl | (simp only [List.length_drop, List.length_take]; rfl)) ?_; (with_reducible refine (aumbryref03_Kind.calls k1 ((rd_T28 l0 x10_1).f0) t322 _ A6.out).mono ?_); rintro e w' ⟨rfl, ⟨nd, rfl⟩⟩; refine ⟨_, rfl, ?_⟩; have p323 : 0 ≤ (x10_1 : Int) := of_decide_eq_true (by first | (with_reducible assumption) | assumption); have q323 : x10_1 < (l0.length : Int) := of_decide_eq_true (by first | (with_reducible assumption) | assumption); obtain ⟨ad323, e323, hx323_0, hx323_1⟩ := at_T28 HR0.out x10_1 p323 q323; obtain rfl : ad321 = ad323 := (by injection e323); replace p323 := eq_true p323; replace q323 := eq_true q323))
                  go_ret
                  exact ⟨by first | rfl | (simp; done) | (simp [*]; done), by repeat (first | exact Drawn0.refl _ | apply Drawn0.step)⟩
                · rw [if_neg c8] at H
                  have c8b0 : decide (((rd_T28 l0 x10_1).f1) < 0) = false := decide_eq_false c8
                  clear c8
                  by_cases c9 : ((rd_T28 l0 x10_1).f1) > 4
                  · rw [if_pos c9] at H
                    have c9b0 : decide (4 < ((rd_T28 l0 x10_1).f1)) = true := decide_eq_true c9
                    clear c9
                    obtain rfl := Option.some.inj H
                    have p321 : 0 ≤ (x10_1 : Int) := of_decide_eq_true (by first | (with_reducible assumption) | assumption)
                    have q321 : x10_1 < (l0.length : Int) := of_decide_eq_true (by first | (with_reducible assumption) | assumption)
                    obtain ⟨ad321, e321, hx321_0, hx321_1⟩ := at_T28 HR0.out x10_1 p321 q321
                    cases e321
                    replace p321 := eq_true p321
                    replace q321 := eq_true q321
                    go_wp2_with (first | ((with_reducible refine gate_callee (f := 51) rfl ?_); refine goesL_ (some 18) rfl rfl Try.func51 (by kernel_rfl) rfl #[.string ((rd_T28 l0 x10_1).f0)] rfl (by (try simp only [List.map_toArray, List.map_cons, List.map_nil]); first | done | rfl | (simp only [List.length_drop, List.length_take]; rfl)) ?_; (with_reducible refine (aumbryref03_Kind.calls k1 ((rd_T28 l0 x10_1).f0) t322 _ A6.out).mono ?_); rintro e w' ⟨rfl, ⟨nd, rfl⟩⟩; refine ⟨_, rfl, ?_⟩; have p323 : 0 ≤ (x10_1 : Int) := of_decide_eq_true (by first | (with_reducible assumption) | assumption); have q323 : x10_1 < (l0.length : Int) := of_decide_eq_true (by first | (with_reducible assumption) | assumption); obtain ⟨ad323, e323, hx323_0, hx323_1⟩ := at_T28 HR0.out x10_1 p323 q323; obtain rfl : ad321 = ad323 := (by injection e323); replace p323 := eq_true p323; replace q323 := eq_true q323; have p324 : 0 ≤ (x10_1 : Int) := of_decide_eq_true (by first | (with_reducible assumption) | assumption); have q324 : x10_1 < (l0.length : Int) := of_decide_eq_true (by first | (with_reducible assumption) | assumption); obtain ⟨ad324, e324, hx324_0, hx324_1⟩ := at_T28 HR0.out x10_1 p324 q324; obtain rfl : ad321 = ad324 := (by injection e324); replace p324 := eq_true p324; replace q324 := eq_true q324))
                    go_ret
                    exact ⟨by first | rfl | (simp; done) | (simp [*]; done), by repeat (first | exact Drawn0.refl _ | apply Drawn0.step)⟩
                  · rw [if_neg c9] at H
                    have c9b0 : decide (4 < ((rd_T28 l0 x10_1).f1)) = false := decide_eq_false c9
                    clear c9
                    by_cases c10 : t322 = 2
                    · rw [if_pos c10] at H
                      have c10b0 : (t322 == 2) = true := beq_iff_eq.mpr c10
                      have c10b1 : (t322 != 2) = false := bne_eq_false_iff_eq.mpr c10
                      clear c10
                      by_cases c11 : ((rd_T28 l0 x10_1).f1) = 0
                      · rw [if_pos c11] at H
                        have c11b0 : (((rd_T28 l0 x10_1).f1) == 0) = true := beq_iff_eq.mpr c11
                        have c11b1 : (((rd_T28 l0 x10_1).f1) != 0) = false := bne_eq_false_iff_eq.mpr c11
                        clear c11
                        have H' := Aside0.mk H
                        clear H
                        have p321 : 0 ≤ (x10_1 : Int) := of_decide_eq_true (by first | (with_reducible assumption) | assumption)
                        have q321 : x10_1 < (l0.length : Int) := of_decide_eq_true (by first | (with_reducible assumption) | assumption)
                        obtain ⟨ad321, e321, hx321_0, hx321_1⟩ := at_T28 HR0.out x10_1 p321 q321
                        cases e321
                        replace p321 := eq_true p321
                        replace q321 := eq_true q321
                        go_wp2_with (first | ((with_reducible refine gate_callee (f := 51) rfl ?_); refine goesL_ (some 18) rfl rfl Try.func51 (by kernel_rfl) rfl #[.string ((rd_T28 l0 x10_1).f0)] rfl (by (try simp only [List.map_toArray, List.map_cons, List.map_nil]); first | done | rfl | (simp only [List.length_drop, List.length_take]; rfl)) ?_; (with_reducible refine (aumbryref03_Kind.calls k1 ((rd_T28 l0 x10_1).f0) t322 _ A6.out).mono ?_); rintro e w' ⟨rfl, ⟨nd, rfl⟩⟩; refine ⟨_, rfl, ?_⟩; have p323 : 0 ≤ (x10_1 : Int) := of_decide_eq_true (by first | (with_reducible assumption) | assumption); have q323 : x10_1 < (l0.length : Int) := of_decide_eq_true (by first | (with_reducible assumption) | assumption); obtain ⟨ad323, e323, hx323_0, hx323_1⟩ := at_T28 HR0.out x10_1 p323 q323; obtain rfl : ad321 = ad323 := (by injection e323); replace p323 := eq_true p323; replace q323 := eq_true q323; have p324 : 0 ≤ (x10_1 : Int) := of_decide_eq_true (by first | (with_reducible assumption) | assumption); have q324 : x10_1 < (l0.length : Int) := of_decide_eq_true (by first | (with_reducible assumption) | assumption); obtain ⟨ad324, e324, hx324_0, hx324_1⟩ := at_T28 HR0.out x10_1 p324 q324; obtain rfl : ad321 = ad324 := (by injection e324); replace p324 := eq_true p324; replace q324 := eq_true q324; have p325 : 0 ≤ (x10_1 : Int) := of_decide_eq_true (by first | (with_reducible assumption) | assumption); have q325 : x10_1 < (l0.length : Int) := of_decide_eq_true (by first | (with_reducible assumption) | assumption); obtain ⟨ad325, e325, hx325_0, hx325_1⟩ := at_T28 HR0.out x10_1 p325 q325; obtain rfl : ad321 = ad325 := (by injection e325); replace p325 := eq_true p325; replace q325 := eq_true q325))
                        go_roundg k1
                        case measure => have := HK1.out; omega
                        case rel => exact ⟨(wrap64 (x10_1 + 1)), (by first | rfl | (simp; done) | (simp [*]; done)), H', ⟨by have := HK1.out; omega⟩, by repeat (first | exact Drawn0.refl _ | apply Drawn0.step)⟩
                      · rw [if_neg c11] at H
                        have c11b0 : (((rd_T28 l0 x10_1).f1) == 0) = false := beq_eq_false_iff_ne.mpr c11
                        have c11b1 : (((rd_T28 l0 x10_1).f1) != 0) = true := bne_iff_ne.mpr c11
                        obtain rfl := Option.some.inj H
                        have p321 : 0 ≤ (x10_1 : Int) := of_decide_eq_true (by first | (with_reducible assumption) | assumption)
                        have q321 : x10_1 < (l0.length : Int) := of_decide_eq_true (by first | (with_reducible assumption) | assumption)
                        obtain ⟨ad321, e321, hx321_0, hx321_1⟩ := at_T28 HR0.out x10_1 p321 q321
                        cases e321
                        replace p321 := eq_true p321
                        replace q321 := eq_true q321
                        go_wp2_with (first | ((with_reducible refine gate_callee (f := 51) rfl ?_); refine goesL_ (some 18) rfl rfl Try.func51 (by kernel_rfl) rfl #[.string ((rd_T28 l0 x10_1).f0)] rfl (by (try simp only [List.map_toArray, List.map_cons, List.map_nil]); first | done | rfl | (simp only [List.length_drop, List.length_take]; rfl)) ?_; (with_reducible refine (aumbryref03_Kind.calls k1 ((rd_T28 l0 x10_1).f0) t322 _ A6.out).mono ?_); rintro e w' ⟨rfl, ⟨nd, rfl⟩⟩; refine ⟨_, rfl, ?_⟩; have p323 : 0 ≤ (x10_1 : Int) := of_decide_eq_true (by first | (with_reducible assumption) | assumption); have q323 : x10_1 < (l0.length : Int) := of_decide_eq_true (by first | (with_reducible assumption) | assumption); obtain ⟨ad323, e323, hx323_0, hx323_1⟩ := at_T28 HR0.out x10_1 p323 q323; obtain rfl : ad321 = ad323 := (by injection e323); replace p323 := eq_true p323; replace q323 := eq_true q323; have p324 : 0 ≤ (x10_1 : Int) := of_decide_eq_true (by first | (with_reducible assumption) | assumption); have q324 : x10_1 < (l0.length : Int) := of_decide_eq_true (by first | (with_reducible assumption) | assumption); obtain ⟨ad324, e324, hx324_0, hx324_1⟩ := at_T28 HR0.out x10_1 p324 q324; obtain rfl : ad321 = ad324 := (by injection e324); replace p324 := eq_true p324; replace q324 := eq_true q324; have p325 : 0 ≤ (x10_1 : Int) := of_decide_eq_true (by first | (with_reducible assumption) | assumption); have q325 : x10_1 < (l0.length : Int) := of_decide_eq_true (by first | (with_reducible assumption) | assumption); obtain ⟨ad325, e325, hx325_0, hx325_1⟩ := at_T28 HR0.out x10_1 p325 q325; obtain rfl : ad321 = ad325 := (by injection e325); replace p325 := eq_true p325; replace q325 := eq_true q325))
                        go_ret
                        exact ⟨by first | rfl | (simp; done) | (simp [*]; done), by repeat (first | exact Drawn0.refl _ | apply Drawn0.step)⟩
                    · rw [if_neg c10] at H
                      have c10b0 : (t322 == 2) = false := beq_eq_false_iff_ne.mpr c10
                      have c10b1 : (t322 != 2) = true := bne_iff_ne.mpr c10
                      have H' := Aside0.mk H
                      clear H
                      have p321 : 0 ≤ (x10_1 : Int) := of_decide_eq_true (by first | (with_reducible assumption) | assumption)
                      have q321 : x10_1 < (l0.length : Int) := of_decide_eq_true (by first | (with_reducible assumption) | assumption)
                      obtain ⟨ad321, e321, hx321_0, hx321_1⟩ := at_T28 HR0.out x10_1 p321 q321
                      cases e321
                      replace p321 := eq_true p321
                      replace q321 := eq_true q321
                      go_wp2_with (first | ((with_reducible refine gate_callee (f := 51) rfl ?_); refine goesL_ (some 18) rfl rfl Try.func51 (by kernel_rfl) rfl #[.string ((rd_T28 l0 x10_1).f0)] rfl (by (try simp only [List.map_toArray, List.map_cons, List.map_nil]); first | done | rfl | (simp only [List.length_drop, List.length_take]; rfl)) ?_; (with_reducible refine (aumbryref03_Kind.calls k1 ((rd_T28 l0 x10_1).f0) t322 _ A6.out).mono ?_); rintro e w' ⟨rfl, ⟨nd, rfl⟩⟩; refine ⟨_, rfl, ?_⟩; have p323 : 0 ≤ (x10_1 : Int) := of_decide_eq_true (by first | (with_reducible assumption) | assumption); have q323 : x10_1 < (l0.length : Int) := of_decide_eq_true (by first | (with_reducible assumption) | assumption); obtain ⟨ad323, e323, hx323_0, hx323_1⟩ := at_T28 HR0.out x10_1 p323 q323; obtain rfl : ad321 = ad323 := (by injection e323); replace p323 := eq_true p323; replace q323 := eq_true q323; have p324 : 0 ≤ (x10_1 : Int) := of_decide_eq_true (by first | (with_reducible assumption) | assumption); have q324 : x10_1 < (l0.length : Int) := of_decide_eq_true (by first | (with_reducible assumption) | assumption); obtain ⟨ad324, e324, hx324_0, hx324_1⟩ := at_T28 HR0.out x10_1 p324 q324; obtain rfl : ad321 = ad324 := (by injection e324); replace p324 := eq_true p324; replace q324 := eq_true q324))
                      go_roundg k1
                      case measure => have := HK1.out; omega
                      case rel => exact ⟨(wrap64 (x10_1 + 1)), (by first | rfl | (simp; done) | (simp [*]; done)), H', ⟨by have := HK1.out; omega⟩, by repeat (first | exact Drawn0.refl _ | apply Drawn0.step)⟩
            · rw [if_neg c5] at H
              exact absurd H (by simp)
          · rw [if_neg c4] at H
            exact absurd H (by simp)
        · rw [if_neg c3] at H
          have c3b0 : decide (x10_1 < (l0.length : Int)) = false := decide_eq_false c3
          clear c3
          replace H := Option.bind_eq_some_iff.mp H
          obtain ⟨t320, A120, H⟩ := H
          replace H : (if t320 = (l0.length : Int) then (some 0) else (some 3)) = some r := H
          have A12 := Aside0.mk A120
          clear A120
          by_cases c13 : t320 = (l0.length : Int)
          · rw [if_pos c13] at H
            have c13b0 : (t320 == (l0.length : Int)) = true := beq_iff_eq.mpr c13
            have c13b1 : (t320 != (l0.length : Int)) = false := bne_eq_false_iff_eq.mpr c13
            clear c13
            obtain rfl := Option.some.inj H
            go_wp2_with (first | ((with_reducible refine gate_callee (f := 48) rfl ?_); refine goesL_ (some 49) rfl rfl Try.func48 (by kernel_rfl) rfl #[.slice A0 l0.length c0, .int .i64 0] rfl (by (try simp only [List.map_toArray, List.map_cons, List.map_nil]); first | done | rfl | (simp only [List.length_drop, List.length_take]; rfl)) ?_; (with_reducible refine (aumbryref04_Behind.calls k1 _ _ l0 0 t320 _ ?side1 ?side2 A12.out).mono ?_); (case side1 => repeat (first | exact HR0.out | (with_reducible refine Kd.C_alloc ?_ _) | (with_reducible refine Kd.C_drewN ?_ _) | (with_reducible refine Kd.C_drew ?_))); (case side2 => exact HC0.out); rintro e w' ⟨rfl, ⟨nd, rfl⟩⟩; refine ⟨_, rfl, ?_⟩))
            go_ret
            exact ⟨by first | rfl | (simp; done) | (simp [*]; done), by repeat (first | exact Drawn0.refl _ | apply Drawn0.step)⟩
          · rw [if_neg c13] at H
            have c13b0 : (t320 == (l0.length : Int)) = false := beq_eq_false_iff_ne.mpr c13
            have c13b1 : (t320 != (l0.length : Int)) = true := bne_iff_ne.mpr c13
            obtain rfl := Option.some.inj H
            go_wp2_with (first | ((with_reducible refine gate_callee (f := 48) rfl ?_); refine goesL_ (some 49) rfl rfl Try.func48 (by kernel_rfl) rfl #[.slice A0 l0.length c0, .int .i64 0] rfl (by (try simp only [List.map_toArray, List.map_cons, List.map_nil]); first | done | rfl | (simp only [List.length_drop, List.length_take]; rfl)) ?_; (with_reducible refine (aumbryref04_Behind.calls k1 _ _ l0 0 t320 _ ?side1 ?side2 A12.out).mono ?_); (case side1 => repeat (first | exact HR0.out | (with_reducible refine Kd.C_alloc ?_ _) | (with_reducible refine Kd.C_drewN ?_ _) | (with_reducible refine Kd.C_drew ?_))); (case side2 => exact HC0.out); rintro e w' ⟨rfl, ⟨nd, rfl⟩⟩; refine ⟨_, rfl, ?_⟩))
            go_ret
            exact ⟨by first | rfl | (simp; done) | (simp [*]; done), by repeat (first | exact Drawn0.refl _ | apply Drawn0.step)⟩

end Go.Proofs.Ytnkpcnnbeaomnaa.C
end

section
-- Written by a program of this session (a scratch print over hand-made contracts), out of the translation. Not trusted: Lean checks it.
namespace Go.Proofs.Ytnkpcnnbeaomnaa.C
open Go.RowKit Go.Proofs.YtnkpcnnbeaomnaaW.PrintWords Go.Proofs.YtnkpcnnbeaomnaaW.PrintLast Go.Proofs.YtnkpcnnbeaomnaaW.PrintMore
attribute [local go_sem] max2_int min2_int max_two min_two max_three min_three max_four min_four   -- for this text's walks alone
set_option linter.unusedVariables false
set_option linter.unusedSimpArgs false

/-! ### aumbryref04_Text: function 47 -/
mutual
def aumbryref04_Text.l0 : Nat → ByteArray → List (List (S28)) → Int → Int → Option (ByteArray)
  | 0, _, _, _, _ => none
  | k + 1, x3, x4, x13, x14 => if x14 < x13 then (if x14 = 0 then (if x3.size + 1 ≤ 9223372036854775807 then (if 0 ≤ x14 then (if x14 < (x4.length : Int) then ((aumbryref04_Text.f k (rd_L3 x4 x14)).bind fun t392 => (if (x3 ++ (⟨#[40]⟩ : ByteArray)).size + t392.size ≤ 9223372036854775807 then (aumbryref04_Text.l0 k ((x3 ++ (⟨#[40]⟩ : ByteArray)) ++ t392) x4 x13 (wrap64 (x14 + 1))) else (none))) else (none)) else (none)) else (none)) else (if x3.size + 1 ≤ 9223372036854775807 then (if 0 ≤ x14 then (if x14 < (x4.length : Int) then ((aumbryref04_Text.f k (rd_L3 x4 x14)).bind fun t394 => (if (x3 ++ (⟨#[44]⟩ : ByteArray)).size + t394.size ≤ 9223372036854775807 then (aumbryref04_Text.l0 k ((x3 ++ (⟨#[44]⟩ : ByteArray)) ++ t394) x4 x13 (wrap64 (x14 + 1))) else (none))) else (none)) else (none)) else (none))) else (if (x4.length : Int) > 0 then (if x3.size + 1 ≤ 9223372036854775807 then (some (x3 ++ (⟨#[41]⟩ : ByteArray))) else (none)) else (some x3))
def aumbryref04_Text.f : Nat → List (S28) → Option (ByteArray)
  | 0, _ => none
  | k + 1, l0 => if 0 < (l0.length : Int) then ((aumbryref04_Kids.f k l0).bind fun t388 => (aumbryref04_Text.l0 k ((rd_T28 l0 0).f0) t388 (t388.length : Int) 0)) else (none)
end
theorem aumbryref04_Text.mono_l : ∀ k, (∀ y0, LeO (aumbryref04_Text.f k y0) (aumbryref04_Text.f (k + 1) y0)) ∧ (∀ y0 y1 y2 y3, LeO (aumbryref04_Text.l0 k y0 y1 y2 y3) (aumbryref04_Text.l0 (k + 1) y0 y1 y2 y3))
  | 0 => ⟨fun _ r h => by simp [aumbryref04_Text.f] at h, fun _ _ _ _ r h => by simp [aumbryref04_Text.l0] at h⟩
  | k + 1 => by
    obtain ⟨ih0, ih1⟩ := aumbryref04_Text.mono_l k
    refine ⟨?_, ?_⟩
    · intro y0
      unfold aumbryref04_Text.f
      repeat' first
      | (with_reducible exact ih0 _)
      | (with_reducible exact ih1 _ _ _ _)
      | (with_reducible exact aumbryref04_Kids.mono _ _)
      | (with_reducible exact LeO.refl _)
      | (with_reducible exact LeO.none _)
      | (with_reducible refine LeO.ite ?_ ?_)
      | (with_reducible refine LeO.bind ?_ (fun _ => ?_))
      | exact ih0 _
      | exact ih1 _ _ _ _
      | exact aumbryref04_Kids.mono _ _
      | exact LeO.none _
      | refine LeO.ite ?_ ?_
      | refine LeO.bind ?_ (fun _ => ?_)
    · intro y0 y1 y2 y3
      unfold aumbryref04_Text.l0
      repeat' first
      | (with_reducible exact ih0 _)
      | (with_reducible exact ih1 _ _ _ _)
      | (with_reducible exact aumbryref04_Kids.mono _ _)
      | (with_reducible exact LeO.refl _)
      | (with_reducible exact LeO.none _)
      | (with_reducible refine LeO.ite ?_ ?_)
      | (with_reducible refine LeO.bind ?_ (fun _ => ?_))
      | exact ih0 _
      | exact ih1 _ _ _ _
      | exact aumbryref04_Kids.mono _ _
      | exact LeO.none _
      | refine LeO.ite ?_ ?_
      | refine LeO.bind ?_ (fun _ => ?_)
theorem aumbryref04_Text.mono : ∀ a0 k, LeO (aumbryref04_Text.f k a0) (aumbryref04_Text.f (k + 1) a0) := by
  intro a0 k
  obtain ⟨ih0, ih1⟩ := aumbryref04_Text.mono_l k
  exact ih0 a0
set_option maxHeartbeats 8000000 in
set_option maxRecDepth 100000 in
theorem aumbryref04_Text.calls (k : Nat) : ∀ (A0 : Option Addr) (c0 : Nat) (l0 : List (S28)) (r : ByteArray) (w : World) (hr0 : Kd.C k28 w A0 l0.length l0) (hc0 : l0.length ≤ c0) (h : aumbryref04_Text.f k l0 = some r),
    Calls Try.prog 47 #[.slice A0 l0.length c0] w fun e w' => e = .returned (.string r) ∧ Below w.heap.size w w' := by
  induction k using Nat.strongRecOn with
  | _ k ih =>
  intro A0 c0 l0 r w hr0 hc0 h
  cases k with
  | zero => exact absurd h (by simp [aumbryref04_Text.f])
  | succ k =>
  simp only [aumbryref04_Text.f] at h
  have HR0 := Aside0.mk hr0
  have HC0 := Aside0.mk hc0
  clear hr0 hc0
  have HB := Aside0.mk (Below.refl w.heap.size w)
  have H : (if 0 < (l0.length : Int) then ((aumbryref04_Kids.f k l0).bind fun t388 => (aumbryref04_Text.l0 k ((rd_T28 l0 0).f0) t388 (t388.length : Int) 0)) else (none)) = some r := h
  clear h
  by_cases c2 : 0 < (l0.length : Int)
  · rw [if_pos c2] at H
    have c2b0 : decide (0 < (l0.length : Int)) = true := decide_eq_true c2
    have c2b1 : decide (0 < l0.length) = true := decide_eq_true (by omega)
    clear c2
    replace H := Option.bind_eq_some_iff.mp H
    obtain ⟨t388, A30, H⟩ := H
    replace H : (aumbryref04_Text.l0 k ((rd_T28 l0 0).f0) t388 (t388.length : Int) 0) = some r := H
    have A3 := Aside0.mk A30
    clear A30
    have H' := Aside0.mk H
    clear H
    have p387 : 0 ≤ (0 : Int) := (by omega)
    have q387 : 0 < (l0.length : Int) := of_decide_eq_true (by first | (with_reducible assumption) | assumption)
    obtain ⟨ad387, e387, hx387_0, hx387_1⟩ := at_T28 HR0.out 0 p387 q387
    cases e387
    have qi387 : (0 < l0.length) = True := eq_true (by omega)
    (try rw [show ((0 : Int)).toNat = 0 from rfl] at hx387_0)
    (try rw [show 0 * 2 = 0 from rfl] at hx387_0)
    (try rw [Addr.add_zero'] at hx387_0)
    (try rw [show ((0 : Int)).toNat = 0 from rfl] at hx387_1)
    (try rw [show 0 * 2 = 0 from rfl] at hx387_1)
    (try rw [Addr.add_zero'] at hx387_1)
    replace p387 := eq_true p387
    replace q387 := eq_true q387
    go_enter Try.func47, Try.ntmps47
    go_wp2_with (first | ((with_reducible refine gate_callee (f := 27) rfl ?_); refine goesL_ (some 11) rfl rfl Try.func27 (by kernel_rfl) rfl #[.slice (some ad387) l0.length c0] rfl (by (try simp only [List.map_toArray, List.map_cons, List.map_nil]); first | done | rfl | (simp only [List.length_drop, List.length_take]; rfl)) ?_; (with_reducible refine (aumbryref04_Kids.calls k _ _ l0 t388 _ ?side1 ?side2 A3.out).mono ?_); (case side1 => repeat (first | exact HR0.out | (with_reducible refine Kd.C_alloc ?_ _) | (with_reducible refine Kd.C_drewN ?_ _) | (with_reducible refine Kd.C_drew ?_))); (case side2 => exact HC0.out); rintro e w4 ⟨v389, rfl, ho0, hb⟩; refine ⟨_, rfl, ?_⟩; have n0_ := Aside0.mk (Kd.S_lower ho0 (below_size (by repeat (first | (with_reducible first | exact HB.out | apply below_alloc | apply pw_below_drewN | apply below_drew1) | exact HB.out)))); have n1_ := Aside0.mk (below_step (by repeat (first | (with_reducible first | exact HB.out | apply below_alloc | apply pw_below_drewN | apply below_drew1) | exact HB.out)) hb); clear HB; have HO390 := n0_; have HB := n1_; clear n0_ n1_; (try clear hb); (try clear hb2); (try clear hk); (try clear hi); (try clear ho0); obtain ⟨Ao5, co5, eo5⟩ := Kd.S_slice HO390.out; subst eo5))
    go_loopg [3, 14] k (fun kq v3 v14 w' => ∃ (x3_1 : ByteArray) (x14_1 : Int), v3 = .string x3_1 ∧ v14 = .int .i64 x14_1 ∧ Aside0 (aumbryref04_Text.l0 kq x3_1 t388 (t388.length : Int) x14_1 = some r) ∧ Aside0 (kq ≤ k) ∧ Aside0 (Kd.S (Kd.slice 28 k28) 23 w' w.heap.size (fun _ => True) (.slice Ao5 t388.length co5) t388) ∧ Aside0 (Below w.heap.size w w'))
    case atStart => exact ⟨((rd_T28 l0 0).f0), (0), (by first | rfl | (simp; done) | (simp [*]; done)), (by first | rfl | (simp; done) | (simp [*]; done)), H', ⟨Nat.le_refl _⟩, ⟨by (with_reducible repeat (first | apply Kd.S_alloc | apply Kd.S_drewN | apply Kd.S_drew)); exact HO390.out⟩, ⟨by repeat (first | (with_reducible first | exact HB.out | apply below_alloc | apply pw_below_drewN | apply below_drew1) | exact HB.out)⟩⟩
    case round =>
      clear H'
      try clear c2
      try clear c2b0
      try clear c2b1
      try clear p2
      try clear p3
      try clear q3
      try clear hx3
      try clear qi3
      try clear c4
      try clear hx387_0
      try clear hx387_1
      try clear p387
      try clear q387
      obtain ⟨x3_1, x14_1, rfl, rfl, HA, HK1, HO_4, HB⟩ := hrel
      cases gk with
      | zero => exact absurd HA.out (by simp [aumbryref04_Text.l0])
      | succ k1 =>
        have H := HA.out
        clear HA
        simp only [aumbryref04_Text.l0] at H
        by_cases c6 : x14_1 < (t388.length : Int)
        · rw [if_pos c6] at H
          have c6b0 : decide (x14_1 < (t388.length : Int)) = true := decide_eq_true c6
          clear c6
          by_cases c7 : x14_1 = 0
          · rw [if_pos c7] at H
            have c7b0 : (x14_1 == 0) = true := beq_iff_eq.mpr c7
            have c7b1 : (x14_1 != 0) = false := bne_eq_false_iff_eq.mpr c7
            clear c7
            by_cases c8 : x3_1.size + 1 ≤ 9223372036854775807
            · rw [if_pos c8] at H
              have c8b0 := eq_true c8
              have c8b1 : decide (x3_1.size + 1 ≤ 9223372036854775807) = true := decide_eq_true c8
              try have c8b2 : (9223372036854775807 < x3_1.size + 1) = False := eq_false (Nat.not_lt.2 c8)
              by_cases c9 : 0 ≤ x14_1
              · rw [if_pos c9] at H
                have c9b0 : decide (0 ≤ x14_1) = true := decide_eq_true c9
                clear c9
                by_cases c10 : x14_1 < (t388.length : Int)
                · rw [if_pos c10] at H
                  have c10b0 : decide (x14_1 < (t388.length : Int)) = true := decide_eq_true c10
                  clear c10
                  replace H := Option.bind_eq_some_iff.mp H
                  obtain ⟨t392, A110, H⟩ := H
                  replace H : (if (x3_1 ++ (⟨#[40]⟩ : ByteArray)).size + t392.size ≤ 9223372036854775807 then (aumbryref04_Text.l0 k1 ((x3_1 ++ (⟨#[40]⟩ : ByteArray)) ++ t392) t388 (t388.length : Int) (wrap64 (x14_1 + 1))) else (none)) = some r := H
                  have A11 := Aside0.mk A110
                  clear A110
                  by_cases c12 : (x3_1 ++ (⟨#[40]⟩ : ByteArray)).size + t392.size ≤ 9223372036854775807
                  · rw [if_pos c12] at H
                    have c12b0 := eq_true c12
                    have c12b1 : decide ((x3_1 ++ (⟨#[40]⟩ : ByteArray)).size + t392.size ≤ 9223372036854775807) = true := decide_eq_true c12
                    try have c12b2 : (9223372036854775807 < (x3_1 ++ (⟨#[40]⟩ : ByteArray)).size + t392.size) = False := eq_false (Nat.not_lt.2 c12)
                    have c12b3 : (9223372036854775807 < x3_1.size + 1 + t392.size) = False := eq_false (Nat.not_lt.2 (by have h_ := c12; rw [ByteArray.size_append] at h_; exact h_))
                    have H' := Aside0.mk H
                    clear H
                    have p391 : 0 ≤ (x14_1 : Int) := of_decide_eq_true (by first | (with_reducible assumption) | assumption)
                    have q391 : x14_1 < (t388.length : Int) := of_decide_eq_true (by first | (with_reducible assumption) | assumption)
                    obtain ⟨ad391, A391_0, c391_0, e391, hx391_0, hl391_0, hi391_0⟩ := at_L3 (Kd.S_reads' HO_4.out).2.2 x14_1 p391 q391
                    cases e391
                    obtain ⟨ce391, hce391, hMe391, hcc391⟩ := Kd.S_get HO_4.out [] x14_1 p391 (by first | exact q391 | exact of_decide_eq_true (by first | (with_reducible assumption) | assumption) | (have e_ := (Kd.S_reads' HO_4.out).1; omega))
                    obtain ⟨ve391_0, rfl, ge391_0⟩ := hMe391
                    have hv391_0 := hcc391 0 _ rfl
                    rw [Nat.add_zero, show ((Kd.slice 28 k28)).sz = 1 from rfl, Nat.mul_one] at hv391_0
                    replace hv391_0 := Option.some.inj (hv391_0.symm.trans hx391_0)
                    rw [hv391_0] at ge391_0
                    have HL391_0 := Aside0.mk (show Kd.R k28 28 _ _ _ _ (rd_L3 t388 x14_1) from ge391_0)
                    clear hv391_0 ge391_0
                    clear hcc391 hce391
                    have HR391_0 := Aside0.mk hi391_0
                    have HC391_0 := Aside0.mk hl391_0
                    clear hi391_0 hl391_0
                    replace p391 := eq_true p391
                    replace q391 := eq_true q391
                    go_wp2_with (first | ((with_reducible refine gate_callee (f := 47) rfl ?_); refine goesL_ (some 28) rfl rfl Try.func47 (by kernel_rfl) rfl #[.slice A391_0 (rd_L3 t388 x14_1).length c391_0] rfl (by (try simp only [List.map_toArray, List.map_cons, List.map_nil]); first | done | rfl | (simp only [List.length_drop, List.length_take]; rfl)) ?_; (with_reducible refine (ih k1 (by have := HK1.out; omega) _ _ (rd_L3 t388 x14_1) t392 _ ?side1 ?side2 A11.out).mono ?_); (case side1 => repeat (first | exact (by repeat (first | (with_reducible exact HR391_0.out) | (with_reducible refine Kd.C_alloc ?_ _) | (with_reducible refine Kd.C_drewN ?_ _) | (with_reducible refine Kd.C_drew ?_) | exact HR391_0.out)) | (with_reducible refine Kd.C_alloc ?_ _) | (with_reducible refine Kd.C_drewN ?_ _) | (with_reducible refine Kd.C_drew ?_))); (case side2 => exact HC391_0.out); rintro e w13 ⟨rfl, hb⟩; refine ⟨_, rfl, ?_⟩; have n0_ := Aside0.mk (Kd.S_below (by (with_reducible repeat (first | apply Kd.S_alloc | apply Kd.S_drewN | apply Kd.S_drew)); exact HO_4.out) hb); have n1_ := Aside0.mk (Kd.R_below (by (with_reducible repeat (first | apply Kd.R_alloc | apply Kd.R_drewN | apply Kd.R_drew)); exact HL391_0.out) hb); have n2_ := Aside0.mk (Kd.C_below (by repeat (first | (with_reducible exact HR391_0.out) | (with_reducible refine Kd.C_alloc ?_ _) | (with_reducible refine Kd.C_drewN ?_ _) | (with_reducible refine Kd.C_drew ?_) | exact HR391_0.out)) hb); have n3_ := Aside0.mk (below_step (by repeat (first | (with_reducible first | exact HB.out | apply below_alloc | apply pw_below_drewN | apply below_drew1) | exact HB.out)) hb); clear HO_4; clear HL391_0; clear HR391_0; clear HB; have HO_4 := n0_; have HL391_0 := n1_; have HR391_0 := n2_; have HB := n3_; clear n0_ n1_ n2_ n3_; (try clear hb); (try clear hb2); (try clear hk); (try clear hi)))
                    go_roundg k1
                    case measure => have := HK1.out; omega
                    case rel => exact ⟨((x3_1 ++ (⟨#[40]⟩ : ByteArray)) ++ t392), (wrap64 (x14_1 + 1)), (by first | rfl | (simp; done) | (simp [*]; done)), (by first | rfl | (simp; done) | (simp [*]; done)), H', ⟨by have := HK1.out; omega⟩, ⟨by (with_reducible repeat (first | apply Kd.S_alloc | apply Kd.S_drewN | apply Kd.S_drew)); exact HO_4.out⟩, ⟨by repeat (first | (with_reducible first | exact HB.out | apply below_alloc | apply pw_below_drewN | apply below_drew1) | exact HB.out)⟩⟩
                  · rw [if_neg c12] at H
                    exact absurd H (by simp)
                · rw [if_neg c10] at H
                  exact absurd H (by simp)
              · rw [if_neg c9] at H
                exact absurd H (by simp)
            · rw [if_neg c8] at H
              exact absurd H (by simp)
          · rw [if_neg c7] at H
            have c7b0 : (x14_1 == 0) = false := beq_eq_false_iff_ne.mpr c7
            have c7b1 : (x14_1 != 0) = true := bne_iff_ne.mpr c7
            by_cases c14 : x3_1.size + 1 ≤ 9223372036854775807
            · rw [if_pos c14] at H
              have c14b0 := eq_true c14
              have c14b1 : decide (x3_1.size + 1 ≤ 9223372036854775807) = true := decide_eq_true c14
              try have c14b2 : (9223372036854775807 < x3_1.size + 1) = False := eq_false (Nat.not_lt.2 c14)
              by_cases c15 : 0 ≤ x14_1
              · rw [if_pos c15] at H
                have c15b0 : decide (0 ≤ x14_1) = true := decide_eq_true c15
                clear c15
                by_cases c16 : x14_1 < (t388.length : Int)
                · rw [if_pos c16] at H
                  have c16b0 : decide (x14_1 < (t388.length : Int)) = true := decide_eq_true c16
                  clear c16
                  replace H := Option.bind_eq_some_iff.mp H
                  obtain ⟨t394, A170, H⟩ := H
                  replace H : (if (x3_1 ++ (⟨#[44]⟩ : ByteArray)).size + t394.size ≤ 9223372036854775807 then (aumbryref04_Text.l0 k1 ((x3_1 ++ (⟨#[44]⟩ : ByteArray)) ++ t394) t388 (t388.length : Int) (wrap64 (x14_1 + 1))) else (none)) = some r := H
                  have A17 := Aside0.mk A170
                  clear A170
                  by_cases c18 : (x3_1 ++ (⟨#[44]⟩ : ByteArray)).size + t394.size ≤ 9223372036854775807
                  · rw [if_pos c18] at H
                    have c18b0 := eq_true c18
                    have c18b1 : decide ((x3_1 ++ (⟨#[44]⟩ : ByteArray)).size + t394.size ≤ 9223372036854775807) = true := decide_eq_true c18
                    try have c18b2 : (9223372036854775807 < (x3_1 ++ (⟨#[44]⟩ : ByteArray)).size + t394.size) = False := eq_false (Nat.not_lt.2 c18)
                    have c18b3 : (9223372036854775807 < x3_1.size + 1 + t394.size) = False := eq_false (Nat.not_lt.2 (by have h_ := c18; rw [ByteArray.size_append] at h_; exact h_))
                    have H' := Aside0.mk H
                    clear H
                    have p393 : 0 ≤ (x14_1 : Int) := of_decide_eq_true (by first | (with_reducible assumption) | assumption)
                    have q393 : x14_1 < (t388.length : Int) := of_decide_eq_true (by first | (with_reducible assumption) | assumption)
                    obtain ⟨ad393, A393_0, c393_0, e393, hx393_0, hl393_0, hi393_0⟩ := at_L3 (Kd.S_reads' HO_4.out).2.2 x14_1 p393 q393
                    cases e393
                    obtain ⟨ce393, hce393, hMe393, hcc393⟩ := Kd.S_get HO_4.out [] x14_1 p393 (by first | exact q393 | exact of_decide_eq_true (by first | (with_reducible assumption) | assumption) | (have e_ := (Kd.S_reads' HO_4.out).1; omega))
                    obtain ⟨ve393_0, rfl, ge393_0⟩ := hMe393
                    have hv393_0 := hcc393 0 _ rfl
                    rw [Nat.add_zero, show ((Kd.slice 28 k28)).sz = 1 from rfl, Nat.mul_one] at hv393_0
                    replace hv393_0 := Option.some.inj (hv393_0.symm.trans hx393_0)
                    rw [hv393_0] at ge393_0
                    have HL393_0 := Aside0.mk (show Kd.R k28 28 _ _ _ _ (rd_L3 t388 x14_1) from ge393_0)
                    clear hv393_0 ge393_0
                    clear hcc393 hce393
                    have HR393_0 := Aside0.mk hi393_0
                    have HC393_0 := Aside0.mk hl393_0
                    clear hi393_0 hl393_0
                    replace p393 := eq_true p393
                    replace q393 := eq_true q393
                    go_wp2_with (first | ((with_reducible refine gate_callee (f := 47) rfl ?_); refine goesL_ (some 28) rfl rfl Try.func47 (by kernel_rfl) rfl #[.slice A393_0 (rd_L3 t388 x14_1).length c393_0] rfl (by (try simp only [List.map_toArray, List.map_cons, List.map_nil]); first | done | rfl | (simp only [List.length_drop, List.length_take]; rfl)) ?_; (with_reducible refine (ih k1 (by have := HK1.out; omega) _ _ (rd_L3 t388 x14_1) t394 _ ?side1 ?side2 A17.out).mono ?_); (case side1 => repeat (first | exact (by repeat (first | (with_reducible exact HR393_0.out) | (with_reducible refine Kd.C_alloc ?_ _) | (with_reducible refine Kd.C_drewN ?_ _) | (with_reducible refine Kd.C_drew ?_) | exact HR393_0.out)) | (with_reducible refine Kd.C_alloc ?_ _) | (with_reducible refine Kd.C_drewN ?_ _) | (with_reducible refine Kd.C_drew ?_))); (case side2 => exact HC393_0.out); rintro e w19 ⟨rfl, hb⟩; refine ⟨_, rfl, ?_⟩; have n0_ := Aside0.mk (Kd.S_below (by (with_reducible repeat (first | apply Kd.S_alloc | apply Kd.S_drewN | apply Kd.S_drew)); exact HO_4.out) hb); have n1_ := Aside0.mk (Kd.R_below (by (with_reducible repeat (first | apply Kd.R_alloc | apply Kd.R_drewN | apply Kd.R_drew)); exact HL393_0.out) hb); have n2_ := Aside0.mk (Kd.C_below (by repeat (first | (with_reducible exact HR393_0.out) | (with_reducible refine Kd.C_alloc ?_ _) | (with_reducible refine Kd.C_drewN ?_ _) | (with_reducible refine Kd.C_drew ?_) | exact HR393_0.out)) hb); have n3_ := Aside0.mk (below_step (by repeat (first | (with_reducible first | exact HB.out | apply below_alloc | apply pw_below_drewN | apply below_drew1) | exact HB.out)) hb); clear HO_4; clear HL393_0; clear HR393_0; clear HB; have HO_4 := n0_; have HL393_0 := n1_; have HR393_0 := n2_; have HB := n3_; clear n0_ n1_ n2_ n3_; (try clear hb); (try clear hb2); (try clear hk); (try clear hi)))
                    go_roundg k1
                    case measure => have := HK1.out; omega
                    case rel => exact ⟨((x3_1 ++ (⟨#[44]⟩ : ByteArray)) ++ t394), (wrap64 (x14_1 + 1)), (by first | rfl | (simp; done) | (simp [*]; done)), (by first | rfl | (simp; done) | (simp [*]; done)), H', ⟨by have := HK1.out; omega⟩, ⟨by (with_reducible repeat (first | apply Kd.S_alloc | apply Kd.S_drewN | apply Kd.S_drew)); exact HO_4.out⟩, ⟨by repeat (first | (with_reducible first | exact HB.out | apply below_alloc | apply pw_below_drewN | apply below_drew1) | exact HB.out)⟩⟩
                  · rw [if_neg c18] at H
                    exact absurd H (by simp)
                · rw [if_neg c16] at H
                  exact absurd H (by simp)
              · rw [if_neg c15] at H
                exact absurd H (by simp)
            · rw [if_neg c14] at H
              exact absurd H (by simp)
        · rw [if_neg c6] at H
          have c6b0 : decide (x14_1 < (t388.length : Int)) = false := decide_eq_false c6
          clear c6
          by_cases c20 : (t388.length : Int) > 0
          · rw [if_pos c20] at H
            have c20b0 : decide (0 < (t388.length : Int)) = true := decide_eq_true c20
            have c20b1 : decide (0 < t388.length) = true := decide_eq_true (by omega)
            clear c20
            by_cases c21 : x3_1.size + 1 ≤ 9223372036854775807
            · rw [if_pos c21] at H
              have c21b0 := eq_true c21
              have c21b1 : decide (x3_1.size + 1 ≤ 9223372036854775807) = true := decide_eq_true c21
              try have c21b2 : (9223372036854775807 < x3_1.size + 1) = False := eq_false (Nat.not_lt.2 c21)
              obtain rfl := Option.some.inj H
              go_wp2
              go_ret
              exact ⟨by first | rfl | (simp [errW_none, errW_some] <;> rfl) | (simp [*, errW_none, errW_some] <;> rfl), by repeat (first | (with_reducible first | exact HB.out | apply below_alloc | apply pw_below_drewN | apply below_drew1) | exact HB.out)⟩
            · rw [if_neg c21] at H
              exact absurd H (by simp)
          · rw [if_neg c20] at H
            have c20b0 : decide (0 < (t388.length : Int)) = false := decide_eq_false c20
            have c20b1 : decide (0 < t388.length) = false := decide_eq_false (by omega)
            clear c20
            obtain rfl := Option.some.inj H
            go_wp2
            go_ret
            exact ⟨by first | rfl | (simp [errW_none, errW_some] <;> rfl) | (simp [*, errW_none, errW_some] <;> rfl), by repeat (first | (with_reducible first | exact HB.out | apply below_alloc | apply pw_below_drewN | apply below_drew1) | exact HB.out)⟩
  · rw [if_neg c2] at H
    exact absurd H (by simp)

end Go.Proofs.Ytnkpcnnbeaomnaa.C
end

section
-- Written by a program of this session (a scratch print over hand-made contracts), out of the translation. Not trusted: Lean checks it.
namespace Go.Proofs.Ytnkpcnnbeaomnaa.C
open Go.RowKit Go.Proofs.YtnkpcnnbeaomnaaW.PrintWords Go.Proofs.YtnkpcnnbeaomnaaW.PrintLast Go.Proofs.YtnkpcnnbeaomnaaW.PrintMore
attribute [local go_sem] max2_int min2_int max_two min_two max_three min_three max_four min_four   -- for this text's walks alone
set_option linter.unusedVariables false
set_option linter.unusedSimpArgs false

/-! ### aumbryref04_Print: function 25 -/
def aumbryref04_Print.f (k : Nat) (l0 : List (S28)) : Option (ByteArray × Int) := (aumbryref04_Check.f k l0).bind fun t395 => (if t395 = 0 then ((aumbryref04_Text.f k l0).bind fun t396 => (some (t396, 0))) else (some ((⟨#[]⟩ : ByteArray), t395)))
theorem aumbryref04_Print.mono : ∀ a0 k, LeO (aumbryref04_Print.f k a0) (aumbryref04_Print.f (k + 1) a0) := by
  intro a0 k
  unfold aumbryref04_Print.f
  repeat' first
      | (with_reducible exact aumbryref04_Check.mono _ _)
      | (with_reducible exact aumbryref04_Text.mono _ _)
      | (with_reducible exact LeO.refl _)
      | (with_reducible exact LeO.none _)
      | (with_reducible refine LeO.ite ?_ ?_)
      | (with_reducible refine LeO.bind ?_ (fun _ => ?_))
      | exact aumbryref04_Check.mono _ _
      | exact aumbryref04_Text.mono _ _
      | exact LeO.none _
      | refine LeO.ite ?_ ?_
      | refine LeO.bind ?_ (fun _ => ?_)
set_option maxHeartbeats 8000000 in
set_option maxRecDepth 100000 in
theorem aumbryref04_Print.calls (k : Nat) (A0 : Option Addr) (c0 : Nat) (l0 : List (S28)) (r1 : ByteArray) (r2 : Int) (w : World) (hr0 : Kd.C k28 w A0 l0.length l0) (hc0 : l0.length ≤ c0) (h : aumbryref04_Print.f k l0 = some (r1, r2)) :
    Calls Try.prog 25 #[.slice A0 l0.length c0] w fun e w' => e = .returned (.tuple #[.string r1, .int .i64 r2]) ∧ Below w.heap.size w w' := by
  have HR0 := Aside0.mk hr0
  have HC0 := Aside0.mk hc0
  clear hr0 hc0
  have HB := Aside0.mk (Below.refl w.heap.size w)
  have H : ((aumbryref04_Check.f k l0).bind fun t395 => (if t395 = 0 then ((aumbryref04_Text.f k l0).bind fun t396 => (some (t396, 0))) else (some ((⟨#[]⟩ : ByteArray), t395)))) = some (r1, r2) := h
  clear h
  replace H := Option.bind_eq_some_iff.mp H
  obtain ⟨t395, A20, H⟩ := H
  replace H : (if t395 = 0 then ((aumbryref04_Text.f k l0).bind fun t396 => (some (t396, 0))) else (some ((⟨#[]⟩ : ByteArray), t395))) = some (r1, r2) := H
  have A2 := Aside0.mk A20
  clear A20
  by_cases c3 : t395 = 0
  · rw [if_pos c3] at H
    have c3b0 : (t395 == 0) = true := beq_iff_eq.mpr c3
    have c3b1 : (t395 != 0) = false := bne_eq_false_iff_eq.mpr c3
    clear c3
    replace H := Option.bind_eq_some_iff.mp H
    obtain ⟨t396, A40, H⟩ := H
    replace H : (some (t396, 0)) = some (r1, r2) := H
    have A4 := Aside0.mk A40
    clear A40
    simp only [Option.some.injEq, Prod.mk.injEq] at H
    obtain ⟨rfl, rfl⟩ := H
    go_enter Try.func25, Try.ntmps25
    go_wp2_with (first | ((with_reducible refine gate_callee (f := 45) rfl ?_); refine goesL_ (some 6) rfl rfl Try.func45 (by kernel_rfl) rfl #[.slice A0 l0.length c0] rfl (by (try simp only [List.map_toArray, List.map_cons, List.map_nil]); first | done | rfl | (simp only [List.length_drop, List.length_take]; rfl)) ?_; (with_reducible refine (aumbryref04_Check.calls k _ _ l0 t395 _ ?side1 ?side2 A2.out).mono ?_); (case side1 => repeat (first | exact HR0.out | (with_reducible refine Kd.C_alloc ?_ _) | (with_reducible refine Kd.C_drewN ?_ _) | (with_reducible refine Kd.C_drew ?_))); (case side2 => exact HC0.out); rintro e w' ⟨rfl, ⟨nd, rfl⟩⟩; refine ⟨_, rfl, ?_⟩) | ((with_reducible refine gate_callee (f := 47) rfl ?_); refine goesL_ (some 11) rfl rfl Try.func47 (by kernel_rfl) rfl #[.slice A0 l0.length c0] rfl (by (try simp only [List.map_toArray, List.map_cons, List.map_nil]); first | done | rfl | (simp only [List.length_drop, List.length_take]; rfl)) ?_; (with_reducible refine (aumbryref04_Text.calls k _ _ l0 t396 _ ?side1 ?side2 A4.out).mono ?_); (case side1 => repeat (first | exact HR0.out | (with_reducible refine Kd.C_alloc ?_ _) | (with_reducible refine Kd.C_drewN ?_ _) | (with_reducible refine Kd.C_drew ?_))); (case side2 => exact HC0.out); rintro e w5 ⟨rfl, hb⟩; refine ⟨_, rfl, ?_⟩; have n0_ := Aside0.mk (below_step (by repeat (first | (with_reducible first | exact HB.out | apply below_alloc | apply pw_below_drewN | apply below_drew1) | exact HB.out)) hb); clear HB; have HB := n0_; clear n0_; (try clear hb); (try clear hb2); (try clear hk); (try clear hi)))
    go_ret2
    exact ⟨by first | rfl | (simp [errW_none, errW_some] <;> rfl) | (simp [*, errW_none, errW_some] <;> rfl), by repeat (first | (with_reducible first | exact HB.out | apply below_alloc | apply pw_below_drewN | apply below_drew1) | exact HB.out)⟩
  · rw [if_neg c3] at H
    have c3b0 : (t395 == 0) = false := beq_eq_false_iff_ne.mpr c3
    have c3b1 : (t395 != 0) = true := bne_iff_ne.mpr c3
    simp only [Option.some.injEq, Prod.mk.injEq] at H
    obtain ⟨rfl, rfl⟩ := H
    go_enter Try.func25, Try.ntmps25
    go_wp2_with (first | ((with_reducible refine gate_callee (f := 45) rfl ?_); refine goesL_ (some 6) rfl rfl Try.func45 (by kernel_rfl) rfl #[.slice A0 l0.length c0] rfl (by (try simp only [List.map_toArray, List.map_cons, List.map_nil]); first | done | rfl | (simp only [List.length_drop, List.length_take]; rfl)) ?_; (with_reducible refine (aumbryref04_Check.calls k _ _ l0 t395 _ ?side1 ?side2 A2.out).mono ?_); (case side1 => repeat (first | exact HR0.out | (with_reducible refine Kd.C_alloc ?_ _) | (with_reducible refine Kd.C_drewN ?_ _) | (with_reducible refine Kd.C_drew ?_))); (case side2 => exact HC0.out); rintro e w' ⟨rfl, ⟨nd, rfl⟩⟩; refine ⟨_, rfl, ?_⟩))
    go_ret2
    exact ⟨by first | rfl | (simp [errW_none, errW_some] <;> rfl) | (simp [*, errW_none, errW_some] <;> rfl), by repeat (first | (with_reducible first | exact HB.out | apply below_alloc | apply pw_below_drewN | apply below_drew1) | exact HB.out)⟩

end Go.Proofs.Ytnkpcnnbeaomnaa.C
end
