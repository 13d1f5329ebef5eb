import Derived.Test.YtnkpcnnbeaomnaaTO6

section
-- Written by a program of this session (a scratch print over hand-made contracts), out of the translation. Not trusted: Lean checks it.
namespace Go.Proofs.Ytnkpcnnbeaomnaa.C
open Go.RowKit Go.Proofs.YtnkpcnnbeaomnaaW.PrintWords Go.Proofs.YtnkpcnnbeaomnaaW.PrintLast Go.Proofs.YtnkpcnnbeaomnaaW.PrintMore
attribute [local go_sem] max2_int min2_int max_two min_two max_three min_three max_four min_four   -- for this text's walks alone
set_option linter.unusedVariables false
set_option linter.unusedSimpArgs false

/-! ### aumbryref04_Behind: function 48 -/
mutual
def aumbryref04_Behind.j0 : Nat → List (S28) → Int → Bool → Option (Int)
  | 0, _, _, _ => none
  | k + 1, x0, x1, x14 => if x14 = true then (some (-1)) else (if 0 ≤ x1 then (if x1 < (x0.length : Int) then (aumbryref04_Behind.l0 k x0 (wrap64 (x1 + 1)) ((rd_T28 x0 x1).f1) 0) else (none)) else (none))
def aumbryref04_Behind.l0 : Nat → List (S28) → Int → Int → Int → Option (Int)
  | 0, _, _, _, _ => none
  | k + 1, x0, x1, x5, x6 => if x6 < x5 then (if x1 ≥ 0 then ((aumbryref04_Behind.f k x0 x1).bind fun t319 => (aumbryref04_Behind.l0 k x0 t319 x5 (wrap64 (x6 + 1)))) else (some x1)) else (some x1)
def aumbryref04_Behind.f : Nat → List (S28) → Int → Option (Int)
  | 0, _, _ => none
  | k + 1, l0, a1 => if a1 < 0 then (aumbryref04_Behind.j0 k l0 a1 true) else (aumbryref04_Behind.j0 k l0 a1 (decide (a1 ≥ (l0.length : Int))))
end
theorem aumbryref04_Behind.mono_l : ∀ k, (∀ y0 y1, LeO (aumbryref04_Behind.f k y0 y1) (aumbryref04_Behind.f (k + 1) y0 y1)) ∧ (∀ y0 y1 y2, LeO (aumbryref04_Behind.j0 k y0 y1 y2) (aumbryref04_Behind.j0 (k + 1) y0 y1 y2)) ∧ (∀ y0 y1 y2 y3, LeO (aumbryref04_Behind.l0 k y0 y1 y2 y3) (aumbryref04_Behind.l0 (k + 1) y0 y1 y2 y3))
  | 0 => ⟨fun _ _ r h => by simp [aumbryref04_Behind.f] at h, fun _ _ _ r h => by simp [aumbryref04_Behind.j0] at h, fun _ _ _ _ r h => by simp [aumbryref04_Behind.l0] at h⟩
  | k + 1 => by
    obtain ⟨ih0, ih1, ih2⟩ := aumbryref04_Behind.mono_l k
    refine ⟨?_, ?_, ?_⟩
    · intro y0 y1
      unfold aumbryref04_Behind.f
      repeat' first
      | (with_reducible exact ih0 _ _)
      | (with_reducible exact ih1 _ _ _)
      | (with_reducible exact ih2 _ _ _ _)
      | (with_reducible exact LeO.refl _)
      | (with_reducible exact LeO.none _)
      | (with_reducible refine LeO.ite ?_ ?_)
      | (with_reducible refine LeO.bind ?_ (fun _ => ?_))
      | exact ih0 _ _
      | exact ih1 _ _ _
      | exact ih2 _ _ _ _
      | exact LeO.none _
      | refine LeO.ite ?_ ?_
      | refine LeO.bind ?_ (fun _ => ?_)
    · intro y0 y1 y2
      unfold aumbryref04_Behind.j0
      repeat' first
      | (with_reducible exact ih0 _ _)
      | (with_reducible exact ih1 _ _ _)
      | (with_reducible exact ih2 _ _ _ _)
      | (with_reducible exact LeO.refl _)
      | (with_reducible exact LeO.none _)
      | (with_reducible refine LeO.ite ?_ ?_)
      | (with_reducible refine LeO.bind ?_ (fun _ => ?_))
      | exact ih0 _ _
      | exact ih1 _ _ _
      | exact ih2 _ _ _ _
      | exact LeO.none _
      | refine LeO.ite ?_ ?_
      | refine LeO.bind ?_ (fun _ => ?_)
    · intro y0 y1 y2 y3
      unfold aumbryref04_Behind.l0
      repeat' first
      | (with_reducible exact ih0 _ _)
      | (with_reducible exact ih1 _ _ _)
      | (with_reducible exact ih2 _ _ _ _)
      | (with_reducible exact LeO.refl _)
      | (with_reducible exact LeO.none _)
      | (with_reducible refine LeO.ite ?_ ?_)
      | (with_reducible refine LeO.bind ?_ (fun _ => ?_))
      | exact ih0 _ _
      | exact ih1 _ _ _
      | exact ih2 _ _ _ _
      | exact LeO.none _
      | refine LeO.ite ?_ ?_
      | refine LeO.bind ?_ (fun _ => ?_)
theorem aumbryref04_Behind.mono : ∀ a0 a1 k, LeO (aumbryref04_Behind.f k a0 a1) (aumbryref04_Behind.f (k + 1) a0 a1) := by
  intro a0 a1 k
  obtain ⟨ih0, ih1, ih2⟩ := aumbryref04_Behind.mono_l k
  exact ih0 a0 a1
set_option maxHeartbeats 8000000 in
set_option maxRecDepth 100000 in
theorem aumbryref04_Behind.calls (k : Nat) : ∀ (A0 : Option Addr) (c0 : Nat) (l0 : List (S28)) (a1 : Int) (r : Int) (w : World) (hr0 : Kd.C k28 w A0 l0.length l0) (hc0 : l0.length ≤ c0) (h : aumbryref04_Behind.f k l0 a1 = some r),
    Calls Try.prog 48 #[.slice A0 l0.length c0, .int .i64 a1] w fun e w' => e = .returned (.int .i64 r) ∧ Drawn0 w w' := by
  induction k using Nat.strongRecOn with
  | _ k ih =>
  intro A0 c0 l0 a1 r w hr0 hc0 h
  cases k with
  | zero => exact absurd h (by simp [aumbryref04_Behind.f])
  | succ k =>
  simp only [aumbryref04_Behind.f] at h
  have HR0 := Aside0.mk hr0
  have HC0 := Aside0.mk hc0
  clear hr0 hc0
  have H : (if a1 < 0 then (aumbryref04_Behind.j0 k l0 a1 true) else (aumbryref04_Behind.j0 k l0 a1 (decide (a1 ≥ (l0.length : Int))))) = some r := h
  clear h
  have HC3 := Aside0.mk H
  clear H
  go_enter Try.func48, Try.ntmps48
  go_upto_region 1 with (fail)
  go_cut [14] (fun v14 wc => ∃ (kq : Nat) (x14_2 : Bool), v14 = .bool x14_2 ∧ Aside0 (aumbryref04_Behind.j0 kq l0 a1 x14_2 = some r) ∧ Aside0 (kq ≤ k) ∧ Drawn0 w wc)
  case first =>
    have H := HC3.out
    clear HC3
    by_cases c4 : a1 < 0
    · rw [if_pos c4] at H
      have c4b0 : decide (a1 < 0) = true := decide_eq_true c4
      clear c4
      (first | rw [c4b0] | (simp only [i64_w, i32_w]; rw [c4b0]) | skip)
      have H' := Aside0.mk H
      clear H
      go_wp2
      go_meet
      case rel => exact ⟨_, (true), (by first | rfl | (simp; done) | (simp [*]; done)), H', ⟨by first | omega | exact Nat.le_refl _⟩, by repeat (first | exact Drawn0.refl _ | apply Drawn0.step)⟩
    · rw [if_neg c4] at H
      have c4b0 : decide (a1 < 0) = false := decide_eq_false c4
      clear c4
      (first | rw [c4b0] | (simp only [i64_w, i32_w]; rw [c4b0]) | skip)
      have H' := Aside0.mk H
      clear H
      go_wp2
      go_meet
      case rel => exact ⟨_, (decide (a1 ≥ (l0.length : Int))), (by first | rfl | (simp; done) | (simp [*]; done)), H', ⟨by first | omega | exact Nat.le_refl _⟩, by repeat (first | exact Drawn0.refl _ | apply Drawn0.step)⟩
  case rest =>
    clear HC3
    try clear p2
    try clear c4
    try clear c4b0
    obtain ⟨kq, x14_2, rfl, HA, HJ2, ⟨mc2, rfl⟩⟩ := hcut
    cases kq with
    | zero => exact absurd HA.out (by simp [aumbryref04_Behind.j0])
    | succ kj2 =>
      have H := HA.out
      clear HA
      simp only [aumbryref04_Behind.j0] at H
      by_cases c5 : x14_2 = true
      · subst c5
        have H1 : (some (-1)) = some r := by rw [if_pos rfl] at H; exact H
        clear H
        have H := H1
        clear H1
        obtain rfl := Option.some.inj H
        go_wp2
        go_ret
        exact ⟨by first | rfl | (simp; done) | (simp [*]; done), by repeat (first | exact Drawn0.refl _ | apply Drawn0.step)⟩
      · replace c5 := Bool.eq_false_iff.mpr c5
        subst c5
        have H1 : (if 0 ≤ a1 then (if a1 < (l0.length : Int) then (aumbryref04_Behind.l0 kj2 l0 (wrap64 (a1 + 1)) ((rd_T28 l0 a1).f1) 0) else (none)) else (none)) = some r := by rw [if_neg (show ¬ (false = true) by decide)] at H; exact H
        clear H
        have H := H1
        clear H1
        by_cases c6 : 0 ≤ a1
        · rw [if_pos c6] at H
          have c6b0 : decide (0 ≤ a1) = true := decide_eq_true c6
          clear c6
          by_cases c7 : a1 < (l0.length : Int)
          · rw [if_pos c7] at H
            have c7b0 : decide (a1 < (l0.length : Int)) = true := decide_eq_true c7
            clear c7
            have H' := Aside0.mk H
            clear H
            have p318 : 0 ≤ (a1 : Int) := of_decide_eq_true (by first | (with_reducible assumption) | assumption)
            have q318 : a1 < (l0.length : Int) := of_decide_eq_true (by first | (with_reducible assumption) | assumption)
            obtain ⟨ad318, e318, hx318_0, hx318_1⟩ := at_T28 HR0.out a1 p318 q318
            cases e318
            replace p318 := eq_true p318
            replace q318 := eq_true q318
            go_wp2
            go_loopg [1, 6] kj2 (fun kq v1 v6 w' => ∃ (x1_2 : Int) (x6_2 : Int), v1 = .int .i64 x1_2 ∧ v6 = .int .i64 x6_2 ∧ Aside0 (aumbryref04_Behind.l0 kq l0 x1_2 ((rd_T28 l0 a1).f1) x6_2 = some r) ∧ Aside0 (kq ≤ kj2) ∧ Drawn0 w w')
            case atStart => exact ⟨(wrap64 (a1 + 1)), (0), (by first | rfl | (simp; done) | (simp [*]; done)), (by first | rfl | (simp; done) | (simp [*]; done)), H', ⟨Nat.le_refl _⟩, by repeat (first | exact Drawn0.refl _ | apply Drawn0.step)⟩
            case round =>
              clear H'
              try clear c2
              try clear p2
              try clear p3
              try clear q3
              try clear hx3
              try clear c4
              try clear c4b0
              try clear c5
              try clear c6
              try clear c6b0
              try clear p6
              try clear c7
              try clear c7b0
              try clear hx318_0
              try clear hx318_1
              try clear p2
              try clear p318
              try clear q318
              obtain ⟨x1_2, x6_2, rfl, rfl, HA, HK2, ⟨m2, rfl⟩⟩ := hrel
              cases gk with
              | zero => exact absurd HA.out (by simp [aumbryref04_Behind.l0])
              | succ k2 =>
                have H := HA.out
                clear HA
                simp only [aumbryref04_Behind.l0] at H
                by_cases c8 : x6_2 < ((rd_T28 l0 a1).f1)
                · rw [if_pos c8] at H
                  have c8b0 : decide (x6_2 < ((rd_T28 l0 a1).f1)) = true := decide_eq_true c8
                  clear c8
                  by_cases c9 : x1_2 ≥ 0
                  · rw [if_pos c9] at H
                    have c9b0 : decide (0 ≤ x1_2) = true := decide_eq_true c9
                    clear c9
                    replace H := Option.bind_eq_some_iff.mp H
                    obtain ⟨t319, A100, H⟩ := H
                    replace H : (aumbryref04_Behind.l0 k2 l0 t319 ((rd_T28 l0 a1).f1) (wrap64 (x6_2 + 1))) = some r := H
                    have A10 := Aside0.mk A100
                    clear A100
                    have H' := Aside0.mk H
                    clear H
                    go_wp2_with (first | ((with_reducible refine gate_callee (f := 48) rfl ?_); refine goesL_ (some 33) rfl rfl Try.func48 (by kernel_rfl) rfl #[.slice (some ad318) l0.length c0, .int .i64 x1_2] rfl (by (try simp only [List.map_toArray, List.map_cons, List.map_nil]); first | done | rfl | (simp only [List.length_drop, List.length_take]; rfl)) ?_; (with_reducible refine (ih k2 (by have := HJ2.out; have := HK2.out; omega) _ _ l0 x1_2 t319 _ ?side1 ?side2 A10.out).mono ?_); (case side1 => repeat (first | exact HR0.out | (with_reducible refine Kd.C_alloc ?_ _) | (with_reducible refine Kd.C_drewN ?_ _) | (with_reducible refine Kd.C_drew ?_))); (case side2 => exact HC0.out); rintro e w' ⟨rfl, ⟨nd, rfl⟩⟩; refine ⟨_, rfl, ?_⟩))
                    go_roundg k2
                    case measure => have := HJ2.out; have := HK2.out; omega
                    case rel => exact ⟨(t319), (wrap64 (x6_2 + 1)), (by first | rfl | (simp; done) | (simp [*]; done)), (by first | rfl | (simp; done) | (simp [*]; done)), H', ⟨by have := HJ2.out; have := HK2.out; omega⟩, by repeat (first | exact Drawn0.refl _ | apply Drawn0.step)⟩
                  · rw [if_neg c9] at H
                    have c9b0 : decide (0 ≤ x1_2) = false := decide_eq_false c9
                    clear c9
                    obtain rfl := Option.some.inj H
                    go_wp2
                    go_ret
                    exact ⟨by first | rfl | (simp; done) | (simp [*]; done), by repeat (first | exact Drawn0.refl _ | apply Drawn0.step)⟩
                · rw [if_neg c8] at H
                  have c8b0 : decide (x6_2 < ((rd_T28 l0 a1).f1)) = false := decide_eq_false c8
                  clear c8
                  obtain rfl := Option.some.inj H
                  go_wp2
                  go_ret
                  exact ⟨by first | rfl | (simp; done) | (simp [*]; done), by repeat (first | exact Drawn0.refl _ | apply Drawn0.step)⟩
          · rw [if_neg c7] at H
            exact absurd H (by simp)
        · rw [if_neg c6] at H
          exact absurd H (by simp)

end Go.Proofs.Ytnkpcnnbeaomnaa.C
end

section
-- Written by a program of this session (a scratch print over hand-made contracts), out of the translation. Not trusted: Lean checks it.
namespace Go.Proofs.Ytnkpcnnbeaomnaa.C
open Go.RowKit Go.Proofs.YtnkpcnnbeaomnaaW.PrintWords Go.Proofs.YtnkpcnnbeaomnaaW.PrintLast Go.Proofs.YtnkpcnnbeaomnaaW.PrintMore
attribute [local go_sem] max2_int min2_int max_two min_two max_three min_three max_four min_four   -- for this text's walks alone
set_option linter.unusedVariables false
set_option linter.unusedSimpArgs false

/-! ### aumbryref04_Kids: function 27 -/
def aumbryref04_Kids.l0 : Nat → List (S28) → List (List (S28)) → Int → Option ((List (List (S28))))
  | 0, _, _, _ => none
  | k + 1, x0, x3, x4 => if x4 < (x0.length : Int) then ((aumbryref04_Behind.f k x0 x4).bind fun t375 => (if 0 ≤ x4 then (if x4 ≤ t375 then (if t375 ≤ (x0.length : Int) then ((aumbryref04_Copy.f ((x0.take (t375 : Int).toNat).drop (x4 : Int).toNat)).bind fun t380 => (if x3.length < 5864062014805 then ((aumbryref04_Behind.f k x0 x4).bind fun t386 => (aumbryref04_Kids.l0 k x0 (x3 ++ [t380]) t386)) else (none))) else (none)) else (none)) else (none))) else (some x3)
def aumbryref04_Kids.f (k : Nat) (l0 : List (S28)) : Option ((List (List (S28)))) := aumbryref04_Kids.l0 k l0 ([] : List (List (S28))) 1
theorem aumbryref04_Kids.mono_l : ∀ k, (∀ y0 y1 y2, LeO (aumbryref04_Kids.l0 k y0 y1 y2) (aumbryref04_Kids.l0 (k + 1) y0 y1 y2))
  | 0 => fun _ _ _ r h => by simp [aumbryref04_Kids.l0] at h
  | k + 1 => by
    have ih0 := aumbryref04_Kids.mono_l k
    · intro y0 y1 y2
      unfold aumbryref04_Kids.l0
      repeat' first
      | (with_reducible exact ih0 _ _ _)
      | (with_reducible exact aumbryref04_Behind.mono _ _ _)
      | (with_reducible exact LeO.refl _)
      | (with_reducible exact LeO.none _)
      | (with_reducible refine LeO.ite ?_ ?_)
      | (with_reducible refine LeO.bind ?_ (fun _ => ?_))
      | exact ih0 _ _ _
      | exact aumbryref04_Behind.mono _ _ _
      | exact LeO.none _
      | refine LeO.ite ?_ ?_
      | refine LeO.bind ?_ (fun _ => ?_)
theorem aumbryref04_Kids.mono : ∀ a0 k, LeO (aumbryref04_Kids.f k a0) (aumbryref04_Kids.f (k + 1) a0) := by
  intro a0 k
  have ih0 := aumbryref04_Kids.mono_l k
  unfold aumbryref04_Kids.f
  repeat' first
      | (with_reducible exact ih0 _ _ _)
      | (with_reducible exact aumbryref04_Behind.mono _ _ _)
      | (with_reducible exact LeO.refl _)
      | (with_reducible exact LeO.none _)
      | (with_reducible refine LeO.ite ?_ ?_)
      | (with_reducible refine LeO.bind ?_ (fun _ => ?_))
      | exact ih0 _ _ _
      | exact aumbryref04_Behind.mono _ _ _
      | exact LeO.none _
      | refine LeO.ite ?_ ?_
      | refine LeO.bind ?_ (fun _ => ?_)
set_option maxHeartbeats 8000000 in
set_option maxRecDepth 100000 in
theorem aumbryref04_Kids.calls (k : Nat) (A0 : Option Addr) (c0 : Nat) (l0 : List (S28)) (r : List (List (S28))) (w : World) (hr0 : Kd.C k28 w A0 l0.length l0) (hc0 : l0.length ≤ c0) (h : aumbryref04_Kids.f k l0 = some r) :
    Calls Try.prog 27 #[.slice A0 l0.length c0] w fun e w' => ∃ v0_ : Value, e = .returned (v0_) ∧ Kd.S (Kd.slice 28 k28) 23 w' w.heap.size (fun _ => True) v0_ r ∧ Below w.heap.size w w' := by
  have HR0 := Aside0.mk hr0
  have HC0 := Aside0.mk hc0
  clear hr0 hc0
  have HB := Aside0.mk (Below.refl w.heap.size w)
  have H : (aumbryref04_Kids.l0 k l0 ([] : List (List (S28))) 1) = some r := h
  clear h
  have H' := Aside0.mk H
  clear H
  go_enter Try.func27, Try.ntmps27
  go_wp2
  go_loopg [3, 4] k (fun kq v3 v4 w' => ∃ (x3_1 : List (List (S28))) (x4_1 : Int), v4 = .int .i64 x4_1 ∧ Aside0 (aumbryref04_Kids.l0 kq l0 x3_1 x4_1 = some r) ∧ Aside0 (kq ≤ k) ∧ Aside0 (Kd.S (Kd.slice 28 k28) 23 w' w.heap.size (fun _ => True) v3 x3_1) ∧ Aside0 (Below w.heap.size w w'))
  case atStart => exact ⟨(([] : List (List (S28)))), (1), (by first | rfl | (simp; done) | (simp [*]; done)), H', ⟨Nat.le_refl _⟩, ⟨by first | exact Kd.S_nil _ _ _ _ _ | exact Kd.N_nil _ _ _ _ _ | exact Kd.V_nil _ _ _ _ _ | exact Kd.Q_nil _ _ _ _ _ | exact Kd.R_nil _ _ _ _ _⟩, ⟨by repeat (first | (with_reducible first | exact HB.out | apply below_alloc | apply pw_below_drewN | apply below_drew1) | exact HB.out)⟩⟩
  case round =>
    clear H'
    obtain ⟨x3_1, x4_1, rfl, HA, HK1, HO_3, HB⟩ := hrel
    cases gk with
    | zero => exact absurd HA.out (by simp [aumbryref04_Kids.l0])
    | succ k1 =>
      have H := HA.out
      clear HA
      simp only [aumbryref04_Kids.l0] at H
      by_cases c2 : x4_1 < (l0.length : Int)
      · rw [if_pos c2] at H
        have c2b0 : decide (x4_1 < (l0.length : Int)) = true := decide_eq_true c2
        clear c2
        replace H := Option.bind_eq_some_iff.mp H
        obtain ⟨t375, A30, H⟩ := H
        replace H : (if 0 ≤ x4_1 then (if x4_1 ≤ t375 then (if t375 ≤ (l0.length : Int) then ((aumbryref04_Copy.f ((l0.take (t375 : Int).toNat).drop (x4_1 : Int).toNat)).bind fun t380 => (if x3_1.length < 5864062014805 then ((aumbryref04_Behind.f k1 l0 x4_1).bind fun t386 => (aumbryref04_Kids.l0 k1 l0 (x3_1 ++ [t380]) t386)) else (none))) else (none)) else (none)) else (none)) = some r := H
        have A3 := Aside0.mk A30
        clear A30
        by_cases c4 : 0 ≤ x4_1
        · rw [if_pos c4] at H
          have c4b0 := eq_true c4
          have c4b1 : decide (0 ≤ x4_1) = true := decide_eq_true c4
          clear c4
          by_cases c5 : x4_1 ≤ t375
          · rw [if_pos c5] at H
            have c5b0 := eq_true c5
            have c5b1 : decide (x4_1 ≤ t375) = true := decide_eq_true c5
            clear c5
            by_cases c6 : t375 ≤ (l0.length : Int)
            · rw [if_pos c6] at H
              have c6b0 := eq_true c6
              have c6b1 : decide (t375 ≤ (l0.length : Int)) = true := decide_eq_true c6
              clear c6
              obtain ⟨y376, hy376⟩ : ∃ y_ : List (S28), y_ = ((l0.take (t375 : Int).toNat).drop (x4_1 : Int).toNat) := ⟨_, rfl⟩
              replace H : ((aumbryref04_Copy.f y376).bind fun t380 => (if x3_1.length < 5864062014805 then ((aumbryref04_Behind.f k1 l0 x4_1).bind fun t386 => (aumbryref04_Kids.l0 k1 l0 (x3_1 ++ [t380]) t386)) else (none))) = some r := by first | (rw [hy376]; with_reducible exact H) | (have H2_ := (Option.bind_some _ _).symm.trans H; rw [hy376]; with_reducible exact H2_) | (have H2_ := (Option.bind_some _ _).symm.trans H; with_reducible exact H2_) | with_reducible exact H | (rw [hy376]; exact H) | exact H
              have Ny376 := Aside0.mk hy376
              clear hy376
              replace H := Option.bind_eq_some_iff.mp H
              obtain ⟨t380, A70, H⟩ := H
              replace H : (if x3_1.length < 5864062014805 then ((aumbryref04_Behind.f k1 l0 x4_1).bind fun t386 => (aumbryref04_Kids.l0 k1 l0 (x3_1 ++ [t380]) t386)) else (none)) = some r := H
              have A7 := Aside0.mk A70
              clear A70
              by_cases c8 : x3_1.length < 5864062014805
              · rw [if_pos c8] at H
                have LMc8 := Aside0.mk c8
                clear c8
                obtain ⟨y383, hy383⟩ : ∃ y_ : List (List (S28)), y_ = (x3_1 ++ [t380]) := ⟨_, rfl⟩
                replace H : ((aumbryref04_Behind.f k1 l0 x4_1).bind fun t386 => (aumbryref04_Kids.l0 k1 l0 y383 t386)) = some r := by first | (rw [hy383]; with_reducible exact H) | (have H2_ := (Option.bind_some _ _).symm.trans H; rw [hy383]; with_reducible exact H2_) | (have H2_ := (Option.bind_some _ _).symm.trans H; with_reducible exact H2_) | with_reducible exact H | (rw [hy383]; exact H) | exact H
                have Ny383 := Aside0.mk hy383
                clear hy383
                replace H := Option.bind_eq_some_iff.mp H
                obtain ⟨t386, A90, H⟩ := H
                replace H : (aumbryref04_Kids.l0 k1 l0 y383 t386) = some r := H
                have A9 := Aside0.mk A90
                clear A90
                have H' := Aside0.mk H
                clear H
                go_wp2_with (first | ((with_reducible refine gate_callee (f := 48) rfl ?_); refine goesL_ (some 17) rfl rfl Try.func48 (by kernel_rfl) rfl #[.slice A0 l0.length c0, .int .i64 x4_1] rfl (by (try simp only [List.map_toArray, List.map_cons, List.map_nil]); first | done | rfl | (simp only [List.length_drop, List.length_take]; rfl)) ?_; (with_reducible refine (aumbryref04_Behind.calls k1 _ _ l0 x4_1 t375 _ ?side1 ?side2 A3.out).mono ?_); (case side1 => repeat (first | exact (Kd.C_below HR0.out HB.out) | (with_reducible refine Kd.C_alloc ?_ _) | (with_reducible refine Kd.C_drewN ?_ _) | (with_reducible refine Kd.C_drew ?_))); (case side2 => exact HC0.out); rintro e w' ⟨rfl, ⟨nd, rfl⟩⟩; refine ⟨_, rfl, ?_⟩; have q10 : (t375 : Int) ≤ ((l0.length : Int) : Int) := of_decide_eq_true (by first | (with_reducible assumption) | assumption); obtain ⟨i010, hi010, _, hsz10, _⟩ := info_parts info28; have hroom10 : l0.length ≤ c0 := HC0.out; have hC10 : Kd.C k28 _ A0 l0.length l0 := HR0.out; have ql10 : (x4_1 : Int) ≤ (t375 : Int) := of_decide_eq_true (by first | (with_reducible assumption) | assumption); have q010 : (0 : Int) ≤ (x4_1 : Int) := of_decide_eq_true (by first | (with_reducible assumption) | assumption); have hcut10 := cut_mid (P := Try.prog) 23 28 .i64 .i64 Try.underlying23 hi010 2 hsz10 A0 l0.length c0 x4_1 t375 q010 ql10 q10 hroom10; have hr10 := Kd.C_mid (lo := (x4_1 : Int).toNat) (hi := (t375 : Int).toNat) (c := c0) hC10 (by omega) (by omega) hroom10; obtain ⟨A10, hA10⟩ : ∃ A1, A1 = (if c0 = (x4_1 : Int).toNat then A0 else (A0 : Option Addr).map (·.add ((x4_1 : Int).toNat * 2))) := ⟨_, rfl⟩; obtain ⟨c10, hc10⟩ : ∃ c1, c1 = c0 - (x4_1 : Int).toNat := ⟨_, rfl⟩; have hy10 : y376.length = (t375 : Int).toNat - (x4_1 : Int).toNat := (by rw [Ny376.out, List.length_drop, List.length_take] <;> omega); rw [show ((l0).take (t375 : Int).toNat).drop (x4_1 : Int).toNat = y376 from Ny376.out.symm] at hr10; replace hr10 : Kd.C k28 _ A10 y376.length y376 := (by rw [hA10]; exact hr10); rw [← hy10, ← hA10, ← hc10] at hcut10; have HR379 := Aside0.mk hr10; have HC379 := Aside0.mk (show y376.length ≤ c10 from by rw [hy10, hc10]; exact Nat.sub_le_sub_right (Nat.le_trans (by omega) hroom10) _); clear hr10 hC10 hroom10 hi010 hsz10 hc10; have KY10 := Aside0.mk hy10; have KA10 := Aside0.mk hA10; clear hy10 hA10; replace q10 := eq_true q10) | ((with_reducible refine gate_callee (f := 20) rfl ?_); refine goesL_ (some 19) rfl rfl Try.func20 (by kernel_rfl) rfl #[.slice A10 y376.length c10] rfl (by (try simp only [List.map_toArray, List.map_cons, List.map_nil]); first | done | rfl | (simp only [List.length_drop, List.length_take]; rfl)) ?_; (with_reducible refine (aumbryref04_Copy.calls _ _ y376 t380 _ ?side1 ?side2 A7.out).mono ?_); (case side1 => repeat (first | exact (Kd.C_below HR379.out (by repeat (first | (with_reducible first | exact HB.out | apply below_alloc | apply pw_below_drewN | apply below_drew1) | exact HB.out))) | (with_reducible refine Kd.C_alloc ?_ _) | (with_reducible refine Kd.C_drewN ?_ _) | (with_reducible refine Kd.C_drew ?_))); (case side2 => exact HC379.out); rintro e w11 ⟨v381, rfl, ho0, hb⟩; refine ⟨_, rfl, ?_⟩; have n0_ := Aside0.mk (Kd.S_elder' (by (with_reducible repeat (first | apply Kd.S_alloc | apply Kd.S_drewN | apply Kd.S_drew)); exact HO_3.out) (Kd.R_base ho0) hb); have n1_ := Aside0.mk (Kd.R_lower ho0 (below_size (by repeat (first | (with_reducible first | exact HB.out | apply below_alloc | apply pw_below_drewN | apply below_drew1) | exact HB.out)))); have n2_ := Aside0.mk (below_step (by repeat (first | (with_reducible first | exact HB.out | apply below_alloc | apply pw_below_drewN | apply below_drew1) | exact HB.out)) hb); clear HO_3; clear HB; have HO_3 := n0_; have HO382 := n1_; have HB := n2_; clear n0_ n1_ n2_; (try clear hb); (try clear hb2); (try clear hk); (try clear hi); (try clear ho0); obtain ⟨Ao13, co13, eo13⟩ := Kd.R_slice HO382.out; subst eo13) | ((with_reducible refine gate_builtin (b := .append) (xs := #[.tmp 12, .tmp 20]) rfl ?_); at_builtin; refine Kd.S_append (Kd.slice 28 k28) (w0 := w) w.heap.size rfl (.tmp 12) (.tmp 20) 48 23 (.slice none 0 0) 24 rfl Try.underlying48 info23 rfl (by decide) (by omega) u3 x3_1 t380 [.slice Ao13 t380.length co13] (fun _ => True) (fun k_ => some k_ = (.slice Ao13 t380.length co13 : Value).ownBlock) rfl rfl ?aP (fun k_ hk_ => ((Kd.R_mono (ok' := fun k_ => ((fun _ => True)) k_ ∧ some k_ ≠ (u3 : Value).ownBlock) (Kd.R_apart' (HO382.out) (Kd.S_typed HO_3.out) (by decide)) (fun k_ hk => ⟨trivial, hk.2⟩))).1 k_ hk_.symm) ?aF ?aO ?aB ?aS ?aL ?_; (case aP => exact Kd.M_row (Kd.R_mono (Kd.R_tight rfl (Kd.R_mono (ok' := fun k_ => ((fun _ => True)) k_ ∧ some k_ ≠ (u3 : Value).ownBlock) (Kd.R_apart' (HO382.out) (Kd.S_typed HO_3.out) (by decide)) (fun k_ hk => ⟨trivial, hk.2⟩))) (fun _ h_ => h_))); (case aB => exact (by repeat (first | (with_reducible first | exact HB.out | apply below_alloc | apply pw_below_drewN | apply below_drew1) | exact HB.out))); (case aF => exact (fun _ _ => trivial)); (case aO => exact (by (with_reducible repeat (first | apply Kd.S_alloc | apply Kd.S_drewN | apply Kd.S_drew)); exact Kd.S_mono HO_3.out (fun k_ hk => ⟨trivial, fun e_ => hk.2 e_⟩))); (case aS => exact (below_size (by repeat (first | (with_reducible first | exact HB.out | apply below_alloc | apply pw_below_drewN | apply below_drew1) | exact HB.out)))); (case aL => have := LMc8.out; omega); intro v384 w12 ho hb hg hat; rw [← Ny383.out] at ho; have n0_ := Aside0.mk (hb); have n1_ := Aside0.mk (ho); clear HB; clear HO_3; clear HO382; have HB := n0_; have HO385 := n1_; clear n0_ n1_; clear ho hb hg hat) | ((with_reducible refine gate_callee (f := 48) rfl ?_); refine goesL_ (some 11) rfl rfl Try.func48 (by kernel_rfl) rfl #[.slice A0 l0.length c0, .int .i64 x4_1] rfl (by (try simp only [List.map_toArray, List.map_cons, List.map_nil]); first | done | rfl | (simp only [List.length_drop, List.length_take]; rfl)) ?_; (with_reducible refine (aumbryref04_Behind.calls k1 _ _ l0 x4_1 t386 _ ?side1 ?side2 A9.out).mono ?_); (case side1 => repeat (first | exact (Kd.C_below HR0.out HB.out) | (with_reducible refine Kd.C_alloc ?_ _) | (with_reducible refine Kd.C_drewN ?_ _) | (with_reducible refine Kd.C_drew ?_))); (case side2 => exact HC0.out); rintro e w' ⟨rfl, ⟨nd, rfl⟩⟩; refine ⟨_, rfl, ?_⟩))
                go_roundg k1
                case measure => have := HK1.out; omega
                case rel => exact ⟨(y383), (t386), (by first | rfl | (simp; done) | (simp [*]; done)), H', ⟨by have := HK1.out; omega⟩, ⟨by (with_reducible repeat (first | apply Kd.S_alloc | apply Kd.S_drewN | apply Kd.S_drew)); exact HO385.out⟩, ⟨by repeat (first | (with_reducible first | exact HB.out | apply below_alloc | apply pw_below_drewN | apply below_drew1) | exact HB.out)⟩⟩
              · rw [if_neg c8] at H
                exact absurd H (by simp)
            · rw [if_neg c6] at H
              exact absurd H (by simp)
          · rw [if_neg c5] at H
            exact absurd H (by simp)
        · rw [if_neg c4] at H
          exact absurd H (by simp)
      · rw [if_neg c2] at H
        have c2b0 : decide (x4_1 < (l0.length : Int)) = false := decide_eq_false c2
        clear c2
        obtain rfl := Option.some.inj H
        go_wp2
        go_ret
        exact ⟨_, by first | rfl | (simp [errW_none, errW_some] <;> rfl) | (simp [*, errW_none, errW_some] <;> rfl), by (with_reducible repeat (first | apply Kd.S_alloc | apply Kd.S_drewN | apply Kd.S_drew)); exact HO_3.out, by repeat (first | (with_reducible first | exact HB.out | apply below_alloc | apply pw_below_drewN | apply below_drew1) | exact HB.out)⟩

end Go.Proofs.Ytnkpcnnbeaomnaa.C
end
