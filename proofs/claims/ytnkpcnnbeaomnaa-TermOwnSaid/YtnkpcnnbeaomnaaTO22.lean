import Derived.Test.YtnkpcnnbeaomnaaTO6
import Derived.Test.YtnkpcnnbeaomnaaTO15
import Derived.Test.YtnkpcnnbeaomnaaTO21
import Derived.Test.YtnkpcnnbeaomnaaTO12
import Derived.Test.YtnkpcnnbeaomnaaTO17
import Derived.Deep.Slices
import Derived.ChangeSame
import Derived.SizedLaws

section
-- Written by a program of this session (a scratch print over hand-made contracts), out of the translation. Not trusted: Lean checks it.
namespace Go.Proofs.Ytnkpcnnbeaomnaa.C
open Go.RowKit Go.Proofs.YtnkpcnnbeaomnaaW.PrintWords Go.Proofs.YtnkpcnnbeaomnaaW.PrintLast Go.Proofs.YtnkpcnnbeaomnaaW.PrintMore
attribute [local go_sem] max2_int min2_int max_two min_two max_three min_three max_four min_four   -- for this text's walks alone
set_option linter.unusedVariables false
set_option linter.unusedSimpArgs false

/-! ### aumbryref04_Make: function 23 -/
mutual
def aumbryref04_Make.l0 : Nat → ByteArray → List (List (S28)) → Int → Int → Option ((List (S28)) × Int)
  | 0, _, _, _, _ => none
  | k + 1, x0, x1, x12, x13 => if x13 < x12 then (if 0 ≤ x13 then (if x13 < (x1.length : Int) then ((aumbryref04_Check.f k (rd_L3 x1 x13)).bind fun t327 => (if t327 = 0 then (aumbryref04_Make.l0 k x0 x1 x12 (wrap64 (x13 + 1))) else (some (([] : List (S28)), t327)))) else (none)) else (none)) else (aumbryref04_Make.l1 k x1 (([(⟨x0, (x1.length : Int)⟩ : S28)] : List (S28))) (x1.length : Int) 0)
def aumbryref04_Make.l1 : Nat → List (List (S28)) → List (S28) → Int → Int → Option ((List (S28)) × Int)
  | 0, _, _, _, _ => none
  | k + 1, x1, x8, x31, x32 => if x32 < x31 then (if (x8.length : Int) > 64 then (some (([] : List (S28)), 6)) else (if 0 ≤ x32 then (if x32 < (x1.length : Int) then (if x8.length + (rd_L3 x1 x32).length < 5864062014805 then (aumbryref04_Make.l1 k x1 (x8 ++ (rd_L3 x1 x32)) x31 (wrap64 (x32 + 1))) else (none)) else (none)) else (none))) else ((aumbryref04_Check.f k x8).bind fun t335 => (if t335 = 0 then (some (x8, 0)) else (some (([] : List (S28)), t335))))
end
def aumbryref04_Make.f (k : Nat) (a0 : ByteArray) (l1 : List (List (S28))) : Option ((List (S28)) × Int) := aumbryref04_Make.l0 k a0 l1 (l1.length : Int) 0
theorem aumbryref04_Make.mono_l : ∀ k, (∀ y0 y1 y2 y3, LeO (aumbryref04_Make.l0 k y0 y1 y2 y3) (aumbryref04_Make.l0 (k + 1) y0 y1 y2 y3)) ∧ (∀ y0 y1 y2 y3, LeO (aumbryref04_Make.l1 k y0 y1 y2 y3) (aumbryref04_Make.l1 (k + 1) y0 y1 y2 y3))
  | 0 => ⟨fun _ _ _ _ r h => by simp [aumbryref04_Make.l0] at h, fun _ _ _ _ r h => by simp [aumbryref04_Make.l1] at h⟩
  | k + 1 => by
    obtain ⟨ih0, ih1⟩ := aumbryref04_Make.mono_l k
    refine ⟨?_, ?_⟩
    · intro y0 y1 y2 y3
      unfold aumbryref04_Make.l0
      repeat' first
      | (with_reducible exact ih0 _ _ _ _)
      | (with_reducible exact ih1 _ _ _ _)
      | (with_reducible exact aumbryref04_Check.mono _ _)
      | (with_reducible exact LeO.refl _)
      | (with_reducible exact LeO.none _)
      | (with_reducible refine LeO.ite ?_ ?_)
      | (with_reducible refine LeO.bind ?_ (fun _ => ?_))
      | exact ih0 _ _ _ _
      | exact ih1 _ _ _ _
      | exact aumbryref04_Check.mono _ _
      | exact LeO.none _
      | refine LeO.ite ?_ ?_
      | refine LeO.bind ?_ (fun _ => ?_)
    · intro y0 y1 y2 y3
      unfold aumbryref04_Make.l1
      repeat' first
      | (with_reducible exact ih0 _ _ _ _)
      | (with_reducible exact ih1 _ _ _ _)
      | (with_reducible exact aumbryref04_Check.mono _ _)
      | (with_reducible exact LeO.refl _)
      | (with_reducible exact LeO.none _)
      | (with_reducible refine LeO.ite ?_ ?_)
      | (with_reducible refine LeO.bind ?_ (fun _ => ?_))
      | exact ih0 _ _ _ _
      | exact ih1 _ _ _ _
      | exact aumbryref04_Check.mono _ _
      | exact LeO.none _
      | refine LeO.ite ?_ ?_
      | refine LeO.bind ?_ (fun _ => ?_)
theorem aumbryref04_Make.mono : ∀ a0 a1 k, LeO (aumbryref04_Make.f k a0 a1) (aumbryref04_Make.f (k + 1) a0 a1) := by
  intro a0 a1 k
  obtain ⟨ih0, ih1⟩ := aumbryref04_Make.mono_l k
  unfold aumbryref04_Make.f
  repeat' first
      | (with_reducible exact ih0 _ _ _ _)
      | (with_reducible exact ih1 _ _ _ _)
      | (with_reducible exact aumbryref04_Check.mono _ _)
      | (with_reducible exact LeO.refl _)
      | (with_reducible exact LeO.none _)
      | (with_reducible refine LeO.ite ?_ ?_)
      | (with_reducible refine LeO.bind ?_ (fun _ => ?_))
      | exact ih0 _ _ _ _
      | exact ih1 _ _ _ _
      | exact aumbryref04_Check.mono _ _
      | exact LeO.none _
      | refine LeO.ite ?_ ?_
      | refine LeO.bind ?_ (fun _ => ?_)
set_option maxHeartbeats 8000000 in
set_option maxRecDepth 100000 in
theorem aumbryref04_Make.calls (k : Nat) (a0 : ByteArray) (A1 : Option Addr) (c1 : Nat) (l1 : List (List (S28))) (r1 : List (S28)) (r2 : Int) (w : World) (hr1 : Kd.C (Kd.slice 28 k28) w A1 l1.length l1) (hc1 : l1.length ≤ c1) (h : aumbryref04_Make.f k a0 l1 = some (r1, r2)) :
    Calls Try.prog 23 #[.string a0, .slice A1 l1.length c1] w fun e w' => ∃ v0_ : Value, e = .returned (.tuple #[v0_, .int .i64 r2]) ∧ Kd.R k28 28 w' w.heap.size (fun _ => True) v0_ r1 ∧ Below w.heap.size w w' := by
  have hu28 := Try.underlying28
  have HR1 := Aside0.mk hr1
  have HC1 := Aside0.mk hc1
  clear hr1 hc1
  have HB := Aside0.mk (Below.refl w.heap.size w)
  have H : (aumbryref04_Make.l0 k a0 l1 (l1.length : Int) 0) = some (r1, r2) := h
  clear h
  have H' := Aside0.mk H
  clear H
  go_enter Try.func23, Try.ntmps23
  go_wp2
  go_loopg [13] k (fun kq v13 w' => ∃ (x13_1 : Int), v13 = .int .i64 x13_1 ∧ Aside0 (aumbryref04_Make.l0 kq a0 l1 (l1.length : Int) x13_1 = some (r1, r2)) ∧ Aside0 (kq ≤ k) ∧ Aside0 (Below w.heap.size w w'))
  case atStart => exact ⟨(0), (by first | rfl | (simp; done) | (simp [*]; done)), H', ⟨Nat.le_refl _⟩, ⟨by repeat (first | (with_reducible first | exact HB.out | apply below_alloc | apply pw_below_drewN | apply below_drew1) | exact HB.out)⟩⟩
  case round =>
    clear H'
    try clear c1
    try clear c2
    try clear p2
    obtain ⟨x13_1, rfl, HA, HK1, HB⟩ := hrel
    cases gk with
    | zero => exact absurd HA.out (by simp [aumbryref04_Make.l0])
    | succ k1 =>
      have H := HA.out
      clear HA
      simp only [aumbryref04_Make.l0] at H
      by_cases c3 : x13_1 < (l1.length : Int)
      · rw [if_pos c3] at H
        have c3b0 : decide (x13_1 < (l1.length : Int)) = true := decide_eq_true c3
        clear c3
        by_cases c4 : 0 ≤ x13_1
        · rw [if_pos c4] at H
          have c4b0 : decide (0 ≤ x13_1) = true := decide_eq_true c4
          clear c4
          by_cases c5 : x13_1 < (l1.length : Int)
          · rw [if_pos c5] at H
            have c5b0 : decide (x13_1 < (l1.length : Int)) = true := decide_eq_true c5
            clear c5
            replace H := Option.bind_eq_some_iff.mp H
            obtain ⟨t327, A60, H⟩ := H
            replace H : (if t327 = 0 then (aumbryref04_Make.l0 k1 a0 l1 (l1.length : Int) (wrap64 (x13_1 + 1))) else (some (([] : List (S28)), t327))) = some (r1, r2) := H
            have A6 := Aside0.mk A60
            clear A60
            by_cases c7 : t327 = 0
            · rw [if_pos c7] at H
              have c7b0 : (t327 == 0) = true := beq_iff_eq.mpr c7
              have c7b1 : (t327 != 0) = false := bne_eq_false_iff_eq.mpr c7
              clear c7
              have H' := Aside0.mk H
              clear H
              have p326 : 0 ≤ (x13_1 : Int) := of_decide_eq_true (by first | (with_reducible assumption) | assumption)
              have q326 : x13_1 < (l1.length : Int) := of_decide_eq_true (by first | (with_reducible assumption) | assumption)
              obtain ⟨ad326, A326_0, c326_0, e326, hx326_0, hl326_0, hi326_0⟩ := at_L3 HR1.out x13_1 p326 q326
              cases e326
              replace hx326_0 := (HB.out.cell (World.block_lt_of_cell? w _ hx326_0)).trans hx326_0
              have HR326_0 := Aside0.mk hi326_0
              have HC326_0 := Aside0.mk hl326_0
              clear hi326_0 hl326_0
              replace p326 := eq_true p326
              replace q326 := eq_true q326
              go_wp2_with (first | ((with_reducible refine gate_callee (f := 45) rfl ?_); refine goesL_ (some 20) rfl rfl Try.func45 (by kernel_rfl) rfl #[.slice A326_0 (rd_L3 l1 x13_1).length c326_0] rfl (by (try simp only [List.map_toArray, List.map_cons, List.map_nil]); first | done | rfl | (simp only [List.length_drop, List.length_take]; rfl)) ?_; (with_reducible refine (aumbryref04_Check.calls k1 _ _ (rd_L3 l1 x13_1) t327 _ ?side1 ?side2 A6.out).mono ?_); (case side1 => repeat (first | exact (Kd.C_below HR326_0.out HB.out) | (with_reducible refine Kd.C_alloc ?_ _) | (with_reducible refine Kd.C_drewN ?_ _) | (with_reducible refine Kd.C_drew ?_))); (case side2 => exact HC326_0.out); rintro e w' ⟨rfl, ⟨nd, rfl⟩⟩; refine ⟨_, rfl, ?_⟩))
              go_roundg k1
              case measure => have := HK1.out; omega
              case rel => exact ⟨(wrap64 (x13_1 + 1)), (by first | rfl | (simp; done) | (simp [*]; done)), H', ⟨by have := HK1.out; omega⟩, ⟨by repeat (first | (with_reducible first | exact HB.out | apply below_alloc | apply pw_below_drewN | apply below_drew1) | exact HB.out)⟩⟩
            · rw [if_neg c7] at H
              have c7b0 : (t327 == 0) = false := beq_eq_false_iff_ne.mpr c7
              have c7b1 : (t327 != 0) = true := bne_iff_ne.mpr c7
              simp only [Option.some.injEq, Prod.mk.injEq] at H
              obtain ⟨rfl, rfl⟩ := H
              have p326 : 0 ≤ (x13_1 : Int) := of_decide_eq_true (by first | (with_reducible assumption) | assumption)
              have q326 : x13_1 < (l1.length : Int) := of_decide_eq_true (by first | (with_reducible assumption) | assumption)
              obtain ⟨ad326, A326_0, c326_0, e326, hx326_0, hl326_0, hi326_0⟩ := at_L3 HR1.out x13_1 p326 q326
              cases e326
              replace hx326_0 := (HB.out.cell (World.block_lt_of_cell? w _ hx326_0)).trans hx326_0
              have HR326_0 := Aside0.mk hi326_0
              have HC326_0 := Aside0.mk hl326_0
              clear hi326_0 hl326_0
              replace p326 := eq_true p326
              replace q326 := eq_true q326
              go_wp2_with (first | ((with_reducible refine gate_callee (f := 45) rfl ?_); refine goesL_ (some 20) rfl rfl Try.func45 (by kernel_rfl) rfl #[.slice A326_0 (rd_L3 l1 x13_1).length c326_0] rfl (by (try simp only [List.map_toArray, List.map_cons, List.map_nil]); first | done | rfl | (simp only [List.length_drop, List.length_take]; rfl)) ?_; (with_reducible refine (aumbryref04_Check.calls k1 _ _ (rd_L3 l1 x13_1) t327 _ ?side1 ?side2 A6.out).mono ?_); (case side1 => repeat (first | exact (Kd.C_below HR326_0.out HB.out) | (with_reducible refine Kd.C_alloc ?_ _) | (with_reducible refine Kd.C_drewN ?_ _) | (with_reducible refine Kd.C_drew ?_))); (case side2 => exact HC326_0.out); rintro e w' ⟨rfl, ⟨nd, rfl⟩⟩; refine ⟨_, rfl, ?_⟩))
              go_ret2
              exact ⟨_, by first | rfl | (simp [errW_none, errW_some] <;> rfl) | (simp [*, errW_none, errW_some] <;> rfl), by first | exact Kd.R_nil _ _ _ _ _ | exact Kd.N_nil _ _ _ _ _ | exact Kd.V_nil _ _ _ _ _ | exact Kd.Q_nil _ _ _ _ _ | exact Kd.S_nil _ _ _ _ _, by repeat (first | (with_reducible first | exact HB.out | apply below_alloc | apply pw_below_drewN | apply below_drew1) | exact HB.out)⟩
          · rw [if_neg c5] at H
            exact absurd H (by simp)
        · rw [if_neg c4] at H
          exact absurd H (by simp)
      · rw [if_neg c3] at H
        have c3b0 : decide (x13_1 < (l1.length : Int)) = false := decide_eq_false c3
        clear c3
        obtain ⟨y328, hy328⟩ : ∃ y_ : List (S28), y_ = (([(⟨a0, (l1.length : Int)⟩ : S28)] : List (S28))) := ⟨_, rfl⟩
        replace H : (aumbryref04_Make.l1 k1 l1 y328 (l1.length : Int) 0) = some (r1, r2) := by first | (rw [hy328]; with_reducible exact H) | (have H2_ := (Option.bind_some _ _).symm.trans H; rw [hy328]; with_reducible exact H2_) | (have H2_ := (Option.bind_some _ _).symm.trans H; with_reducible exact H2_) | with_reducible exact H | (rw [hy328]; exact H) | exact H
        have Ny328 := Aside0.mk hy328
        clear hy328
        have H' := Aside0.mk H
        clear H
        go_wp2_with (first | ((with_reducible refine gate_dst (N := 29) rfl ?_); refine Kd.R_lit k28 _ 28 ?hg (N := 29) ?hd (xs := ([(⟨a0, (l1.length : Int)⟩ : S28)] : List (S28))) (inner := [.string a0, .int .i64 (l1.length : Int)]) (ok := fun _ => True) (okp := fun _ => True) ?hr ?hp (fun _ hk => hk) trivial (Below.refl _ _) (Nat.le_refl _) (by simp) ?_; (case hd => rfl); (case hg => rfl); (case hr => first | (go_simp; done) | (go_simp; rfl)); (case hp => exact (Reps.c2 (show Kd.M k28 _ _ _ (⟨a0, (l1.length : Int)⟩ : S28) [.string a0, .int .i64 (l1.length : Int)] from (k28_mkM _ _ _ (⟨a0, (l1.length : Int)⟩ : S28) )) (Reps.none _ _))); intro v329 w8 ho9 hb hg_ hnew_; clear hg_ hnew_; (first | rw [← Ny328.out] at ho9 | (simp only [Int.reduceToNat] at ho9; rw [← Ny328.out] at ho9)); have n0_ := Aside0.mk (Kd.R_lower ho9 (below_size (by repeat (first | (with_reducible first | exact HB.out | apply below_alloc | apply pw_below_drewN | apply below_drew1) | exact HB.out)))); have n1_ := Aside0.mk (below_step (by repeat (first | (with_reducible first | exact HB.out | apply below_alloc | apply pw_below_drewN | apply below_drew1) | exact HB.out)) hb); clear HB; have HO330 := n0_; have HB := n1_; clear n0_ n1_; clear hb ho9))
        go_loopg [8, 32] k1 (fun kq v8 v32 w' => ∃ (x8_2 : List (S28)) (x32_2 : Int), v32 = .int .i64 x32_2 ∧ Aside0 (aumbryref04_Make.l1 kq l1 x8_2 (l1.length : Int) x32_2 = some (r1, r2)) ∧ Aside0 (kq ≤ k1) ∧ Aside0 (Kd.R k28 28 w' w.heap.size (fun _ => True) v8 x8_2) ∧ Aside0 (Below w.heap.size w w'))
        case atStart => exact ⟨(y328), (0), (by first | rfl | (simp; done) | (simp [*]; done)), H', ⟨Nat.le_refl _⟩, ⟨by (with_reducible repeat (first | apply Kd.R_alloc | apply Kd.R_drewN | apply Kd.R_drew)); exact HO330.out⟩, ⟨by repeat (first | (with_reducible first | exact HB.out | apply below_alloc | apply pw_below_drewN | apply below_drew1) | exact HB.out)⟩⟩
        case round =>
          clear H'
          try clear c1
          try clear c2
          try clear p2
          try clear c3
          try clear c3b0
          try clear p3
          try clear q3
          try clear hx3
          try clear c4
          try clear c4b0
          try clear c5
          try clear c5b0
          try clear p6
          try clear c7
          try clear c7b0
          try clear c7b1
          try clear hx326_0
          try clear p2
          try clear p326
          try clear q326
          obtain ⟨x8_2, x32_2, rfl, HA, HK2, HO_8, HB⟩ := hrel
          cases gk with
          | zero => exact absurd HA.out (by simp [aumbryref04_Make.l1])
          | succ k2 =>
            have H := HA.out
            clear HA
            simp only [aumbryref04_Make.l1] at H
            by_cases c10 : x32_2 < (l1.length : Int)
            · rw [if_pos c10] at H
              have c10b0 : decide (x32_2 < (l1.length : Int)) = true := decide_eq_true c10
              clear c10
              by_cases c11 : (x8_2.length : Int) > 64
              · rw [if_pos c11] at H
                have c11b0 : decide (64 < (x8_2.length : Int)) = true := decide_eq_true c11
                have c11b1 : decide (64 < x8_2.length) = true := decide_eq_true (by omega)
                clear c11
                simp only [Option.some.injEq, Prod.mk.injEq] at H
                obtain ⟨rfl, rfl⟩ := H
                obtain ⟨Ao12, co12, eo12⟩ := Kd.R_slice HO_8.out
                subst eo12
                go_wp2
                go_ret2
                exact ⟨_, by first | rfl | (simp [errW_none, errW_some] <;> rfl) | (simp [*, errW_none, errW_some] <;> rfl), by first | exact Kd.R_nil _ _ _ _ _ | exact Kd.N_nil _ _ _ _ _ | exact Kd.V_nil _ _ _ _ _ | exact Kd.Q_nil _ _ _ _ _ | exact Kd.S_nil _ _ _ _ _, by repeat (first | (with_reducible first | exact HB.out | apply below_alloc | apply pw_below_drewN | apply below_drew1) | exact HB.out)⟩
              · rw [if_neg c11] at H
                have c11b0 : decide (64 < (x8_2.length : Int)) = false := decide_eq_false c11
                have c11b1 : decide (64 < x8_2.length) = false := decide_eq_false (by omega)
                clear c11
                by_cases c13 : 0 ≤ x32_2
                · rw [if_pos c13] at H
                  have c13b0 : decide (0 ≤ x32_2) = true := decide_eq_true c13
                  clear c13
                  by_cases c14 : x32_2 < (l1.length : Int)
                  · rw [if_pos c14] at H
                    have c14b0 : decide (x32_2 < (l1.length : Int)) = true := decide_eq_true c14
                    clear c14
                    by_cases c15 : x8_2.length + (rd_L3 l1 x32_2).length < 5864062014805
                    · rw [if_pos c15] at H
                      have LMc15 := Aside0.mk c15
                      clear c15
                      obtain ⟨y332, hy332⟩ : ∃ y_ : List (S28), y_ = (x8_2 ++ (rd_L3 l1 x32_2)) := ⟨_, rfl⟩
                      replace H : (aumbryref04_Make.l1 k2 l1 y332 (l1.length : Int) (wrap64 (x32_2 + 1))) = some (r1, r2) := by first | (rw [hy332]; with_reducible exact H) | (have H2_ := (Option.bind_some _ _).symm.trans H; rw [hy332]; with_reducible exact H2_) | (have H2_ := (Option.bind_some _ _).symm.trans H; with_reducible exact H2_) | with_reducible exact H | (rw [hy332]; exact H) | exact H
                      have Ny332 := Aside0.mk hy332
                      clear hy332
                      have H' := Aside0.mk H
                      clear H
                      obtain ⟨Ao16, co16, eo16⟩ := Kd.R_slice HO_8.out
                      subst eo16
                      have p331 : 0 ≤ (x32_2 : Int) := of_decide_eq_true (by first | (with_reducible assumption) | assumption)
                      have q331 : x32_2 < (l1.length : Int) := of_decide_eq_true (by first | (with_reducible assumption) | assumption)
                      obtain ⟨ad331, A331_0, c331_0, e331, hx331_0, hl331_0, hi331_0⟩ := at_L3 HR1.out x32_2 p331 q331
                      cases e331
                      replace hx331_0 := (HB.out.cell (World.block_lt_of_cell? w _ hx331_0)).trans hx331_0
                      have HR331_0 := Aside0.mk hi331_0
                      have HC331_0 := Aside0.mk hl331_0
                      clear hi331_0 hl331_0
                      replace p331 := eq_true p331
                      replace q331 := eq_true q331
                      go_wp2_with (first | ((with_reducible refine gate_builtin (b := .append) (xs := #[.tmp 38, .tmp 42]) rfl ?_); at_builtin; refine Kd.R_append_rows k28 (w0 := w) w.heap.size rfl (.tmp 38) (.tmp 42) 23 28 (.agg #[(.string ⟨#[]⟩), (.int .i64 0)]) 24 rfl Try.underlying23 info28 rfl (by decide) (by omega) (.slice Ao16 x8_2.length co16) x8_2 (rd_L3 l1 x32_2) _ _ _ (fun _ => True) (fun _ => False) rfl rfl ?aO ?aR (fun _ _ h => h) (fun _ h => h.elim) ?aF ?aB ?aS ?aL ?_; (case aR => repeat (first | exact (Kd.C_below HR331_0.out HB.out) | (with_reducible refine Kd.C_alloc ?_ _) | (with_reducible refine Kd.C_drewN ?_ _) | (with_reducible refine Kd.C_drew ?_))); (case aB => exact (by repeat (first | (with_reducible first | exact HB.out | apply below_alloc | apply pw_below_drewN | apply below_drew1) | exact HB.out))); (case aF => exact (fun _ _ => trivial)); (case aO => exact (by (with_reducible repeat (first | apply Kd.R_alloc | apply Kd.R_drewN | apply Kd.R_drew)); exact HO_8.out)); (case aS => exact (below_size (by repeat (first | (with_reducible first | exact HB.out | apply below_alloc | apply pw_below_drewN | apply below_drew1) | exact HB.out)))); (case aL => have := LMc15.out; omega); intro v333 w17 ho hb hg hat; rw [← Ny332.out] at ho; have n0_ := Aside0.mk (hb); have n1_ := Aside0.mk (ho); clear HB; clear HO_8; have HB := n0_; have HO334 := n1_; clear n0_ n1_; clear ho hb hg hat))
                      go_roundg k2
                      case measure => have := HK1.out; have := HK2.out; omega
                      case rel => exact ⟨(y332), (wrap64 (x32_2 + 1)), (by first | rfl | (simp; done) | (simp [*]; done)), H', ⟨by have := HK1.out; have := HK2.out; omega⟩, ⟨by (with_reducible repeat (first | apply Kd.R_alloc | apply Kd.R_drewN | apply Kd.R_drew)); exact HO334.out⟩, ⟨by repeat (first | (with_reducible first | exact HB.out | apply below_alloc | apply pw_below_drewN | apply below_drew1) | exact HB.out)⟩⟩
                    · rw [if_neg c15] at H
                      exact absurd H (by simp)
                  · rw [if_neg c14] at H
                    exact absurd H (by simp)
                · rw [if_neg c13] at H
                  exact absurd H (by simp)
            · rw [if_neg c10] at H
              have c10b0 : decide (x32_2 < (l1.length : Int)) = false := decide_eq_false c10
              clear c10
              replace H := Option.bind_eq_some_iff.mp H
              obtain ⟨t335, A180, H⟩ := H
              replace H : (if t335 = 0 then (some (x8_2, 0)) else (some (([] : List (S28)), t335))) = some (r1, r2) := H
              have A18 := Aside0.mk A180
              clear A180
              by_cases c19 : t335 = 0
              · rw [if_pos c19] at H
                have c19b0 : (t335 == 0) = true := beq_iff_eq.mpr c19
                have c19b1 : (t335 != 0) = false := bne_eq_false_iff_eq.mpr c19
                clear c19
                simp only [Option.some.injEq, Prod.mk.injEq] at H
                obtain ⟨rfl, rfl⟩ := H
                obtain ⟨Ao20, co20, eo20⟩ := Kd.R_slice HO_8.out
                subst eo20
                go_wp2_with (first | ((with_reducible refine gate_callee (f := 45) rfl ?_); refine goesL_ (some 46) rfl rfl Try.func45 (by kernel_rfl) rfl #[.slice Ao20 x8_2.length co20] rfl (by (try simp only [List.map_toArray, List.map_cons, List.map_nil]); first | done | rfl | (simp only [List.length_drop, List.length_take]; rfl)) ?_; (with_reducible refine (aumbryref04_Check.calls k2 _ _ x8_2 t335 _ ?side1 ?side2 A18.out).mono ?_); (case side1 => repeat (first | exact (Kd.R_reads' HO_8.out).2.2 | (with_reducible refine Kd.C_alloc ?_ _) | (with_reducible refine Kd.C_drewN ?_ _) | (with_reducible refine Kd.C_drew ?_))); (case side2 => exact (Kd.R_reads' HO_8.out).2.1); rintro e w' ⟨rfl, ⟨nd, rfl⟩⟩; refine ⟨_, rfl, ?_⟩))
                go_ret2
                exact ⟨_, by first | rfl | (simp [errW_none, errW_some] <;> rfl) | (simp [*, errW_none, errW_some] <;> rfl), by (with_reducible repeat (first | apply Kd.R_alloc | apply Kd.R_drewN | apply Kd.R_drew)); exact HO_8.out, by repeat (first | (with_reducible first | exact HB.out | apply below_alloc | apply pw_below_drewN | apply below_drew1) | exact HB.out)⟩
              · rw [if_neg c19] at H
                have c19b0 : (t335 == 0) = false := beq_eq_false_iff_ne.mpr c19
                have c19b1 : (t335 != 0) = true := bne_iff_ne.mpr c19
                simp only [Option.some.injEq, Prod.mk.injEq] at H
                obtain ⟨rfl, rfl⟩ := H
                obtain ⟨Ao21, co21, eo21⟩ := Kd.R_slice HO_8.out
                subst eo21
                go_wp2_with (first | ((with_reducible refine gate_callee (f := 45) rfl ?_); refine goesL_ (some 46) rfl rfl Try.func45 (by kernel_rfl) rfl #[.slice Ao21 x8_2.length co21] rfl (by (try simp only [List.map_toArray, List.map_cons, List.map_nil]); first | done | rfl | (simp only [List.length_drop, List.length_take]; rfl)) ?_; (with_reducible refine (aumbryref04_Check.calls k2 _ _ x8_2 t335 _ ?side1 ?side2 A18.out).mono ?_); (case side1 => repeat (first | exact (Kd.R_reads' HO_8.out).2.2 | (with_reducible refine Kd.C_alloc ?_ _) | (with_reducible refine Kd.C_drewN ?_ _) | (with_reducible refine Kd.C_drew ?_))); (case side2 => exact (Kd.R_reads' HO_8.out).2.1); rintro e w' ⟨rfl, ⟨nd, rfl⟩⟩; refine ⟨_, rfl, ?_⟩))
                go_ret2
                exact ⟨_, by first | rfl | (simp [errW_none, errW_some] <;> rfl) | (simp [*, errW_none, errW_some] <;> rfl), by first | exact Kd.R_nil _ _ _ _ _ | exact Kd.N_nil _ _ _ _ _ | exact Kd.V_nil _ _ _ _ _ | exact Kd.Q_nil _ _ _ _ _ | exact Kd.S_nil _ _ _ _ _, by repeat (first | (with_reducible first | exact HB.out | apply below_alloc | apply pw_below_drewN | apply below_drew1) | exact HB.out)⟩

end Go.Proofs.Ytnkpcnnbeaomnaa.C
end

section
/- What term.Make and the reference's Make come to. Plain words, no machine. -/
namespace Go.Proofs.Ytnkpcnnbeaomnaa.C
open Go.RowKit Go.Proofs.YtnkpcnnbeaomnaaW.PrintWords Go.Proofs.YtnkpcnnbeaomnaaW.PrintLast Go.Proofs.YtnkpcnnbeaomnaaW.PrintMore
set_option linter.unusedVariables false
set_option linter.unusedSimpArgs false

def ended (acc : List S28) : List S28 × Int := if chk acc = 0 then (acc, 0) else ([], chk acc)
def mkP : List S28 → List (List S28) → List S28 × Int
  | acc, [] => ended acc
  | acc, k :: r => if chk k = 0 then mkP (if acc.length ≤ 64 then acc ++ k else acc) r else ([], chk k)
def mkR : List S28 → List (List S28) → List S28 × Int
  | acc, [] => ended acc
  | acc, k :: r => if 64 < acc.length then ([], 6) else mkR (acc ++ k) r
def kErr : List (List S28) → Int
  | [] => 0
  | k :: r => if chk k = 0 then kErr r else chk k
theorem mkP_err : ∀ (ks : List (List S28)) (acc : List S28), kErr ks ≠ 0 → mkP acc ks = ([], kErr ks)
  | [], acc, h => absurd rfl h
  | k :: r, acc, h => by
    by_cases hk : chk k = 0
    · have e : kErr (k :: r) = kErr r := by simp only [kErr]; rw [if_pos hk]
      rw [e] at h ⊢
      simp only [mkP]
      rw [if_pos hk]
      exact mkP_err r _ h
    · simp only [mkP, kErr]
      rw [if_neg hk, if_neg hk]
theorem chk_big (t : List S28) (h : 64 < t.length) : chk t = 6 := by
  unfold chk
  rw [if_pos (by omega)]
theorem mkP_big : ∀ (ks : List (List S28)) (acc : List S28), kErr ks = 0 → 64 < acc.length → mkP acc ks = ([], 6)
  | [], acc, h, hb => by
    simp only [mkP, ended]
    rw [chk_big acc hb]
    rfl
  | k :: r, acc, h, hb => by
    by_cases hk : chk k = 0
    · have e : kErr (k :: r) = kErr r := by simp only [kErr]; rw [if_pos hk]
      rw [e] at h
      simp only [mkP]
      rw [if_pos hk, if_neg (by omega)]
      exact mkP_big r _ h hb
    · exact absurd (by simpa only [kErr, if_neg hk] using h) hk
theorem mkP_mkR : ∀ (ks : List (List S28)) (acc : List S28), kErr ks = 0 → mkP acc ks = mkR acc ks
  | [], acc, h => rfl
  | k :: r, acc, h => by
    by_cases hk : chk k = 0
    · by_cases hb : 64 < acc.length
      · rw [mkP_big _ _ h hb]
        simp only [mkR]
        rw [if_pos hb]
      · have e : kErr (k :: r) = kErr r := by simp only [kErr]; rw [if_pos hk]
        rw [e] at h
        simp only [mkP, mkR]
        rw [if_pos hk, if_neg hb, if_pos (by omega)]
        exact mkP_mkR r _ h
    · exact absurd (by simpa only [kErr, if_neg hk] using h) hk

theorem drop_L3 (l : List (List S28)) (i : Nat) (h : i < l.length) : l.drop i = rd_L3 l i :: l.drop (i + 1) := by
  rw [List.drop_eq_getElem_cons h]
  simp [rd_L3, List.getD_eq_getElem?_getD, List.getElem?_eq_getElem h]
theorem mem_L3 (l : List (List S28)) (i : Nat) (h : i < l.length) : rd_L3 l i ∈ l := by
  have : rd_L3 l i = l[i] := by simp [rd_L3, List.getD_eq_getElem?_getD, List.getElem?_eq_getElem h]
  rw [this]
  exact List.getElem_mem _

theorem make_l0 (l : List (List S28)) (hl : l.length ≤ 1000000) (hq : ∀ x ∈ l, x.length ≤ 1000000) : ∀ (d i : Nat) (acc : List S28), i + d = l.length → acc.length ≤ 2000000 → Ev (fun k => term_Make.l0 k acc l (l.length : Int) (i : Int)) (mkP acc (l.drop i))
  | 0, i, acc, h, ha => by
    obtain ⟨K, hc⟩ := check_ev acc
    dsimp only at hc
    refine Ev.nxt K (fun k hk => ?_)
    simp only [term_Make.l0]
    rw [if_neg (by omega), hc k hk, Option.bind_some, List.drop_eq_nil_of_le (by omega)]
    simp only [mkP, ended]
    split <;> rfl
  | d + 1, i, acc, h, ha => by
    have hw : wrap64 ((i : Int) + 1) = ((i + 1 : Nat) : Int) := by unfold wrap64; omega
    have hm := hq _ (mem_L3 l i (by omega))
    rw [drop_L3 l i (by omega)]
    obtain ⟨K1, hc⟩ := check_ev (rd_L3 l i)
    dsimp only at hc
    by_cases c1 : chk (rd_L3 l i) = 0
    · obtain ⟨K2, ih⟩ := make_l0 l hl hq d (i + 1) (if acc.length ≤ 64 then acc ++ rd_L3 l i else acc) (by omega) (by split <;> (first | (rw [List.length_append]; omega) | omega))
      dsimp only at ih
      refine Ev.nxt (max K1 K2) (fun k hk => ?_)
      simp only [term_Make.l0, mkP]
      rw [if_pos (by omega), if_pos (by omega), if_pos (by omega), hc k (by omega), Option.bind_some, if_pos c1, if_pos c1, hw]
      have := ih k (by omega)
      by_cases c2 : acc.length ≤ 64
      · rw [if_pos c2] at this
        rw [if_pos (by omega), if_pos (by omega), if_pos c2]
        exact this
      · rw [if_neg c2] at this
        rw [if_neg (by omega), if_neg c2]
        exact this
    · refine Ev.nxt K1 (fun k hk => ?_)
      simp only [term_Make.l0, mkP]
      rw [if_pos (by omega), if_pos (by omega), if_pos (by omega), hc k (by omega), Option.bind_some, if_neg c1, if_neg c1]
theorem make_ev (n : ByteArray) (l : List (List S28)) (hl : l.length ≤ 1000000) (hq : ∀ x ∈ l, x.length ≤ 1000000) : Ev (fun k => term_Make.f k n l) (mkP [⟨n, l.length⟩] l) :=
  make_l0 l hl hq l.length 0 _ (by omega) (by simp)

theorem rmake_l1 (l : List (List S28)) (hl : l.length ≤ 1000000) (hq : ∀ x ∈ l, x.length ≤ 1000000) : ∀ (d i : Nat) (acc : List S28), i + d = l.length → acc.length ≤ 2000000 → Ev (fun k => aumbryref04_Make.l1 k l acc (l.length : Int) (i : Int)) (mkR acc (l.drop i))
  | 0, i, acc, h, ha => by
    obtain ⟨K, hc⟩ := rcheck_ev acc
    dsimp only at hc
    refine Ev.nxt K (fun k hk => ?_)
    simp only [aumbryref04_Make.l1]
    rw [if_neg (by omega), hc k hk, Option.bind_some, List.drop_eq_nil_of_le (by omega)]
    simp only [mkR, ended]
    split <;> rfl
  | d + 1, i, acc, h, ha => by
    have hw : wrap64 ((i : Int) + 1) = ((i + 1 : Nat) : Int) := by unfold wrap64; omega
    have hm := hq _ (mem_L3 l i (by omega))
    rw [drop_L3 l i (by omega)]
    by_cases c1 : 64 < acc.length
    · refine Ev.nxt 0 (fun k hk => ?_)
      simp only [aumbryref04_Make.l1, mkR]
      rw [if_pos (by omega), if_pos (by omega), if_pos c1]
    · obtain ⟨K2, ih⟩ := rmake_l1 l hl hq d (i + 1) (acc ++ rd_L3 l i) (by omega) (by simp; omega)
      dsimp only at ih
      refine Ev.nxt K2 (fun k hk => ?_)
      simp only [aumbryref04_Make.l1, mkR]
      rw [if_pos (by omega), if_neg (by omega), if_pos (by omega), if_pos (by omega), if_pos (by omega), if_neg c1, hw]
      exact ih k hk
theorem rmake_l0 (n : ByteArray) (l : List (List S28)) (hl : l.length ≤ 1000000) (hq : ∀ x ∈ l, x.length ≤ 1000000) : ∀ (d i : Nat), i + d = l.length → Ev (fun k => aumbryref04_Make.l0 k n l (l.length : Int) (i : Int)) (if kErr (l.drop i) = 0 then mkR [⟨n, l.length⟩] l else ([], kErr (l.drop i)))
  | 0, i, h => by
    obtain ⟨K, hc⟩ := rmake_l1 l hl hq l.length 0 [⟨n, l.length⟩] (by omega) (by simp)
    dsimp only at hc
    refine Ev.nxt K (fun k hk => ?_)
    simp only [aumbryref04_Make.l0]
    rw [if_neg (by omega), List.drop_eq_nil_of_le (by omega), if_pos (show kErr [] = 0 from rfl)]
    exact hc k hk
  | d + 1, i, h => by
    have hw : wrap64 ((i : Int) + 1) = ((i + 1 : Nat) : Int) := by unfold wrap64; omega
    have hm := hq _ (mem_L3 l i (by omega))
    rw [drop_L3 l i (by omega)]
    obtain ⟨K1, hc⟩ := rcheck_ev (rd_L3 l i)
    dsimp only at hc
    by_cases c1 : chk (rd_L3 l i) = 0
    · have e : kErr (rd_L3 l i :: l.drop (i + 1)) = kErr (l.drop (i + 1)) := by simp only [kErr]; rw [if_pos c1]
      obtain ⟨K2, ih⟩ := rmake_l0 n l hl hq d (i + 1) (by omega)
      dsimp only at ih
      rw [e]
      refine Ev.nxt (max K1 K2) (fun k hk => ?_)
      simp only [aumbryref04_Make.l0]
      rw [if_pos (by omega), if_pos (by omega), if_pos (by omega), hc k (by omega), Option.bind_some, if_pos c1, hw]
      exact ih k (by omega)
    · have e : kErr (rd_L3 l i :: l.drop (i + 1)) = chk (rd_L3 l i) := by simp only [kErr]; rw [if_neg c1]
      rw [e]
      refine Ev.nxt K1 (fun k hk => ?_)
      simp only [aumbryref04_Make.l0]
      rw [if_pos (by omega), if_pos (by omega), if_pos (by omega), hc k (by omega), Option.bind_some, if_neg c1, if_neg c1]
theorem rmake_ev (n : ByteArray) (l : List (List S28)) (hl : l.length ≤ 1000000) (hq : ∀ x ∈ l, x.length ≤ 1000000) : Ev (fun k => aumbryref04_Make.f k n l) (mkP [⟨n, l.length⟩] l) := by
  have h := rmake_l0 n l hl hq l.length 0 (by omega)
  rw [List.drop_zero] at h
  by_cases c : kErr l = 0
  · rw [if_pos c] at h
    rw [mkP_mkR l _ c]
    exact h
  · rw [if_neg c] at h
    rw [mkP_err l _ c]
    exact h

theorem copyAll_l0 (l : List (List S28)) (hl : l.length ≤ 1000000) (hq : ∀ x ∈ l, x.length < 5864062014805) : ∀ (d i : Nat), i + d = l.length → Ev (fun k => aumbryref04_CopyAll.l0 k l (l.take i) (l.length : Int) (i : Int)) l
  | 0, i, h => by
    refine Ev.nxt 0 (fun k hk => ?_)
    simp only [aumbryref04_CopyAll.l0]
    rw [if_neg (by omega), List.take_of_length_le (by omega)]
  | d + 1, i, h => by
    have hw : wrap64 ((i : Int) + 1) = ((i + 1 : Nat) : Int) := by unfold wrap64; omega
    have hm := hq _ (mem_L3 l i (by omega))
    obtain ⟨K2, ih⟩ := copyAll_l0 l hl hq d (i + 1) (by omega)
    dsimp only at ih
    refine Ev.nxt K2 (fun k hk => ?_)
    simp only [aumbryref04_CopyAll.l0]
    have hc : aumbryref04_Copy.f (rd_L3 l i) = some (rd_L3 l i) := by
      unfold aumbryref04_Copy.f
      rw [if_pos (by simpa using hm)]
      rfl
    rw [if_pos (by omega), if_pos (by omega), if_pos (by omega), hc, Option.bind_some, if_pos (by rw [List.length_take]; omega), hw]
    have := ih k hk
    rw [List.take_add_one] at this
    have e : l[i]?.toList = [rd_L3 l i] := by
      rw [List.getElem?_eq_getElem (by omega)]
      simp [rd_L3, List.getD_eq_getElem?_getD, List.getElem?_eq_getElem (show i < l.length by omega)]
    rw [e] at this
    exact this
theorem copyAll_ev (l : List (List S28)) (hl : l.length ≤ 1000000) (hq : ∀ x ∈ l, x.length < 5864062014805) : Ev (fun k => aumbryref04_CopyAll.f k l) l := copyAll_l0 l hl hq l.length 0 (by omega)

theorem mkP_tree : ∀ (ks : List Tr) (acc : List S28), fineL ks → (acc ++ flatL ks).length ≤ 64 → mkP acc (ks.map flat) = ended (acc ++ flatL ks)
  | [], acc, _, _ => by simp [mkP, flatL]
  | T :: r, acc, hf, hl => by
    simp only [List.map_cons, mkP, flatL]
    simp only [flatL, List.length_append] at hl
    rw [if_pos (chk_of_tree T hf.1 (by omega)), if_pos (by omega), mkP_tree r _ hf.2 (by simp; omega), List.append_assoc]
theorem flatL_mem {ks : List Tr} {y : Tr} (hy : y ∈ ks) : (flat y).length ≤ (flatL ks).length := by
  induction ks with
  | nil => cases hy
  | cons z r ih =>
    rcases List.mem_cons.1 hy with rfl | hy
    · simp [flatL]
    · have := ih hy; simp [flatL]; omega
theorem mkP_len : ∀ (ks : List (List S28)) (acc : List S28), (mkP acc ks).1.length ≤ 64
  | [], acc => by
    simp only [mkP, ended]
    split
    · rename_i h
      obtain ⟨T, e, _, hl⟩ := tree_of_chk acc h
      exact hl
    · simp
  | k :: r, acc => by
    simp only [mkP]
    split
    · exact mkP_len r _
    · simp

end Go.Proofs.Ytnkpcnnbeaomnaa.C
end

section
/- What is handed in stays, what is answered is new memory: the law's plain statement. -/
namespace Go.Proofs.Ytnkpcnnbeaomnaa.Pure
open Go.RowKit Go.Proofs.Ytnkpcnnbeaomnaa.C Go.Proofs.YtnkpcnnbeaomnaaW.PrintWords Go.Proofs.YtnkpcnnbeaomnaaW.PrintLast
set_option linter.unusedVariables false
set_option linter.unusedSimpArgs false

theorem wrap_up (n : Nat) (h : n ≤ 4611686018427387904) : wrap64 ((n : Int) + 1) = ((n + 1 : Nat) : Int) := by unfold wrap64; omega
theorem wakes4_at : aumbrylaw04_wakes.f 40 = some true := by kernel_rfl
theorem wakes4_ev : Ev (fun k => aumbrylaw04_wakes.f k) true := Ev.of (g := fun k => aumbrylaw04_wakes.f k) (fun k => aumbrylaw04_wakes.mono k) wakes4_at
theorem copy_ev {t : List S28} (h : t.length < 5864062014805) : Ev (fun _ => aumbryref04_Copy.f t) t := ⟨0, fun k _ => by dsimp only; unfold aumbryref04_Copy.f; rw [if_pos (by simpa using h)]; rfl⟩

theorem copyAll_wide (l : List (List S28)) (hl : l.length < 5864062014805) (hq : ∀ x ∈ l, x.length < 5864062014805) : ∀ (d i : Nat), i + d = l.length → Ev (fun k => aumbryref04_CopyAll.l0 k l (l.take i) (l.length : Int) (i : Int)) l
  | 0, i, h => by
    refine Ev.nxt 0 (fun k hk => ?_)
    simp only [aumbryref04_CopyAll.l0]
    rw [if_neg (by omega), List.take_of_length_le (by omega)]
  | d + 1, i, h => by
    have hm := hq _ (mem_L3 l i (by omega))
    obtain ⟨K2, ih⟩ := copyAll_wide l hl hq d (i + 1) (by omega)
    dsimp only at ih
    refine Ev.nxt K2 (fun k hk => ?_)
    simp only [aumbryref04_CopyAll.l0]
    have hc : aumbryref04_Copy.f (rd_L3 l i) = some (rd_L3 l i) := by
      unfold aumbryref04_Copy.f
      rw [if_pos (by simpa using hm)]
      rfl
    rw [if_pos (by omega), if_pos (by omega), if_pos (by omega), hc, Option.bind_some, if_pos (by rw [List.length_take]; omega), wrap_up i (by omega)]
    have := ih k hk
    rw [List.take_add_one] at this
    have e : l[i]?.toList = [rd_L3 l i] := by
      rw [List.getElem?_eq_getElem (by omega)]
      simp [rd_L3, List.getD_eq_getElem?_getD, List.getElem?_eq_getElem (show i < l.length by omega)]
    rw [e] at this
    exact this

theorem chk_len {t : List S28} (h : chk t = 0) : t.length ≤ 64 := by
  obtain ⟨T, _, _, hl⟩ := tree_of_chk t h
  exact hl
theorem make_wide (l : List (List S28)) (hl : l.length < 5864062014805) : ∀ (d i : Nat) (acc : List S28), i + d = l.length → acc.length ≤ 128 → Ev (fun k => term_Make.l0 k acc l (l.length : Int) (i : Int)) (mkP acc (l.drop i))
  | 0, i, acc, h, ha => by
    obtain ⟨K, hc⟩ := check_ev acc
    dsimp only at hc
    refine Ev.nxt K (fun k hk => ?_)
    simp only [term_Make.l0]
    rw [if_neg (by omega), hc k hk, Option.bind_some, List.drop_eq_nil_of_le (by omega)]
    simp only [mkP, ended]
    split <;> rfl
  | d + 1, i, acc, h, ha => by
    rw [drop_L3 l i (by omega)]
    obtain ⟨K1, hc⟩ := check_ev (rd_L3 l i)
    dsimp only at hc
    by_cases c1 : chk (rd_L3 l i) = 0
    · have hm := chk_len c1
      obtain ⟨K2, ih⟩ := make_wide l hl d (i + 1) (if acc.length ≤ 64 then acc ++ rd_L3 l i else acc) (by omega) (by split <;> (first | (rw [List.length_append]; omega) | omega))
      dsimp only at ih
      refine Ev.nxt (max K1 K2) (fun k hk => ?_)
      simp only [term_Make.l0, mkP]
      rw [if_pos (by omega), if_pos (by omega), if_pos (by omega), hc k (by omega), Option.bind_some, if_pos c1, if_pos c1, wrap_up i (by omega)]
      have := ih k (by omega)
      by_cases c2 : acc.length ≤ 64
      · rw [if_pos c2] at this
        rw [if_pos (by omega), if_pos (by omega), if_pos c2]
        exact this
      · rw [if_neg c2] at this
        rw [if_neg (by omega), if_neg c2]
        exact this
    · refine Ev.nxt K1 (fun k hk => ?_)
      simp only [term_Make.l0, mkP]
      rw [if_pos (by omega), if_pos (by omega), if_pos (by omega), hc k (by omega), Option.bind_some, if_neg c1, if_neg c1]

/-- What stands behind the stores. -/
theorem tail (t : List S28) (ks l : List (List S28)) (ht : t.length < 5864062014805) (hl : l.length < 5864062014805) (hq : ∀ x ∈ l, x.length < 5864062014805) (want : ByteArray) (e : Int)
    (hp : Ev (fun k => aumbryref04_Print.f k t) (want, e)) : Ev (fun k => aumbrylaw04_TermOwn.j3 k t l (t ++ [(⟨⟨#[107, 101, 101, 112]⟩, 0⟩ : S28)]) l want false) true := by
  obtain ⟨K1, hp⟩ := hp
  obtain ⟨K2, hs⟩ := sameT_ev t (by omega)
  obtain ⟨K3, ha⟩ := sameAll_ev l (by omega) (fun x hx => by have := hq x hx; omega)
  dsimp only at hp hs ha
  refine Ev.nxt (max (max K1 K2) K3) (fun k hk => ?_)
  have e1 : (t ++ [(⟨⟨#[107, 101, 101, 112]⟩, 0⟩ : S28)]).take ((t.length : Int)).toNat = t := by simp
  have e2 : rd_T28 (t ++ [(⟨⟨#[107, 101, 101, 112]⟩, 0⟩ : S28)]) (t.length : Int) = ⟨⟨#[107, 101, 101, 112]⟩, 0⟩ := rd_mid t [] _
  simp only [aumbrylaw04_TermOwn.j3]
  rw [if_neg (by simp), if_pos (by omega), if_pos (by simp; omega), e1, hp k (by omega), Option.bind_some]
  dsimp only
  rw [if_pos rfl, if_pos (by simp; omega), e2, if_pos (by dsimp only; rw [ByteArray.toList_eq]), hs k (by omega), Option.bind_some, if_pos rfl, ha k (by omega)]
  rfl

theorem len_set (x7 : List (List S28)) (i j : Nat) (c : S28) (hi : i < x7.length) (m : Nat) (hm : (rd_L3 x7 (i : Int)).length = m) : (rd_L3 (x7.set i ((rd_L3 x7 (i : Int)).set j c)) (i : Int)).length = m := by
  simp only [rd_L3, Int.toNat_natCast, List.getD_eq_getElem?_getD] at hm ⊢
  rw [List.getElem?_set_self hi]
  simpa using hm
theorem all_set (x7 : List (List S28)) (i j : Nat) (c : S28) (hi : i < x7.length) (B : Nat) (h : ∀ x ∈ x7, x.length ≤ B) : ∀ x ∈ x7.set i ((rd_L3 x7 (i : Int)).set j c), x.length ≤ B := by
  intro x hx
  rcases List.mem_or_eq_of_mem_set hx with hx | rfl
  · exact h x hx
  · rw [List.length_set]
    exact h _ (mem_L3 x7 i hi)

theorem loop1 (t l : _) (x5 x6 : _) (x9 : List (List S28)) (x11 : List S28) (n : Nat) (i : Nat) (hi : i < n) (hn : n ≤ 4611686018427387904)
    (cont : ∀ x7 : List (List S28), x7.length = n → (∀ x ∈ x7, x.length ≤ 1000000) → Ev (fun k => aumbrylaw04_TermOwn.l0 k t l x5 x6 x7 x9 x11 (n : Int) ((i + 1 : Nat) : Int)) true) :
    ∀ (d j m : Nat) (x7 : List (List S28)), j + d = m → x7.length = n → (∀ x ∈ x7, x.length ≤ 1000000) → (rd_L3 x7 (i : Int)).length = m → Ev (fun k => aumbrylaw04_TermOwn.l1 k t l x5 x6 x7 x9 x11 (i : Int) (n : Int) (i : Int) (m : Int) (j : Int)) true
  | 0, j, m, x7, hd, h7, hb, hm => by
    obtain ⟨K, hc⟩ := cont x7 h7 hb
    dsimp only at hc
    refine Ev.nxt K (fun k hk => ?_)
    simp only [aumbrylaw04_TermOwn.l1]
    rw [if_neg (by omega), wrap_up i (by omega)]
    exact hc k hk
  | d + 1, j, m, x7, hd, h7, hb, hm => by
    have hmb := hb _ (mem_L3 x7 i (by omega))
    obtain ⟨K, ih⟩ := loop1 t l x5 x6 x9 x11 n i hi hn cont d (j + 1) m (x7.set i ((rd_L3 x7 (i : Int)).set j ⟨⟨#[120]⟩, (rd_T28 (rd_L3 x7 (i : Int)) (j : Int)).f1⟩)) (by omega) (by rw [List.length_set]; exact h7) (all_set x7 i j _ (by omega) _ hb) (len_set x7 i j _ (by omega) m hm)
    dsimp only at ih
    refine Ev.nxt K (fun k hk => ?_)
    simp only [aumbrylaw04_TermOwn.l1]
    rw [if_pos (by omega), if_pos (by omega), if_pos (by omega), if_pos (by omega), if_pos (by omega), wrap_up j (by omega), Int.toNat_natCast, Int.toNat_natCast]
    exact ih k hk

theorem loop0 (t l : _) (x5 x6 : _) (x9 : List (List S28)) (x11 : List S28) (n : Nat) (hn : n ≤ 4611686018427387904)
    (fin : Ev (fun k => aumbrylaw04_TermOwn.l2 k t l x5 x6 x9 x11 (x11.length : Int) 0) true) :
    ∀ (d i : Nat) (x7 : List (List S28)), i + d = n → x7.length = n → (∀ x ∈ x7, x.length ≤ 1000000) → Ev (fun k => aumbrylaw04_TermOwn.l0 k t l x5 x6 x7 x9 x11 (n : Int) (i : Int)) true
  | 0, i, x7, hd, h7, hb => by
    obtain ⟨K, hc⟩ := fin
    dsimp only at hc
    refine Ev.nxt K (fun k hk => ?_)
    simp only [aumbrylaw04_TermOwn.l0]
    rw [if_neg (by omega)]
    exact hc k hk
  | d + 1, i, x7, hd, h7, hb => by
    obtain ⟨K, hc⟩ := loop1 t l x5 x6 x9 x11 n i (by omega) hn (fun y hy hby => loop0 t l x5 x6 x9 x11 n hn fin d (i + 1) y (by omega) hy hby) (rd_L3 x7 (i : Int)).length 0 _ x7 (by omega) h7 hb rfl
    dsimp only at hc
    refine Ev.nxt K (fun k hk => ?_)
    simp only [aumbrylaw04_TermOwn.l0]
    rw [if_pos (by omega), if_pos (by omega), if_pos (by omega)]
    exact hc k hk

theorem loop2 (t l : _) (x5 x6 : _) (x9 : List (List S28)) (n : Nat) (hn : n ≤ 4611686018427387904)
    (fin : Ev (fun k => (aumbryref04_Print.f k t).bind fun bt254 => (if bt254.2 = 0 then ((aumbryref04_Kids.f k t).bind fun t256 => ((aumbryref04_SameAll.f k x9 t256).bind fun t259 => (aumbrylaw04_TermOwn.j3 k t l x5 x6 bt254.1 (!t259)))) else (aumbrylaw04_TermOwn.j3 k t l x5 x6 bt254.1 false))) true) :
    ∀ (d i : Nat) (x11 : List S28), i + d = n → x11.length = n → Ev (fun k => aumbrylaw04_TermOwn.l2 k t l x5 x6 x9 x11 (n : Int) (i : Int)) true
  | 0, i, x11, hd, h7 => by
    refine Ev.step (fun k => ?_) fin
    simp only [aumbrylaw04_TermOwn.l2]
    rw [if_neg (by omega)]
  | d + 1, i, x11, hd, h7 => by
    obtain ⟨K, ih⟩ := loop2 t l x5 x6 x9 n hn fin d (i + 1) (x11.set i ⟨⟨#[120]⟩, (rd_T28 x11 (i : Int)).f1⟩) (by omega) (by rw [List.length_set]; exact h7)
    dsimp only at ih
    refine Ev.nxt K (fun k hk => ?_)
    simp only [aumbrylaw04_TermOwn.l2]
    rw [if_pos (by omega), if_pos (by omega), if_pos (by omega), wrap_up i (by omega), Int.toNat_natCast]
    exact ih k hk

theorem whole (t : List S28) (l : List (List S28)) (ht : t.length < 5864062014805) (hl : l.length < 5864062014805) (hq : ∀ x ∈ l, x.length < 5864062014805) (ks : List (List S28)) (e : Int)
    (hk : Ev (fun k => term_Kids.f k t) (ks, e)) (hn : ks.length ≤ 1000) (hb : ∀ x ∈ ks, x.length ≤ 1000000)
    (fin : Ev (fun k => (aumbryref04_Print.f k t).bind fun bt254 => (if bt254.2 = 0 then ((aumbryref04_Kids.f k t).bind fun t256 => ((aumbryref04_SameAll.f k ks t256).bind fun t259 => (aumbrylaw04_TermOwn.j3 k t l (t ++ [(⟨⟨#[107, 101, 101, 112]⟩, 0⟩ : S28)]) l bt254.1 (!t259)))) else (aumbrylaw04_TermOwn.j3 k t l (t ++ [(⟨⟨#[107, 101, 101, 112]⟩, 0⟩ : S28)]) l bt254.1 false))) true) :
    ∃ k, aumbrylaw04_TermOwn.f k t l = some true := by
  refine Ev.rounds (r := true) ?_
  have e1 : (t ++ [(⟨⟨#[107, 101, 101, 112]⟩, 0⟩ : S28)]).take ((t.length : Int)).toNat = t := by simp
  have h0 : 0 ≤ (t.length : Int) := by omega
  have h1 : (t.length : Int) ≤ ((t ++ [(⟨⟨#[107, 101, 101, 112]⟩, 0⟩ : S28)]).length : Int) := by simp; omega
  have hm := mkP_len l [(⟨⟨#[102]⟩, l.length⟩ : S28)]
  refine Ev.bind wakes4_ev ?_
  simp only [if_true]
  refine Ev.bind (copy_ev ht) ?_
  simp only [if_pos ht, Option.bind_some]
  refine Ev.bind (show Ev (fun k => aumbryref04_CopyAll.f k l) l from copyAll_wide l hl hq l.length 0 (by omega)) ?_
  simp only [if_pos h0, if_pos h1, e1]
  refine Ev.bind hk (Ev.bind hk (Ev.bind (show Ev (fun k => term_Make.f k ⟨#[102]⟩ l) (mkP [(⟨⟨#[102]⟩, l.length⟩ : S28)] l) from make_wide l hl l.length 0 _ (by omega) (by simp)) ?_))
  exact loop0 t l _ l ks _ ks.length (by omega) (loop2 t l _ l ks (mkP [(⟨⟨#[102]⟩, l.length⟩ : S28)] l).1.length (by omega) fin (mkP [(⟨⟨#[102]⟩, l.length⟩ : S28)] l).1.length 0 _ (by omega) rfl) ks.length 0 ks (by omega) rfl hb

theorem TermOwn (t : List S28) (l : List (List S28)) (ht : t.length < 5864062014805) (hl : l.length < 5864062014805) (hq : ∀ x ∈ l, x.length < 5864062014805) : ∃ k, aumbrylaw04_TermOwn.f k t l = some true := by
  by_cases hc : chk t = 0
  · obtain ⟨T, rfl, hf, hl'⟩ := tree_of_chk t hc
    obtain ⟨n, ks⟩ := T
    have hks := flatL_len ks
    have hfl : (flat (.node n ks)).length = 1 + (flatL ks).length := by simp [flat]; omega
    have htame := tame_of_first _ (fine_to _ hf)
    have hb : ∀ x ∈ ks.map flat, x.length ≤ 1000000 := fun x hx => by
      obtain ⟨y, hy, rfl⟩ := List.mem_map.1 hx
      have := flatL_mem hy
      omega
    refine whole _ l ht hl hq (ks.map flat) 0 (kids_ok n ks hf hl') (by rw [List.length_map]; omega) hb ?_
    refine Ev.bind (rprint_ok _ hf hl') ?_
    simp only [if_true]
    refine Ev.bind (rkids_ev n ks (by omega) htame) ?_
    refine Ev.bind (sameAll_ev _ (by rw [List.length_map]; omega) (fun x hx => by have := hb x hx; omega)) ?_
    exact tail _ [] l ht hl hq _ _ (rprint_ok _ hf hl')
  · refine whole t l ht hl hq [] (chk t) (kids_bad t hc) (by simp) (by simp) ?_
    refine Ev.bind (rprint_bad t hc) ?_
    simp only [if_neg hc]
    exact tail t [] l ht hl hq _ _ (rprint_bad t hc)

end Go.Proofs.Ytnkpcnnbeaomnaa.Pure
end

section
/- An argument that can be read as data reads as a plain Lean value of its kind (strings, whole numbers, structs of two, slices of these), with the form's own bounds on its parts. -/
namespace Go.Proofs.Ytnkpcnnbeaomnaa.C
open Go.RowKit Go.ChangeShapes Go.WideShapes Go.Deep Go.Proofs.YtnkpcnnbeaomnaaW.PrintWords
set_option linter.unusedVariables false
set_option linter.unusedSimpArgs false

section
variable {H : Type} {enc : TypeId × Value → H} {P : Program} {w : World} {base : Nat} {spare : Nat → Bool} {held : Bool}

/-- What reads as data of type T is of kind d, and B holds of it. -/
def Opens (enc : TypeId × Value → H) (P : Program) (w : World) (base : Nat) (spare : Nat → Bool) (held : Bool) {α : Type} (d : Kd α) (T : TypeId) (B : α → Prop) : Prop :=
  ∀ fuel cs x, DataW.trod enc P w base spare held fuel T cs = some x → (∀ n ∈ x.1.weights P T, n ≤ reachBytes) → ∃ y, d.K w y cs ∧ B y

theorem opens_string {T : TypeId} (h : P.underlying T = some .string) : Opens enc P w base spare held Kd.string T (fun s => s.size ≤ reachBytes) := by
  intro fuel cs x hx hw
  obtain ⟨s, rfl, rfl, hs⟩ := DataW.trod_string h hx
  refine ⟨s, rfl, ?_⟩
  have := hw s.data.toList.length (by simp [DataW.weights])
  rwa [data_length] at this
theorem opens_int {T : TypeId} {k : IntKind} (h : P.underlying T = some (.int k)) : Opens enc P w base spare held (Kd.int k) T (fun n => (Lit.int k n).wf = true) := by
  intro fuel cs x hx hw
  obtain ⟨n, rfl, rfl, hs⟩ := DataW.trod_int h hx
  exact ⟨n, rfl, hs⟩
theorem opens_pair {α β : Type} {T : TypeId} {a : Kd α} {b : Kd β} {A : α → Prop} {B : β → Prop} {f0 f1 : Field} (h : P.underlying T = some (.struct #[f0, f1])) (hT : P.cellsOf T = P.cellsOf f0.type + P.cellsOf f1.type) (h0 : f0.offset = 0) (h1 : f1.offset = P.cellsOf f0.type)
    (ha : Opens enc P w base spare held a f0.type A) (hb : Opens enc P w base spare held b f1.type B) : Opens enc P w base spare held (Kd.pair a b) T (fun x => A x.1 ∧ B x.2) := by
  intro fuel cs x hx hw
  obtain ⟨y0, y1, n, rfl, hl, hy0, hy1⟩ := trod_struct2 h hx
  simp only [DataW.weights, h, List.map_cons, List.map_nil, DataW.weightsEach, List.append_nil, List.mem_append] at hw
  obtain ⟨z0, hz0, hA⟩ := ha _ _ _ hy0 (fun n hn => hw n (.inl hn))
  obtain ⟨z1, hz1, hB⟩ := hb _ _ _ hy1 (fun n hn => hw n (.inr hn))
  refine ⟨(z0, z1), ⟨_, _, ?_, hz0, hz1⟩, hA, hB⟩
  rw [h0, h1, List.drop_zero]
  have : (cs.drop (P.cellsOf f0.type)).take (P.cellsOf f1.type) = cs.drop (P.cellsOf f0.type) := List.take_of_length_le (by rw [List.length_drop]; omega)
  rw [this, List.take_append_drop]
theorem opens_iso {α β : Type} {T : TypeId} {d : Kd α} {A : α → Prop} (f : β → α) (g : α → β) (hfg : ∀ x, f (g x) = x) (h : Opens enc P w base spare held d T A) : Opens enc P w base spare held (Kd.iso d f) T (fun x => A (f x)) := by
  intro fuel cs x hx hw
  obtain ⟨y, hy, hA⟩ := h _ _ _ hx hw
  exact ⟨g y, by show d.K w (f (g y)) cs; rw [hfg]; exact hy, by show A (f (g y)); rw [hfg]; exact hA⟩

theorem mem_weightsAll {e : TypeId} : ∀ (l : List (DataW H)) (d : DataW H), d ∈ l → ∀ n ∈ d.weights P e, n ∈ DataW.weightsAll P e l
  | c :: r, d, hd, n, hn => by
    simp only [DataW.weightsAll, List.mem_append]
    rcases List.mem_cons.1 hd with rfl | hd
    · exact .inl hn
    · exact .inr (mem_weightsAll r d hd n hn)

theorem list_of {α : Type} {n : Nat} {p : Nat → α → Prop} (h : ∀ i, i < n → ∃ x, p i x) : ∃ l : List α, l.length = n ∧ ∀ i x, l[i]? = some x → p i x := by
  induction n with
  | zero => exact ⟨[], rfl, fun i x hx => by simp at hx⟩
  | succ n ih =>
    obtain ⟨l, hl, hp⟩ := ih (fun i hi => h i (by omega))
    obtain ⟨x, hx⟩ := h n (by omega)
    refine ⟨l ++ [x], by simp [hl], fun i y hy => ?_⟩
    by_cases hi : i < n
    · rw [List.getElem?_append_left (by omega)] at hy
      exact hp i y hy
    · have hi' : i = n := by
        have := (List.getElem?_eq_some_iff.1 hy).1
        simp at this
        omega
      subst hi'
      rw [List.getElem?_append_right (by omega), hl] at hy
      simp at hy
      subst hy
      exact hx

theorem opens_slice {α : Type} {T e : TypeId} {d : Kd α} {B : α → Prop} {bytes : Nat} (h : P.underlying T = some (.slice e)) (hsz : d.sz = P.cellsOf e) (hby : P.bytesOf e = bytes) (hd : Opens enc P w base spare held d e B) :
    Opens enc P w base spare held (Kd.slice e d) T (fun l => l.length * bytes ≤ reachBytes ∧ ∀ x ∈ l, B x) := by
  intro fuel cs x hx hw
  rcases open_slice h hx with ⟨rfl, rfl⟩ | ⟨a, len, cap, m, n, D, Pl, rfl, hb, hl, hm, hmm, rfl, hi⟩
  · exact ⟨[], ⟨none, 0, rfl, Nat.le_refl _, rfl, by simp, fun h => absurd h (by simp)⟩, by simp, fun x hx => by cases hx⟩
  · have hlm : len ≤ m := by rw [hmm]; split <;> omega
    simp only [DataW.weights, h, List.mem_cons, List.mem_append] at hw
    have hall : ∀ i, i < len → ∃ y, (∃ cs', w.cells? base (a.add (i * P.cellsOf e)) (P.cellsOf e) = some cs' ∧ d.K w y cs') ∧ B y := by
      intro i hil
      obtain ⟨cs', hc, ht⟩ := hi i (by omega)
      obtain ⟨y, hy, hB⟩ := hd _ _ _ ht (fun n hn => hw n (.inr (.inl (mem_weightsAll _ (D i) (List.mem_map.2 ⟨i, List.mem_range.2 hil, rfl⟩) n hn))))
      exact ⟨y, ⟨cs', hc, hy⟩, hB⟩
    obtain ⟨l, hll, hp⟩ := list_of hall
    have hlen : len * bytes ≤ reachBytes := by
      have := hw _ (.inl rfl)
      rw [hby] at this
      simp only [List.length_map, List.length_range] at this
      exact Nat.le_trans (Nat.mul_le_mul_right _ (by omega)) this
    refine ⟨l, ⟨some a, cap, by rw [hll], by omega, rfl, by simp only [maxLen] at hm; omega, fun _ => ⟨a, rfl, fun j p hj => ?_⟩⟩, by rw [hll]; exact hlen, fun x hx => ?_⟩
    · obtain ⟨⟨cs', hc, hK⟩, _⟩ := hp j p hj
      obtain ⟨_, hcl, hat⟩ := World.cells?_some hc
      refine ⟨cs', by rw [hsz]; exact hcl, hK, fun i u hu => ?_⟩
      have hil : i < P.cellsOf e := by
        have := (List.getElem?_eq_some_iff.1 hu).1
        omega
      rw [hsz, ← Go.Deep.add_add, hat i hil, hu]
    · obtain ⟨i, hi, rfl⟩ := List.getElem_of_mem hx
      exact (hp i _ (List.getElem?_eq_getElem hi)).2
end

section
variable {H : Type} {enc : TypeId × Value → H} {w : World} {base : Nat} {spare : Nat → Bool} {held : Bool}
theorem cells9 : Try.prog.cellsOf 9 = 1 := by kernel_rfl
theorem cells3 : Try.prog.cellsOf 3 = 1 := by kernel_rfl
theorem cells28 : Try.prog.cellsOf 28 = 2 := by kernel_rfl
theorem cells23 : Try.prog.cellsOf 23 = 1 := by kernel_rfl
theorem bytes28 : Try.prog.bytesOf 28 = 24 := by kernel_rfl
theorem bytes23 : Try.prog.bytesOf 23 = 24 := by kernel_rfl
def Bd28 (c : S28) : Prop := c.f0.size ≤ reachBytes ∧ (Lit.int .i64 c.f1).wf = true
def BdT (t : List S28) : Prop := t.length * 24 ≤ reachBytes ∧ ∀ c ∈ t, Bd28 c
def BdL (l : List (List S28)) : Prop := l.length * 24 ≤ reachBytes ∧ ∀ t ∈ l, BdT t
theorem opens28 : Opens enc Try.prog w base spare held k28 28 Bd28 :=
  opens_iso (fun x : S28 => (x.f0, x.f1)) (fun x => ⟨x.1, x.2⟩) (fun _ => rfl) (opens_pair Try.underlying28 (by rw [cells28, cells9, cells3]) rfl (by rw [cells9]) (opens_string Try.underlying9) (opens_int Try.underlying3))
theorem opens23 : Opens enc Try.prog w base spare held (Kd.slice 28 k28) 23 BdT := opens_slice Try.underlying23 (by rw [cells28]; rfl) bytes28 opens28
theorem opens48 : Opens enc Try.prog w base spare held (Kd.slice 23 (Kd.slice 28 k28)) 48 BdL := opens_slice Try.underlying48 (by rw [cells23]; rfl) bytes23 opens23

theorem open_any {α : Type} {d : Kd α} {T e : TypeId} {B : List α → Prop} {A : Option Addr} {n c : Nat} {x : DataW H} {ps : List MemPlace} {ts : List TypeId} {ds : List (DataW H)} {j : Nat} (ho : Opens enc Try.prog w base spare held (Kd.slice e d) T B)
    (hsz : (DataW.weightsEach Try.prog ts ds).all (· ≤ reachBytes) = true) (ht : ts[j]? = some T) (hd : ds[j]? = some x) (h : DataW.Trod enc Try.prog w base spare held T (.slice A n c) x ps) :
    ∃ l : List α, l.length = n ∧ n ≤ c ∧ d.C w A n l ∧ B l := by
  obtain ⟨fuel, hf⟩ := h
  obtain ⟨l, ⟨A', c', hv, hl, hC⟩, hB⟩ := ho _ _ _ hf (fun n hn => by
    have := List.all_eq_true.1 hsz _ (DataW.weights_mem_each ht hd n hn)
    simpa using this)
  simp [Value.cells] at hv
  obtain ⟨rfl, rfl, rfl⟩ := hv
  exact ⟨l, rfl, hl, hC, hB⟩
end
end Go.Proofs.Ytnkpcnnbeaomnaa.C
end
