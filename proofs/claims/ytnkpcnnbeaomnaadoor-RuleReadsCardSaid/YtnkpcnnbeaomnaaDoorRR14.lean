import Derived.Test.YtnkpcnnbeaomnaaDoorRR2
import Derived.Test.YtnkpcnnbeaomnaaDoorRR11
import Derived.Test.YtnkpcnnbeaomnaaDoorRR13

section
-- Written by a program of this session (a scratch print over hand-made contracts), out of the translation. Not trusted: Lean checks it.
namespace Go.Proofs.YtnkpcnnbeaomnaaDoor.C
open Go.RowKit Go.Proofs.YtnkpcnnbeaomnaaDoorW.PrintWords Go.Proofs.YtnkpcnnbeaomnaaDoorW.PrintLast Go.Proofs.YtnkpcnnbeaomnaaDoorW.PrintMore
attribute [local go_sem] max2_int min2_int max_two min_two max_three min_three max_four min_four   -- for this text's walks alone
set_option linter.unusedVariables false
set_option linter.unusedSimpArgs false

/-! ### aumbryref04_Read: function 65 -/
mutual
def aumbryref04_Read.j1 : Nat → ByteArray → Int → List (S33) → Int → Option ((List (S33)) × Int × Int)
  | 0, _, _, _, _ => none
  | k + 1, x0, x1, x2, x9 => if 0 ≤ x1 then (if x1 ≤ x9 then (if x9 ≤ (x0.size : Int) then (if (x0.extract (x1 : Int).toNat (x9 : Int).toNat).toList = ([] : List UInt8) then (some (([] : List (S33)), x1, 3)) else ((aumbryref03_Kind.f k (x0.extract (x1 : Int).toNat (x9 : Int).toNat)).bind fun t265 => (if t265 = 0 then (some (([] : List (S33)), x1, 4)) else (if (x2.length : Int) = 64 then (some (([] : List (S33)), x1, 6)) else (if x2.length < 5864062014805 then ((some (x2 ++ [(⟨x0.extract (x1 : Int).toNat (x9 : Int).toNat, 0⟩ : S33)] : List (S33))).bind fun y266 => (if x9 = (x0.size : Int) then (aumbryref04_Read.j2 k x0 y266 x9 t265 (x2.length : Int) true) else (if 0 ≤ x9 then (if x9 < (x0.size : Int) then (aumbryref04_Read.j2 k x0 y266 x9 t265 (x2.length : Int) ((bt x0 x9) != 40)) else (none)) else (none)))) else (none)))))) else (none)) else (none)) else (none)
def aumbryref04_Read.j2 : Nat → ByteArray → List (S33) → Int → Int → Int → Bool → Option ((List (S33)) × Int × Int)
  | 0, _, _, _, _, _, _ => none
  | k + 1, x0, x2, x9, x11, x12, x62 => if x62 = true then (some (x2, x9, 0)) else (if x11 = 2 then (some (([] : List (S33)), x9, 5)) else (aumbryref04_Read.l1 k x0 x2 x9 x12 1))
def aumbryref04_Read.l1 : Nat → ByteArray → List (S33) → Int → Int → Int → Option ((List (S33)) × Int × Int)
  | 0, _, _, _, _, _ => none
  | k + 1, x0, x2, x9, x12, x13 => (aumbryref04_Read.f k x0 (wrap64 (x9 + 1)) x2).bind fun bt269 => (if bt269.2.2 = 0 then (if 0 ≤ x12 then (if x12 < (bt269.1.length : Int) then ((some (bt269.1.set (x12 : Int).toNat (⟨(rd_T33 bt269.1 x12).f0, x13⟩ : S33) : List (S33))).bind fun y274 => (if bt269.2.1 < (x0.size : Int) then (if 0 ≤ bt269.2.1 then (aumbryref04_Read.j4 k x0 y274 bt269.2.1 x12 x13 ((bt x0 bt269.2.1) == 41)) else (none)) else (aumbryref04_Read.j4 k x0 y274 bt269.2.1 x12 x13 false))) else (none)) else (none)) else (some (([] : List (S33)), bt269.2.1, bt269.2.2)))
def aumbryref04_Read.j4 : Nat → ByteArray → List (S33) → Int → Int → Int → Bool → Option ((List (S33)) × Int × Int)
  | 0, _, _, _, _, _, _ => none
  | k + 1, x0, x2, x9, x12, x13, x99 => if x99 = true then (some (x2, wrap64 (x9 + 1), 0)) else (if x9 = (x0.size : Int) then (aumbryref04_Read.j5 k x0 x2 x9 x12 x13 true) else (if 0 ≤ x9 then (if x9 < (x0.size : Int) then (aumbryref04_Read.j5 k x0 x2 x9 x12 x13 ((bt x0 x9) != 44)) else (none)) else (none)))
def aumbryref04_Read.j5 : Nat → ByteArray → List (S33) → Int → Int → Int → Bool → Option ((List (S33)) × Int × Int)
  | 0, _, _, _, _, _, _ => none
  | k + 1, x0, x2, x9, x12, x13, x112 => if x112 = true then (some (([] : List (S33)), x9, 3)) else (if x13 = 4 then (some (([] : List (S33)), x9, 5)) else (aumbryref04_Read.l1 k x0 x2 x9 x12 (wrap64 (x13 + 1))))
def aumbryref04_Read.l0 : Nat → ByteArray → Int → List (S33) → Int → Option ((List (S33)) × Int × Int)
  | 0, _, _, _, _ => none
  | k + 1, x0, x1, x2, x9 => if x9 < (x0.size : Int) then (if 0 ≤ x9 then ((aumbryref04_sign.f (bt x0 x9)).bind fun t264 => (if t264 = true then (aumbryref04_Read.l0 k x0 x1 x2 (wrap64 (x9 + 1))) else (aumbryref04_Read.j1 k x0 x1 x2 x9))) else (none)) else (aumbryref04_Read.j1 k x0 x1 x2 x9)
def aumbryref04_Read.f : Nat → ByteArray → Int → List (S33) → Option ((List (S33)) × Int × Int)
  | 0, _, _, _ => none
  | k + 1, a0, a1, l2 => aumbryref04_Read.l0 k a0 a1 l2 a1
end
set_option maxHeartbeats 8000000 in
set_option maxRecDepth 100000 in
theorem aumbryref04_Read.calls (k : Nat) : ∀ (a0 : ByteArray) (a1 : Int) (P2_ : Nat → Prop) (u9000_ : Value) (l2 : List (S33)) (r1 : List (S33)) (r2 : Int) (r3 : Int) (w0 w : World) (hB : Below w0.heap.size w0 w) (ho2 : Kd.R k33 33 w w0.heap.size P2_ u9000_ l2) (h : aumbryref04_Read.f k a0 a1 l2 = some (r1, r2, r3)),
    Calls Tryd.prog 65 #[.string a0, .int .i64 a1, u9000_] w fun e w' => ∃ v0_ : Value, e = .returned (.tuple #[v0_, .int .i64 r2, .int .i64 r3]) ∧ Kd.R k33 33 w' w0.heap.size (fun k_ => (P2_ k_ ∨ w.heap.size ≤ k_)) v0_ r1 ∧ Below w0.heap.size w0 w' ∧ Kept w w' (fun k_ => P2_ k_) := by
  induction k using Nat.strongRecOn with
  | _ k ih =>
  intro a0 a1 P2_ u9000_ l2 r1 r2 r3 w0 w hB ho2 h
  cases k with
  | zero => exact absurd h (by simp [aumbryref04_Read.f])
  | succ k =>
  simp only [aumbryref04_Read.f] at h
  have hu33 := Tryd.underlying33
  have HO2 := Aside0.mk (show Kd.R k33 33 w w0.heap.size (fun k_ => (P2_ k_ ∨ w.heap.size ≤ k_)) u9000_ l2 from Kd.R_mono ho2 (fun k_ hk => (.inl hk)))
  have HK := Aside0.mk (Kept.refl w (fun k_ => P2_ k_))
  have HW0 := Aside0.mk hB.size
  have HB := Aside0.mk hB
  clear hB
  have H : (aumbryref04_Read.l0 k a0 a1 l2 a1) = some (r1, r2, r3) := h
  clear h
  have HC4 := Aside0.mk H
  clear H
  go_enter Tryd.func65, Tryd.ntmps65
  go_upto_block 0 with (fail)
  go_cut [9] (fun v9 wc => ∃ (kq : Nat) (x9_3 : Int), v9 = .int .i64 x9_3 ∧ Aside0 (aumbryref04_Read.j1 kq a0 a1 l2 x9_3 = some (r1, r2, r3)) ∧ Aside0 (kq ≤ k) ∧ Aside0 (Kd.R k33 33 wc w0.heap.size (fun k_ => (P2_ k_ ∨ w.heap.size ≤ k_)) u9000_ l2) ∧ Aside0 (Kept w wc (fun k_ => P2_ k_)) ∧ Aside0 (Below w0.heap.size w0 wc))
  case first =>
    have H := HC4.out
    clear HC4
    have H' := Aside0.mk H
    clear H
    go_wp2
    go_loopg [9] k (fun kq v9 w' => ∃ (x9_1 : Int), v9 = .int .i64 x9_1 ∧ Aside0 (aumbryref04_Read.l0 kq a0 a1 l2 x9_1 = some (r1, r2, r3)) ∧ Aside0 (kq ≤ k) ∧ Aside0 (Kd.R k33 33 w' w0.heap.size (fun k_ => (P2_ k_ ∨ w.heap.size ≤ k_)) u9000_ l2) ∧ Aside0 (Kept w w' (fun k_ => P2_ k_)) ∧ Aside0 (Below w0.heap.size w0 w'))
    case atStart => exact ⟨(a1), (by first | rfl | (simp; done) | (simp [*]; done)), H', ⟨Nat.le_refl _⟩, ⟨by (with_reducible repeat (first | apply Kd.R_alloc | apply Kd.R_drewN | apply Kd.R_drew)); exact HO2.out⟩, ⟨by repeat (first | (with_reducible first | exact HK.out | apply Kept.alloc | apply Kept.drewN | apply Kept.drew) | exact HK.out)⟩, ⟨by repeat (first | (with_reducible first | exact HB.out | apply below_alloc | apply pw_below_drewN | apply below_drew1) | exact HB.out)⟩⟩
    case round =>
      clear H'
      try clear p2
      obtain ⟨x9_1, rfl, HA, HK1, HO_2, HK, HB⟩ := hrel
      cases gk with
      | zero => exact absurd HA.out (by simp [aumbryref04_Read.l0])
      | succ k1 =>
        have H := HA.out
        clear HA
        simp only [aumbryref04_Read.l0] at H
        by_cases c5 : x9_1 < (a0.size : Int)
        · rw [if_pos c5] at H
          have c5b0 : decide (x9_1 < (a0.size : Int)) = true := decide_eq_true c5
          clear c5
          (first | rw [c5b0] | (simp only [i64_w, i32_w]; rw [c5b0]) | skip)
          by_cases c6 : 0 ≤ x9_1
          · rw [if_pos c6] at H
            have c6b0 : decide (0 ≤ x9_1) = true := decide_eq_true c6
            clear c6
            replace H := Option.bind_eq_some_iff.mp H
            obtain ⟨t264, A80, H⟩ := H
            replace H : (if t264 = true then (aumbryref04_Read.l0 k1 a0 a1 l2 (wrap64 (x9_1 + 1))) else (aumbryref04_Read.j1 k1 a0 a1 l2 x9_1)) = some (r1, r2, r3) := H
            have A8 := Aside0.mk A80
            clear A80
            by_cases c9 : t264 = true
            · subst c9
              have H1 : (aumbryref04_Read.l0 k1 a0 a1 l2 (wrap64 (x9_1 + 1))) = some (r1, r2, r3) := by rw [if_pos rfl] at H; exact H
              clear H
              have H := H1
              clear H1
              have H' := Aside0.mk H
              clear H
              have p7 : 0 ≤ (x9_1 : Int) := of_decide_eq_true (by first | (with_reducible assumption) | assumption)
              have q7 : x9_1 < (a0.size : Int) := of_decide_eq_true (by first | (with_reducible assumption) | assumption)
              have hx7 := bt_at a0 x9_1
              replace p7 := eq_true p7
              replace q7 := eq_true q7
              go_wp2_with (first | (go_at_call 79; (with_reducible refine (aumbryref04_sign.calls (bt a0 x9_1) true _ A8.out).mono ?_); rintro e w' ⟨rfl, ⟨nd, rfl⟩⟩))
              go_roundg k1
              case measure => have := HK1.out; omega
              case rel => exact ⟨(wrap64 (x9_1 + 1)), (by first | rfl | (simp; done) | (simp [*]; done)), H', ⟨by have := HK1.out; omega⟩, ⟨by (with_reducible repeat (first | apply Kd.R_alloc | apply Kd.R_drewN | apply Kd.R_drew)); exact HO_2.out⟩, ⟨by repeat (first | (with_reducible first | exact HK.out | apply Kept.alloc | apply Kept.drewN | apply Kept.drew) | exact HK.out)⟩, ⟨by repeat (first | (with_reducible first | exact HB.out | apply below_alloc | apply pw_below_drewN | apply below_drew1) | exact HB.out)⟩⟩
            · replace c9 := Bool.eq_false_iff.mpr c9
              subst c9
              have H1 : (aumbryref04_Read.j1 k1 a0 a1 l2 x9_1) = some (r1, r2, r3) := by rw [if_neg (show ¬ (false = true) by decide)] at H; exact H
              clear H
              have H := H1
              clear H1
              have H' := Aside0.mk H
              clear H
              have p7 : 0 ≤ (x9_1 : Int) := of_decide_eq_true (by first | (with_reducible assumption) | assumption)
              have q7 : x9_1 < (a0.size : Int) := of_decide_eq_true (by first | (with_reducible assumption) | assumption)
              have hx7 := bt_at a0 x9_1
              replace p7 := eq_true p7
              replace q7 := eq_true q7
              go_wp2_with (first | (go_at_call 79; (with_reducible refine (aumbryref04_sign.calls (bt a0 x9_1) false _ A8.out).mono ?_); rintro e w' ⟨rfl, ⟨nd, rfl⟩⟩))
              go_meet
              case rel => exact ⟨_, (x9_1), (by first | rfl | (simp; done) | (simp [*]; done)), H', ⟨by have := HK1.out; first | omega | exact Nat.le_refl _⟩, ⟨by (with_reducible repeat (first | apply Kd.R_alloc | apply Kd.R_drewN | apply Kd.R_drew)); exact HO_2.out⟩, ⟨by repeat (first | (with_reducible first | exact HK.out | apply Kept.alloc | apply Kept.drewN | apply Kept.drew) | exact HK.out)⟩, ⟨by repeat (first | (with_reducible first | exact HB.out | apply below_alloc | apply pw_below_drewN | apply below_drew1) | exact HB.out)⟩⟩
          · rw [if_neg c6] at H
            exact absurd H (by simp)
        · rw [if_neg c5] at H
          have c5b0 : decide (x9_1 < (a0.size : Int)) = false := decide_eq_false c5
          clear c5
          (first | rw [c5b0] | (simp only [i64_w, i32_w]; rw [c5b0]) | skip)
          have H' := Aside0.mk H
          clear H
          go_wp2
          go_meet
          case rel => exact ⟨_, (x9_1), (by first | rfl | (simp; done) | (simp [*]; done)), H', ⟨by have := HK1.out; first | omega | exact Nat.le_refl _⟩, ⟨by (with_reducible repeat (first | apply Kd.R_alloc | apply Kd.R_drewN | apply Kd.R_drew)); exact HO_2.out⟩, ⟨by repeat (first | (with_reducible first | exact HK.out | apply Kept.alloc | apply Kept.drewN | apply Kept.drew) | exact HK.out)⟩, ⟨by repeat (first | (with_reducible first | exact HB.out | apply below_alloc | apply pw_below_drewN | apply below_drew1) | exact HB.out)⟩⟩
  case rest =>
    clear HC4
    try clear p2
    try clear c5
    try clear c5b0
    try clear c6
    try clear c6b0
    try clear p6
    try clear p7
    try clear q7
    try clear hx7
    try clear c9
    try clear p2
    try clear p7
    try clear q7
    obtain ⟨kq, x9_3, rfl, HA, HJ3, HO_2, HK, HB⟩ := hcut
    cases kq with
    | zero => exact absurd HA.out (by simp [aumbryref04_Read.j1])
    | succ kj3 =>
      have H := HA.out
      clear HA
      simp only [aumbryref04_Read.j1] at H
      by_cases c10 : 0 ≤ a1
      · rw [if_pos c10] at H
        have c10b0 := eq_true c10
        have c10b1 : decide (0 ≤ a1) = true := decide_eq_true c10
        clear c10
        by_cases c11 : a1 ≤ x9_3
        · rw [if_pos c11] at H
          have c11b0 := eq_true c11
          have c11b1 : decide (a1 ≤ x9_3) = true := decide_eq_true c11
          clear c11
          by_cases c12 : x9_3 ≤ (a0.size : Int)
          · rw [if_pos c12] at H
            have c12b0 := eq_true c12
            have c12b1 : decide (x9_3 ≤ (a0.size : Int)) = true := decide_eq_true c12
            clear c12
            by_cases c13 : (a0.extract (a1 : Int).toNat (x9_3 : Int).toNat).toList = ([] : List UInt8)
            · rw [if_pos c13] at H
              have c13b0 : ((a0.extract (a1 : Int).toNat (x9_3 : Int).toNat).toList == ([] : List UInt8)) = true := beq_iff_eq.mpr c13
              have c13b1 : ((a0.extract (a1 : Int).toNat (x9_3 : Int).toNat).toList != ([] : List UInt8)) = false := bne_eq_false_iff_eq.mpr c13
              clear c13
              simp only [Option.some.injEq, Prod.mk.injEq] at H
              obtain ⟨rfl, rfl, rfl⟩ := H
              go_wp2
              go_ret3
              exact ⟨_, by first | rfl | (simp [errW_none, errW_some] <;> rfl) | (simp [*, errW_none, errW_some] <;> rfl), by first | exact Kd.R_nil _ _ _ _ _ | exact Kd.N_nil _ _ _ _ _ | exact Kd.V_nil _ _ _ _ _ | exact Kd.Q_nil _ _ _ _ _ | exact Kd.S_nil _ _ _ _ _, by repeat (first | (with_reducible first | exact HB.out | apply below_alloc | apply pw_below_drewN | apply below_drew1) | exact HB.out), by repeat (first | (with_reducible first | exact HK.out | apply Kept.alloc | apply Kept.drewN | apply Kept.drew) | exact HK.out)⟩
            · rw [if_neg c13] at H
              have c13b0 : ((a0.extract (a1 : Int).toNat (x9_3 : Int).toNat).toList == ([] : List UInt8)) = false := beq_eq_false_iff_ne.mpr c13
              have c13b1 : ((a0.extract (a1 : Int).toNat (x9_3 : Int).toNat).toList != ([] : List UInt8)) = true := bne_iff_ne.mpr c13
              replace H := Option.bind_eq_some_iff.mp H
              obtain ⟨t265, A140, H⟩ := H
              replace H : (if t265 = 0 then (some (([] : List (S33)), a1, 4)) else (if (l2.length : Int) = 64 then (some (([] : List (S33)), a1, 6)) else (if l2.length < 5864062014805 then ((some (l2 ++ [(⟨a0.extract (a1 : Int).toNat (x9_3 : Int).toNat, 0⟩ : S33)] : List (S33))).bind fun y266 => (if x9_3 = (a0.size : Int) then (aumbryref04_Read.j2 kj3 a0 y266 x9_3 t265 (l2.length : Int) true) else (if 0 ≤ x9_3 then (if x9_3 < (a0.size : Int) then (aumbryref04_Read.j2 kj3 a0 y266 x9_3 t265 (l2.length : Int) ((bt a0 x9_3) != 40)) else (none)) else (none)))) else (none)))) = some (r1, r2, r3) := H
              have A14 := Aside0.mk A140
              clear A140
              by_cases c15 : t265 = 0
              · rw [if_pos c15] at H
                have c15b0 : (t265 == 0) = true := beq_iff_eq.mpr c15
                have c15b1 : (t265 != 0) = false := bne_eq_false_iff_eq.mpr c15
                clear c15
                simp only [Option.some.injEq, Prod.mk.injEq] at H
                obtain ⟨rfl, rfl, rfl⟩ := H
                go_wp2_with (first | ((with_reducible refine gate_callee (f := 60) rfl ?_); refine goesL_ (some 38) rfl rfl Tryd.func60 (by kernel_rfl) rfl #[.string (a0.extract (a1 : Int).toNat (x9_3 : Int).toNat)] rfl (by (try simp only [List.map_toArray, List.map_cons, List.map_nil]); first | done | rfl | (simp only [List.length_drop, List.length_take]; rfl)) ?_; (with_reducible refine (aumbryref03_Kind.calls kj3 (a0.extract (a1 : Int).toNat (x9_3 : Int).toNat) t265 _ A14.out).mono ?_); rintro e w' ⟨rfl, ⟨nd, rfl⟩⟩; refine ⟨_, rfl, ?_⟩))
                go_ret3
                exact ⟨_, by first | rfl | (simp [errW_none, errW_some] <;> rfl) | (simp [*, errW_none, errW_some] <;> rfl), by first | exact Kd.R_nil _ _ _ _ _ | exact Kd.N_nil _ _ _ _ _ | exact Kd.V_nil _ _ _ _ _ | exact Kd.Q_nil _ _ _ _ _ | exact Kd.S_nil _ _ _ _ _, by repeat (first | (with_reducible first | exact HB.out | apply below_alloc | apply pw_below_drewN | apply below_drew1) | exact HB.out), by repeat (first | (with_reducible first | exact HK.out | apply Kept.alloc | apply Kept.drewN | apply Kept.drew) | exact HK.out)⟩
              · rw [if_neg c15] at H
                have c15b0 : (t265 == 0) = false := beq_eq_false_iff_ne.mpr c15
                have c15b1 : (t265 != 0) = true := bne_iff_ne.mpr c15
                by_cases c16 : (l2.length : Int) = 64
                · rw [if_pos c16] at H
                  have c16b0 : ((l2.length : Int) == 64) = true := beq_iff_eq.mpr c16
                  have c16b1 : ((l2.length : Int) != 64) = false := bne_eq_false_iff_eq.mpr c16
                  clear c16
                  simp only [Option.some.injEq, Prod.mk.injEq] at H
                  obtain ⟨rfl, rfl, rfl⟩ := H
                  go_wp2_with (first | ((with_reducible refine gate_callee (f := 60) rfl ?_); refine goesL_ (some 38) rfl rfl Tryd.func60 (by kernel_rfl) rfl #[.string (a0.extract (a1 : Int).toNat (x9_3 : Int).toNat)] rfl (by (try simp only [List.map_toArray, List.map_cons, List.map_nil]); first | done | rfl | (simp only [List.length_drop, List.length_take]; rfl)) ?_; (with_reducible refine (aumbryref03_Kind.calls kj3 (a0.extract (a1 : Int).toNat (x9_3 : Int).toNat) t265 _ A14.out).mono ?_); rintro e w' ⟨rfl, ⟨nd, rfl⟩⟩; refine ⟨_, rfl, ?_⟩; obtain ⟨Ao17, co17, eo17⟩ := Kd.R_slice HO_2.out; subst eo17))
                  go_ret3
                  exact ⟨_, by first | rfl | (simp [errW_none, errW_some] <;> rfl) | (simp [*, errW_none, errW_some] <;> rfl), by first | exact Kd.R_nil _ _ _ _ _ | exact Kd.N_nil _ _ _ _ _ | exact Kd.V_nil _ _ _ _ _ | exact Kd.Q_nil _ _ _ _ _ | exact Kd.S_nil _ _ _ _ _, by repeat (first | (with_reducible first | exact HB.out | apply below_alloc | apply pw_below_drewN | apply below_drew1) | exact HB.out), by repeat (first | (with_reducible first | exact HK.out | apply Kept.alloc | apply Kept.drewN | apply Kept.drew) | exact HK.out)⟩
                · rw [if_neg c16] at H
                  have c16b0 : ((l2.length : Int) == 64) = false := beq_eq_false_iff_ne.mpr c16
                  have c16b1 : ((l2.length : Int) != 64) = true := bne_iff_ne.mpr c16
                  by_cases c18 : l2.length < 5864062014805
                  · rw [if_pos c18] at H
                    have LMc18 := Aside0.mk c18
                    clear c18
                    obtain ⟨y266, hy266⟩ : ∃ y_ : List (S33), y_ = (l2 ++ [(⟨a0.extract (a1 : Int).toNat (x9_3 : Int).toNat, 0⟩ : S33)]) := ⟨_, rfl⟩
                    replace H : (if x9_3 = (a0.size : Int) then (aumbryref04_Read.j2 kj3 a0 y266 x9_3 t265 (l2.length : Int) true) else (if 0 ≤ x9_3 then (if x9_3 < (a0.size : Int) then (aumbryref04_Read.j2 kj3 a0 y266 x9_3 t265 (l2.length : Int) ((bt a0 x9_3) != 40)) else (none)) else (none))) = some (r1, r2, r3) := by first | (rw [hy266]; with_reducible exact H) | (have H2_ := (Option.bind_some _ _).symm.trans H; rw [hy266]; with_reducible exact H2_) | (have H2_ := (Option.bind_some _ _).symm.trans H; with_reducible exact H2_) | with_reducible exact H | (rw [hy266]; exact H) | exact H
                    have Ny266 := Aside0.mk hy266
                    clear hy266
                    have HC19 := Aside0.mk H
                    clear H
                    go_upto_region 14 with (first | ((with_reducible refine gate_callee (f := 60) rfl ?_); refine goesL_ (some 38) rfl rfl Tryd.func60 (by kernel_rfl) rfl #[.string (a0.extract (a1 : Int).toNat (x9_3 : Int).toNat)] rfl (by (try simp only [List.map_toArray, List.map_cons, List.map_nil]); first | done | rfl | (simp only [List.length_drop, List.length_take]; rfl)) ?_; (with_reducible refine (aumbryref03_Kind.calls kj3 (a0.extract (a1 : Int).toNat (x9_3 : Int).toNat) t265 _ A14.out).mono ?_); rintro e w' ⟨rfl, ⟨nd, rfl⟩⟩; refine ⟨_, rfl, ?_⟩; obtain ⟨Ao20, co20, eo20⟩ := Kd.R_slice HO_2.out; subst eo20) | ((with_reducible refine gate_builtin (b := .append) (xs := #[.tmp 48, .tmp 51]) rfl ?_); at_builtin; refine Kd.R_append k33 (w0 := w0) w0.heap.size rfl (.tmp 48) (.tmp 51) 23 33 (.agg #[(.string ⟨#[]⟩), (.int .i64 0)]) 24 rfl Tryd.underlying23 info33 rfl (by decide) (by omega) (.slice Ao20 l2.length co20) l2 (⟨a0.extract (a1 : Int).toNat (x9_3 : Int).toNat, 0⟩ : S33) [.string (a0.extract (a1 : Int).toNat (x9_3 : Int).toNat), .int .i64 0] (fun k_ => (P2_ k_ ∨ w.heap.size ≤ k_)) (fun _ => False) rfl rfl ?aP (fun _ hk => hk.elim) ?aF ?aO ?aB ?aS ?aL ?_; (case aP => exact k33_mkM _ _ _ (⟨a0.extract (a1 : Int).toNat (x9_3 : Int).toNat, 0⟩ : S33)); (case aB => exact (by repeat (first | (with_reducible first | exact HB.out | apply below_alloc | apply pw_below_drewN | apply below_drew1) | exact HB.out))); (case aF => exact (fun k_ hk => (.inr (Nat.le_trans (by first | exact HK.out.1 | exact (show Kept w _ (fun k_ => P2_ k_) from by repeat (first | (with_reducible first | exact HK.out | apply Kept.alloc | apply Kept.drewN | apply Kept.drew) | exact HK.out)).1) hk)))); (case aO => exact (by (with_reducible repeat (first | apply Kd.R_alloc | apply Kd.R_drewN | apply Kd.R_drew)); exact HO_2.out)); (case aS => exact (below_size (by repeat (first | (with_reducible first | exact HB.out | apply below_alloc | apply pw_below_drewN | apply below_drew1) | exact HB.out)))); (case aL => have := LMc18.out; omega); intro v267 w21 ho hb hg hat; rw [← Ny266.out] at ho; have n0_ := Aside0.mk (hb); have n1_ := Aside0.mk (Kept.of_grown (S := (fun k_ => P2_ k_)) hg (by repeat (first | (with_reducible first | exact HK.out | apply Kept.alloc | apply Kept.drewN | apply Kept.drew) | exact HK.out)) (fun k_ e_ => (HO_2.out.1 k_ e_))); have n2_ := Aside0.mk (ho); clear HB; clear HK; clear HO_2; have HB := n0_; have HK := n1_; have HO268 := n2_; clear n0_ n1_ n2_; clear ho hb hg hat))
                    (try simp only [Act.put, List.setIfInBounds_toArray, List.set_cons_zero, List.set_cons_succ])
                    go_cut [62] (fun v62 wc => ∃ (kq : Nat) (x62_18 : Bool), v62 = .bool x62_18 ∧ Aside0 (aumbryref04_Read.j2 kq a0 y266 x9_3 t265 (l2.length : Int) x62_18 = some (r1, r2, r3)) ∧ Aside0 (kq ≤ kj3) ∧ Aside0 (Kd.R k33 33 wc w0.heap.size (fun k_ => (P2_ k_ ∨ w.heap.size ≤ k_)) v267 y266) ∧ Aside0 (Kept w wc (fun k_ => P2_ k_)) ∧ Aside0 (Below w0.heap.size w0 wc))
                    case first =>
                      have H := HC19.out
                      clear HC19
                      by_cases c22 : x9_3 = (a0.size : Int)
                      · rw [if_pos c22] at H
                        have c22b0 : (x9_3 == (a0.size : Int)) = true := beq_iff_eq.mpr c22
                        have c22b1 : (x9_3 != (a0.size : Int)) = false := bne_eq_false_iff_eq.mpr c22
                        clear c22
                        (first | rw [c22b0] | (simp only [i64_w, i32_w]; rw [c22b0]) | skip)
                        have H' := Aside0.mk H
                        clear H
                        go_wp2
                        go_meet
                        case rel => exact ⟨_, (true), (by first | rfl | (simp; done) | (simp [*]; done)), H', ⟨by have := HJ3.out; first | omega | exact Nat.le_refl _⟩, ⟨by (with_reducible repeat (first | apply Kd.R_alloc | apply Kd.R_drewN | apply Kd.R_drew)); exact HO268.out⟩, ⟨by repeat (first | (with_reducible first | exact HK.out | apply Kept.alloc | apply Kept.drewN | apply Kept.drew) | exact HK.out)⟩, ⟨by repeat (first | (with_reducible first | exact HB.out | apply below_alloc | apply pw_below_drewN | apply below_drew1) | exact HB.out)⟩⟩
                      · rw [if_neg c22] at H
                        have c22b0 : (x9_3 == (a0.size : Int)) = false := beq_eq_false_iff_ne.mpr c22
                        have c22b1 : (x9_3 != (a0.size : Int)) = true := bne_iff_ne.mpr c22
                        (first | rw [c22b0] | (simp only [i64_w, i32_w]; rw [c22b0]) | skip)
                        by_cases c23 : 0 ≤ x9_3
                        · rw [if_pos c23] at H
                          have c23b0 : decide (0 ≤ x9_3) = true := decide_eq_true c23
                          clear c23
                          by_cases c24 : x9_3 < (a0.size : Int)
                          · rw [if_pos c24] at H
                            have c24b0 : decide (x9_3 < (a0.size : Int)) = true := decide_eq_true c24
                            clear c24
                            have H' := Aside0.mk H
                            clear H
                            have p25 : 0 ≤ (x9_3 : Int) := of_decide_eq_true (by first | (with_reducible assumption) | assumption)
                            have q25 : x9_3 < (a0.size : Int) := of_decide_eq_true (by first | (with_reducible assumption) | assumption)
                            have hx25 := bt_at a0 x9_3
                            replace p25 := eq_true p25
                            replace q25 := eq_true q25
                            go_wp2
                            go_meet
                            case rel => exact ⟨_, (((bt a0 x9_3) != 40)), (by first | rfl | (simp; done) | (simp [*]; done)), H', ⟨by have := HJ3.out; first | omega | exact Nat.le_refl _⟩, ⟨by (with_reducible repeat (first | apply Kd.R_alloc | apply Kd.R_drewN | apply Kd.R_drew)); exact HO268.out⟩, ⟨by repeat (first | (with_reducible first | exact HK.out | apply Kept.alloc | apply Kept.drewN | apply Kept.drew) | exact HK.out)⟩, ⟨by repeat (first | (with_reducible first | exact HB.out | apply below_alloc | apply pw_below_drewN | apply below_drew1) | exact HB.out)⟩⟩
                          · rw [if_neg c24] at H
                            exact absurd H (by simp)
                        · rw [if_neg c23] at H
                          exact absurd H (by simp)
                    case rest =>
                      clear HC19
                      try clear c1
                      try clear c2
                      try clear p2
                      try clear q2
                      try clear hx2
                      try clear c5
                      try clear c5b0
                      try clear c6
                      try clear c6b0
                      try clear p6
                      try clear p7
                      try clear q7
                      try clear hx7
                      try clear c9
                      try clear c10
                      try clear c10b0
                      try clear c10b1
                      try clear c11
                      try clear c11b0
                      try clear c11b1
                      try clear c12
                      try clear c12b0
                      try clear c12b1
                      try clear c13
                      try clear c13b0
                      try clear c13b1
                      try clear c15
                      try clear c15b0
                      try clear c15b1
                      try clear c16
                      try clear c16b0
                      try clear c16b1
                      try clear c18
                      try clear c22
                      try clear c22b0
                      try clear c22b1
                      try clear c23
                      try clear c23b0
                      try clear c24
                      try clear c24b0
                      try clear p25
                      try clear q25
                      try clear hx25
                      try clear p2
                      try clear p25
                      try clear p6
                      try clear p7
                      try clear q25
                      try clear q7
                      obtain ⟨kq, x62_18, rfl, HA, HJ18, HO_2, HK, HB⟩ := hcut
                      cases kq with
                      | zero => exact absurd HA.out (by simp [aumbryref04_Read.j2])
                      | succ kj18 =>
                        have H := HA.out
                        clear HA
                        simp only [aumbryref04_Read.j2] at H
                        by_cases c26 : x62_18 = true
                        · subst c26
                          have H1 : (some (y266, x9_3, 0)) = some (r1, r2, r3) := by rw [if_pos rfl] at H; exact H
                          clear H
                          have H := H1
                          clear H1
                          simp only [Option.some.injEq, Prod.mk.injEq] at H
                          obtain ⟨rfl, rfl, rfl⟩ := H
                          go_wp2
                          go_ret3
                          exact ⟨_, by first | rfl | (simp [errW_none, errW_some] <;> rfl) | (simp [*, errW_none, errW_some] <;> rfl), by (with_reducible repeat (first | apply Kd.R_alloc | apply Kd.R_drewN | apply Kd.R_drew)); exact HO_2.out, by repeat (first | (with_reducible first | exact HB.out | apply below_alloc | apply pw_below_drewN | apply below_drew1) | exact HB.out), by repeat (first | (with_reducible first | exact HK.out | apply Kept.alloc | apply Kept.drewN | apply Kept.drew) | exact HK.out)⟩
                        · replace c26 := Bool.eq_false_iff.mpr c26
                          subst c26
                          have H1 : (if t265 = 2 then (some (([] : List (S33)), x9_3, 5)) else (aumbryref04_Read.l1 kj18 a0 y266 x9_3 (l2.length : Int) 1)) = some (r1, r2, r3) := by rw [if_neg (show ¬ (false = true) by decide)] at H; exact H
                          clear H
                          have H := H1
                          clear H1
                          by_cases c27 : t265 = 2
                          · rw [if_pos c27] at H
                            have c27b0 : (t265 == 2) = true := beq_iff_eq.mpr c27
                            have c27b1 : (t265 != 2) = false := bne_eq_false_iff_eq.mpr c27
                            clear c27
                            simp only [Option.some.injEq, Prod.mk.injEq] at H
                            obtain ⟨rfl, rfl, rfl⟩ := H
                            go_wp2
                            go_ret3
                            exact ⟨_, by first | rfl | (simp [errW_none, errW_some] <;> rfl) | (simp [*, errW_none, errW_some] <;> rfl), by first | exact Kd.R_nil _ _ _ _ _ | exact Kd.N_nil _ _ _ _ _ | exact Kd.V_nil _ _ _ _ _ | exact Kd.Q_nil _ _ _ _ _ | exact Kd.S_nil _ _ _ _ _, by repeat (first | (with_reducible first | exact HB.out | apply below_alloc | apply pw_below_drewN | apply below_drew1) | exact HB.out), by repeat (first | (with_reducible first | exact HK.out | apply Kept.alloc | apply Kept.drewN | apply Kept.drew) | exact HK.out)⟩
                          · rw [if_neg c27] at H
                            have c27b0 : (t265 == 2) = false := beq_eq_false_iff_ne.mpr c27
                            have c27b1 : (t265 != 2) = true := bne_iff_ne.mpr c27
                            have H' := Aside0.mk H
                            clear H
                            go_wp2
                            go_loopg [2, 9, 13] kj18 (fun kq v2 v9 v13 w' => ∃ (x2_3 : List (S33)) (x9_3 : Int) (x13_3 : Int), v9 = .int .i64 x9_3 ∧ v13 = .int .i64 x13_3 ∧ Aside0 (aumbryref04_Read.l1 kq a0 x2_3 x9_3 (l2.length : Int) x13_3 = some (r1, r2, r3)) ∧ Aside0 (kq ≤ kj18) ∧ Aside0 (Kd.R k33 33 w' w0.heap.size (fun k_ => (P2_ k_ ∨ w.heap.size ≤ k_)) v2 x2_3) ∧ Aside0 (Kept w w' (fun k_ => P2_ k_)) ∧ Aside0 (Below w0.heap.size w0 w'))
                            case atStart => exact ⟨(y266), (x9_3), (1), (by first | rfl | (simp; done) | (simp [*]; done)), (by first | rfl | (simp; done) | (simp [*]; done)), H', ⟨Nat.le_refl _⟩, ⟨by (with_reducible repeat (first | apply Kd.R_alloc | apply Kd.R_drewN | apply Kd.R_drew)); exact HO_2.out⟩, ⟨by repeat (first | (with_reducible first | exact HK.out | apply Kept.alloc | apply Kept.drewN | apply Kept.drew) | exact HK.out)⟩, ⟨by repeat (first | (with_reducible first | exact HB.out | apply below_alloc | apply pw_below_drewN | apply below_drew1) | exact HB.out)⟩⟩
                            case round =>
                              clear H'
                              try clear c1
                              try clear c2
                              try clear p2
                              try clear q2
                              try clear hx2
                              try clear c5
                              try clear c5b0
                              try clear c6
                              try clear c6b0
                              try clear p6
                              try clear p7
                              try clear q7
                              try clear hx7
                              try clear c9
                              try clear c10
                              try clear c10b0
                              try clear c10b1
                              try clear c11
                              try clear c11b0
                              try clear c11b1
                              try clear c12
                              try clear c12b0
                              try clear c12b1
                              try clear c13
                              try clear c13b0
                              try clear c13b1
                              try clear c15
                              try clear c15b0
                              try clear c15b1
                              try clear c16
                              try clear c16b0
                              try clear c16b1
                              try clear c18
                              try clear c22
                              try clear c22b0
                              try clear c22b1
                              try clear c23
                              try clear c23b0
                              try clear c24
                              try clear c24b0
                              try clear p25
                              try clear q25
                              try clear hx25
                              try clear c26
                              try clear c27
                              try clear c27b0
                              try clear c27b1
                              try clear p2
                              try clear p25
                              try clear p6
                              try clear p7
                              try clear q2
                              try clear q25
                              try clear q7
                              obtain ⟨x2_3, x9_3, x13_3, rfl, rfl, HA, HK3, HO_2, HK, HB⟩ := hrel
                              cases gk with
                              | zero => exact absurd HA.out (by simp [aumbryref04_Read.l1])
                              | succ k3 =>
                                have H := HA.out
                                clear HA
                                simp only [aumbryref04_Read.l1] at H
                                replace H := Option.bind_eq_some_iff.mp H
                                obtain ⟨⟨t269, t272, t273⟩, A280, H⟩ := H
                                replace H : (if t273 = 0 then (if 0 ≤ (l2.length : Int) then (if (l2.length : Int) < (t269.length : Int) then ((some (t269.set ((l2.length : Int) : Int).toNat (⟨(rd_T33 t269 (l2.length : Int)).f0, x13_3⟩ : S33) : List (S33))).bind fun y274 => (if t272 < (a0.size : Int) then (if 0 ≤ t272 then (aumbryref04_Read.j4 k3 a0 y274 t272 (l2.length : Int) x13_3 ((bt a0 t272) == 41)) else (none)) else (aumbryref04_Read.j4 k3 a0 y274 t272 (l2.length : Int) x13_3 false))) else (none)) else (none)) else (some (([] : List (S33)), t272, t273))) = some (r1, r2, r3) := H
                                have A28 := Aside0.mk A280
                                clear A280
                                by_cases c29 : t273 = 0
                                · rw [if_pos c29] at H
                                  have c29b0 : (t273 == 0) = true := beq_iff_eq.mpr c29
                                  have c29b1 : (t273 != 0) = false := bne_eq_false_iff_eq.mpr c29
                                  clear c29
                                  by_cases c30 : 0 ≤ (l2.length : Int)
                                  · rw [if_pos c30] at H
                                    have c30b0 : decide (0 ≤ (l2.length : Int)) = true := decide_eq_true c30
                                    have c30b1 : decide (0 ≤ l2.length) = true := decide_eq_true (by omega)
                                    clear c30
                                    by_cases c31 : (l2.length : Int) < (t269.length : Int)
                                    · rw [if_pos c31] at H
                                      have c31b0 : decide ((l2.length : Int) < (t269.length : Int)) = true := decide_eq_true c31
                                      have c31b1 : decide (l2.length < t269.length) = true := decide_eq_true (Int.ofNat_lt.mp c31)
                                      clear c31
                                      obtain ⟨y274, hy274⟩ : ∃ y_ : List (S33), y_ = (t269.set ((l2.length : Int) : Int).toNat (⟨(rd_T33 t269 (l2.length : Int)).f0, x13_3⟩ : S33)) := ⟨_, rfl⟩
                                      replace H : (if t272 < (a0.size : Int) then (if 0 ≤ t272 then (aumbryref04_Read.j4 k3 a0 y274 t272 (l2.length : Int) x13_3 ((bt a0 t272) == 41)) else (none)) else (aumbryref04_Read.j4 k3 a0 y274 t272 (l2.length : Int) x13_3 false)) = some (r1, r2, r3) := by first | (rw [hy274]; with_reducible exact H) | (have H2_ := (Option.bind_some _ _).symm.trans H; rw [hy274]; with_reducible exact H2_) | (have H2_ := (Option.bind_some _ _).symm.trans H; with_reducible exact H2_) | with_reducible exact H | (rw [hy274]; exact H) | exact H
                                      have Ny274 := Aside0.mk hy274
                                      clear hy274
                                      have HC33 := Aside0.mk H
                                      clear H
                                      obtain ⟨Ao34, co34, eo34⟩ := Kd.R_slice HO_2.out
                                      subst eo34
                                      go_upto_region 26 with (first | ((with_reducible refine gate_callee (f := 65) rfl ?_); refine goesL_ (some 75) rfl rfl Tryd.func65 (by kernel_rfl) rfl #[.string a0, .int .i64 (wrap64 (x9_3 + 1)), .slice Ao34 x2_3.length co34] rfl (by (try simp only [List.map_toArray, List.map_cons, List.map_nil]); first | done | rfl | (simp only [List.length_drop, List.length_take]; rfl)) ?_; (with_reducible refine (ih k3 (by have := HJ3.out; have := HJ18.out; have := HK3.out; omega) a0 (wrap64 (x9_3 + 1)) (fun k_ => some k_ = (.slice Ao34 x2_3.length co34 : Value).ownBlock) (.slice Ao34 x2_3.length co34) x2_3 t269 t272 t273 w0 _ ?side1 ?side2 A28.out).mono ?_); (case side1 => repeat (first | (with_reducible first | exact HB.out | apply below_alloc | apply pw_below_drewN | apply below_drew1) | exact HB.out)); (case side2 => exact Kd.R_tight rfl HO_2.out); rintro e w35 ⟨v270, rfl, ho0, hb, hkp⟩; refine ⟨_, rfl, ?_⟩; have n0_ := Aside0.mk (Kd.R_mono (ok' := fun k_ => (P2_ k_ ∨ w.heap.size ≤ k_)) ho0 (fun k_ hk_ => Or.elim hk_ (fun hs_ => (HO_2.out.1 k_ (hs_).symm)) (fun hn_ => (.inr (Nat.le_trans (by first | exact HK.out.1 | exact (show Kept w _ (fun k_ => P2_ k_) from by repeat (first | (with_reducible first | exact HK.out | apply Kept.alloc | apply Kept.drewN | apply Kept.drew) | exact HK.out)).1) hn_))))); have n1_ := Aside0.mk (Kept.then_ (S := (fun k_ => P2_ k_)) (by repeat (first | (with_reducible first | exact HK.out | apply Kept.alloc | apply Kept.drewN | apply Kept.drew) | exact HK.out)) hkp (fun k_ hs_ => (fun e_ => (HO_2.out.1 k_ e_.symm)) hs_)); have n2_ := Aside0.mk (hb); clear HK; clear HB; clear HO_2; have HO271 := n0_; have HK := n1_; have HB := n2_; clear n0_ n1_ n2_; (try clear hb); (try clear hkp); (try clear ho0); have p32 : 0 ≤ ((l2.length : Int) : Int) := of_decide_eq_true (by first | (with_reducible assumption) | assumption); have q32 : ((l2.length : Int) : Int) < ((t269.length : Int) : Int) := of_decide_eq_true (by first | (with_reducible assumption) | assumption); obtain ⟨go32, co32, eo32, gb32, gl32, cl32, HG32⟩ := Kd.R_form HO271.out (by omega); (first | cases eo32 | (injection eo32 with ea_ en_ ec_; (first | subst ea_ | (injection ea_ with ea_; subst ea_)); subst ec_; clear en_)); have GB32 := Aside0.mk gb32; have GG32 := Aside0.mk HG32; clear gb32 gl32 HG32; have HMgo32 := Aside0.mk (show (P2_ go32 ∨ w.heap.size ≤ go32) from (HO271.out.1 _ rfl)); obtain ⟨ce32, hcl32, hM32, hcc32, hfr32⟩ := Kd.R_elem HO271.out z33 ((l2.length : Int) : Int) p32 q32; obtain rfl := k33_openM hM32; have hx32_0 : w35.cell? ⟨go32, l2.length * 2, none⟩ = some (.string ((rd_T33 t269 (l2.length : Int)).f0)) := hcc32 0 _ rfl; have hx32_1 : w35.cell? ⟨go32, l2.length * 2 + 1, none⟩ = some (.int .i64 ((rd_T33 t269 (l2.length : Int)).f1)) := hcc32 1 _ rfl; have hf32_0 : w35.frozen? ⟨go32, l2.length * 2, none⟩ = false := hfr32 0; have hf32_1 : w35.frozen? ⟨go32, l2.length * 2 + 1, none⟩ = false := hfr32 1; clear hcl32 hcc32 hfr32 hM32; replace p32 := eq_true p32; replace q32 := eq_true q32; have HX36 := Aside0.mk (show Kd.R k33 33 w35 w0.heap.size (fun k_ => (P2_ k_ ∨ w.heap.size ≤ k_)) (.slice (some ⟨go32, 0, none⟩) t269.length co32) t269 from (by (with_reducible repeat (first | apply Kd.R_alloc | apply Kd.R_drewN | apply Kd.R_drew)); exact HO271.out)); obtain ⟨ce36, hcl36, hM36, hcc36, hfr36⟩ := Kd.R_elem HX36.out z33 ((l2.length : Int) : Int) (of_decide_eq_true (by first | (with_reducible assumption) | assumption)) (by have h_ : ((l2.length : Int) : Int) < ((t269.length : Int) : Int) := of_decide_eq_true (by first | (with_reducible assumption) | assumption); first | exact h_ | (have e_ := (Kd.R_reads' HO271.out).1; omega) | simpa using h_); obtain rfl := k33_openM hM36; have HP36 := Kd.R_seg HX36.out ((l2.length : Int) : Int) (of_decide_eq_true (by first | (with_reducible assumption) | assumption)) (by have h_ : ((l2.length : Int) : Int) < ((t269.length : Int) : Int) := of_decide_eq_true (by first | (with_reducible assumption) | assumption); first | exact h_ | (have e_ := (Kd.R_reads' HO271.out).1; omega) | simpa using h_) (seg := [.int .i64 x13_3]) (j := 1) hcl36 hcc36 (show 2 ≤ 2 from by decide) (x' := (⟨(rd_T33 t269 (l2.length : Int)).f0, x13_3⟩ : S33)) (k33_mkM _ _ _ (⟨(rd_T33 t269 (l2.length : Int)).f0, x13_3⟩ : S33) ) (fun _ hk => hk); have hx36_1 := hcc36 1 _ rfl; (try simp only [show (k33).sz = 2 from rfl, Nat.mul_one, Nat.add_zero] at hx36_1); have hf36_1 := hfr36 1; (try simp only [show (k33).sz = 2 from rfl, Nat.mul_one, Nat.add_zero] at hf36_1); clear hcl36 hcc36 hfr36 hM36) | ((with_reducible refine gate_store (t := 3) (p := 88) rfl ?_); refine store_event (t := 3) (p := 88) (v := ?vo_w37) (w1 := (w35.setCell ⟨go32, l2.length * 2 + 1, none⟩ (.int .i64 x13_3))) ?hg ?ho ?hn ?hr ?_; (case ho => rfl); (case hg => rfl); (case hn => rfl); (case hr => first | (go_simp; done) | (go_simp; rfl)); intro w37 hw; have hg : w35.grownBy w37 (some go32) := (by rw [hw]; exact HP36.2); have hp_ : Kd.R k33 33 w37 w0.heap.size (fun k_ => (P2_ k_ ∨ w.heap.size ≤ k_)) (.slice (some ⟨go32, 0, none⟩) t269.length co32) y274 := (by rw [hw, Ny274.out]; exact HP36.1); clear HP36; have n0_ := Aside0.mk (hp_); have n1_ := Aside0.mk ((by rw [hw]; exact below_set (HB.out) GB32.out : Below w0.heap.size w0 w37)); have n2_ := Aside0.mk (Kept.of_grown (S := (fun k_ => P2_ k_)) hg (by repeat (first | (with_reducible first | exact HK.out | apply Kept.alloc | apply Kept.drewN | apply Kept.drew) | exact HK.out)) (fun k_ e_ => (HO271.out.1 k_ e_))); clear HO271; clear HB; clear HK; have HO271 := n0_; have HB := n1_; have HK := n2_; clear n0_ n1_ n2_; clear hg hw hp_))
                                      (try simp only [Act.put, List.setIfInBounds_toArray, List.set_cons_zero, List.set_cons_succ])
                                      go_cut [99] (fun v99 wc => ∃ (kq : Nat) (x99_32 : Bool), v99 = .bool x99_32 ∧ Aside0 (aumbryref04_Read.j4 kq a0 y274 t272 (l2.length : Int) x13_3 x99_32 = some (r1, r2, r3)) ∧ Aside0 (kq ≤ k3) ∧ Aside0 (Kd.R k33 33 wc w0.heap.size (fun k_ => (P2_ k_ ∨ w.heap.size ≤ k_)) (.slice (some ⟨go32, 0, none⟩) t269.length co32) y274) ∧ Aside0 (Kept w wc (fun k_ => P2_ k_)) ∧ Aside0 (Below w0.heap.size w0 wc))
                                      case first =>
                                        have H := HC33.out
                                        clear HC33
                                        by_cases c38 : t272 < (a0.size : Int)
                                        · rw [if_pos c38] at H
                                          have c38b0 : decide (t272 < (a0.size : Int)) = true := decide_eq_true c38
                                          clear c38
                                          (first | rw [c38b0] | (simp only [i64_w, i32_w]; rw [c38b0]) | skip)
                                          by_cases c39 : 0 ≤ t272
                                          · rw [if_pos c39] at H
                                            have c39b0 : decide (0 ≤ t272) = true := decide_eq_true c39
                                            clear c39
                                            have H' := Aside0.mk H
                                            clear H
                                            have p40 : 0 ≤ (t272 : Int) := of_decide_eq_true (by first | (with_reducible assumption) | assumption)
                                            have q40 : t272 < (a0.size : Int) := of_decide_eq_true (by first | (with_reducible assumption) | assumption)
                                            have hx40 := bt_at a0 t272
                                            replace p40 := eq_true p40
                                            replace q40 := eq_true q40
                                            go_wp2
                                            go_meet
                                            case rel => exact ⟨_, (((bt a0 t272) == 41)), (by first | rfl | (simp; done) | (simp [*]; done)), H', ⟨by have := HJ3.out; have := HJ18.out; have := HK3.out; first | omega | exact Nat.le_refl _⟩, ⟨by (with_reducible repeat (first | apply Kd.R_alloc | apply Kd.R_drewN | apply Kd.R_drew)); exact HO271.out⟩, ⟨by repeat (first | (with_reducible first | exact HK.out | apply Kept.alloc | apply Kept.drewN | apply Kept.drew) | exact HK.out)⟩, ⟨by repeat (first | (with_reducible first | exact HB.out | apply below_alloc | apply pw_below_drewN | apply below_drew1) | exact HB.out)⟩⟩
                                          · rw [if_neg c39] at H
                                            exact absurd H (by simp)
                                        · rw [if_neg c38] at H
                                          have c38b0 : decide (t272 < (a0.size : Int)) = false := decide_eq_false c38
                                          clear c38
                                          (first | rw [c38b0] | (simp only [i64_w, i32_w]; rw [c38b0]) | skip)
                                          have H' := Aside0.mk H
                                          clear H
                                          go_wp2
                                          go_meet
                                          case rel => exact ⟨_, (false), (by first | rfl | (simp; done) | (simp [*]; done)), H', ⟨by have := HJ3.out; have := HJ18.out; have := HK3.out; first | omega | exact Nat.le_refl _⟩, ⟨by (with_reducible repeat (first | apply Kd.R_alloc | apply Kd.R_drewN | apply Kd.R_drew)); exact HO271.out⟩, ⟨by repeat (first | (with_reducible first | exact HK.out | apply Kept.alloc | apply Kept.drewN | apply Kept.drew) | exact HK.out)⟩, ⟨by repeat (first | (with_reducible first | exact HB.out | apply below_alloc | apply pw_below_drewN | apply below_drew1) | exact HB.out)⟩⟩
                                      case rest =>
                                        clear HC33
                                        try clear c1
                                        try clear c2
                                        try clear p2
                                        try clear q2
                                        try clear hx2
                                        try clear c3
                                        try clear p3
                                        try clear q3
                                        try clear hx3
                                        try clear hf3
                                        try clear p4
                                        try clear q4
                                        try clear hx4
                                        try clear c5
                                        try clear c5b0
                                        try clear c6
                                        try clear c6b0
                                        try clear p6
                                        try clear p7
                                        try clear q7
                                        try clear hx7
                                        try clear c9
                                        try clear c10
                                        try clear c10b0
                                        try clear c10b1
                                        try clear c11
                                        try clear c11b0
                                        try clear c11b1
                                        try clear c12
                                        try clear c12b0
                                        try clear c12b1
                                        try clear c13
                                        try clear c13b0
                                        try clear c13b1
                                        try clear c15
                                        try clear c15b0
                                        try clear c15b1
                                        try clear c16
                                        try clear c16b0
                                        try clear c16b1
                                        try clear c18
                                        try clear c22
                                        try clear c22b0
                                        try clear c22b1
                                        try clear c23
                                        try clear c23b0
                                        try clear c24
                                        try clear c24b0
                                        try clear p25
                                        try clear q25
                                        try clear hx25
                                        try clear c26
                                        try clear c27
                                        try clear c27b0
                                        try clear c27b1
                                        try clear c29
                                        try clear c29b0
                                        try clear c29b1
                                        try clear c30
                                        try clear c30b0
                                        try clear c30b1
                                        try clear c31
                                        try clear c31b0
                                        try clear c31b1
                                        try clear c32
                                        try clear p32
                                        try clear q32
                                        try clear hx32
                                        try clear hf32
                                        try clear c36
                                        try clear hx36
                                        try clear hf36
                                        try clear c38
                                        try clear c38b0
                                        try clear c39
                                        try clear c39b0
                                        try clear p40
                                        try clear q40
                                        try clear hx40
                                        try clear hx32_0
                                        try clear hx32_1
                                        try clear hx36_1
                                        try clear p2
                                        try clear p25
                                        try clear p32
                                        try clear p40
                                        try clear p6
                                        try clear p7
                                        try clear q2
                                        try clear q25
                                        try clear q32
                                        try clear q40
                                        try clear q7
                                        obtain ⟨kq, x99_32, rfl, HA, HJ32, HO_2, HK, HB⟩ := hcut
                                        have hl2_32 := (Kd.R_reads' HO_2.out).1
                                        rw [hl2_32] at HO_2
                                        (try simp only [hl2_32])
                                        cases kq with
                                        | zero => exact absurd HA.out (by simp [aumbryref04_Read.j4])
                                        | succ kj32 =>
                                          have H := HA.out
                                          clear HA
                                          simp only [aumbryref04_Read.j4] at H
                                          by_cases c41 : x99_32 = true
                                          · subst c41
                                            have H1 : (some (y274, wrap64 (t272 + 1), 0)) = some (r1, r2, r3) := by rw [if_pos rfl] at H; exact H
                                            clear H
                                            have H := H1
                                            clear H1
                                            simp only [Option.some.injEq, Prod.mk.injEq] at H
                                            obtain ⟨rfl, rfl, rfl⟩ := H
                                            go_wp2
                                            go_ret3
                                            exact ⟨_, by first | rfl | (simp [errW_none, errW_some] <;> rfl) | (simp [*, errW_none, errW_some] <;> rfl), by (with_reducible repeat (first | apply Kd.R_alloc | apply Kd.R_drewN | apply Kd.R_drew)); exact HO_2.out, by repeat (first | (with_reducible first | exact HB.out | apply below_alloc | apply pw_below_drewN | apply below_drew1) | exact HB.out), by repeat (first | (with_reducible first | exact HK.out | apply Kept.alloc | apply Kept.drewN | apply Kept.drew) | exact HK.out)⟩
                                          · replace c41 := Bool.eq_false_iff.mpr c41
                                            subst c41
                                            have H1 : (if t272 = (a0.size : Int) then (aumbryref04_Read.j5 kj32 a0 y274 t272 (l2.length : Int) x13_3 true) else (if 0 ≤ t272 then (if t272 < (a0.size : Int) then (aumbryref04_Read.j5 kj32 a0 y274 t272 (l2.length : Int) x13_3 ((bt a0 t272) != 44)) else (none)) else (none))) = some (r1, r2, r3) := by rw [if_neg (show ¬ (false = true) by decide)] at H; exact H
                                            clear H
                                            have H := H1
                                            clear H1
                                            have HC42 := Aside0.mk H
                                            clear H
                                            go_upto_region 28 with (fail)
                                            go_cut [112] (fun v112 wc => ∃ (kq : Nat) (x112_41 : Bool), v112 = .bool x112_41 ∧ Aside0 (aumbryref04_Read.j5 kq a0 y274 t272 (l2.length : Int) x13_3 x112_41 = some (r1, r2, r3)) ∧ Aside0 (kq ≤ kj32) ∧ Aside0 (Kd.R k33 33 wc w0.heap.size (fun k_ => (P2_ k_ ∨ w.heap.size ≤ k_)) (.slice (some ⟨go32, 0, none⟩) y274.length co32) y274) ∧ Aside0 (Kept w wc (fun k_ => P2_ k_)) ∧ Aside0 (Below w0.heap.size w0 wc))
                                            case first =>
                                              have H := HC42.out
                                              clear HC42
                                              by_cases c43 : t272 = (a0.size : Int)
                                              · rw [if_pos c43] at H
                                                have c43b0 : (t272 == (a0.size : Int)) = true := beq_iff_eq.mpr c43
                                                have c43b1 : (t272 != (a0.size : Int)) = false := bne_eq_false_iff_eq.mpr c43
                                                clear c43
                                                (first | rw [c43b0] | (simp only [i64_w, i32_w]; rw [c43b0]) | skip)
                                                have H' := Aside0.mk H
                                                clear H
                                                go_wp2
                                                go_meet
                                                case rel => exact ⟨_, (true), (by first | rfl | (simp; done) | (simp [*]; done)), H', ⟨by have := HJ3.out; have := HJ18.out; have := HK3.out; have := HJ32.out; first | omega | exact Nat.le_refl _⟩, ⟨by (try simp only [hl2_32]); (with_reducible repeat (first | apply Kd.R_alloc | apply Kd.R_drewN | apply Kd.R_drew)); exact HO_2.out⟩, ⟨by repeat (first | (with_reducible first | exact HK.out | apply Kept.alloc | apply Kept.drewN | apply Kept.drew) | exact HK.out)⟩, ⟨by repeat (first | (with_reducible first | exact HB.out | apply below_alloc | apply pw_below_drewN | apply below_drew1) | exact HB.out)⟩⟩
                                              · rw [if_neg c43] at H
                                                have c43b0 : (t272 == (a0.size : Int)) = false := beq_eq_false_iff_ne.mpr c43
                                                have c43b1 : (t272 != (a0.size : Int)) = true := bne_iff_ne.mpr c43
                                                (first | rw [c43b0] | (simp only [i64_w, i32_w]; rw [c43b0]) | skip)
                                                by_cases c44 : 0 ≤ t272
                                                · rw [if_pos c44] at H
                                                  have c44b0 : decide (0 ≤ t272) = true := decide_eq_true c44
                                                  clear c44
                                                  by_cases c45 : t272 < (a0.size : Int)
                                                  · rw [if_pos c45] at H
                                                    have c45b0 : decide (t272 < (a0.size : Int)) = true := decide_eq_true c45
                                                    clear c45
                                                    have H' := Aside0.mk H
                                                    clear H
                                                    have p46 : 0 ≤ (t272 : Int) := of_decide_eq_true (by first | (with_reducible assumption) | assumption)
                                                    have q46 : t272 < (a0.size : Int) := of_decide_eq_true (by first | (with_reducible assumption) | assumption)
                                                    have hx46 := bt_at a0 t272
                                                    replace p46 := eq_true p46
                                                    replace q46 := eq_true q46
                                                    go_wp2
                                                    go_meet
                                                    case rel => exact ⟨_, (((bt a0 t272) != 44)), (by first | rfl | (simp; done) | (simp [*]; done)), H', ⟨by have := HJ3.out; have := HJ18.out; have := HK3.out; have := HJ32.out; first | omega | exact Nat.le_refl _⟩, ⟨by (try simp only [hl2_32]); (with_reducible repeat (first | apply Kd.R_alloc | apply Kd.R_drewN | apply Kd.R_drew)); exact HO_2.out⟩, ⟨by repeat (first | (with_reducible first | exact HK.out | apply Kept.alloc | apply Kept.drewN | apply Kept.drew) | exact HK.out)⟩, ⟨by repeat (first | (with_reducible first | exact HB.out | apply below_alloc | apply pw_below_drewN | apply below_drew1) | exact HB.out)⟩⟩
                                                  · rw [if_neg c45] at H
                                                    exact absurd H (by simp)
                                                · rw [if_neg c44] at H
                                                  exact absurd H (by simp)
                                            case rest =>
                                              clear HC42
                                              try clear c1
                                              try clear c2
                                              try clear p2
                                              try clear q2
                                              try clear hx2
                                              try clear c3
                                              try clear p3
                                              try clear q3
                                              try clear hx3
                                              try clear hf3
                                              try clear c4
                                              try clear p4
                                              try clear q4
                                              try clear hx4
                                              try clear c5
                                              try clear c5b0
                                              try clear c6
                                              try clear c6b0
                                              try clear p6
                                              try clear p7
                                              try clear q7
                                              try clear hx7
                                              try clear c9
                                              try clear c10
                                              try clear c10b0
                                              try clear c10b1
                                              try clear c11
                                              try clear c11b0
                                              try clear c11b1
                                              try clear c12
                                              try clear c12b0
                                              try clear c12b1
                                              try clear c13
                                              try clear c13b0
                                              try clear c13b1
                                              try clear c15
                                              try clear c15b0
                                              try clear c15b1
                                              try clear c16
                                              try clear c16b0
                                              try clear c16b1
                                              try clear c18
                                              try clear c22
                                              try clear c22b0
                                              try clear c22b1
                                              try clear c23
                                              try clear c23b0
                                              try clear c24
                                              try clear c24b0
                                              try clear p25
                                              try clear q25
                                              try clear hx25
                                              try clear c26
                                              try clear c27
                                              try clear c27b0
                                              try clear c27b1
                                              try clear c29
                                              try clear c29b0
                                              try clear c29b1
                                              try clear c30
                                              try clear c30b0
                                              try clear c30b1
                                              try clear c31
                                              try clear c31b0
                                              try clear c31b1
                                              try clear c32
                                              try clear p32
                                              try clear q32
                                              try clear hx32
                                              try clear hf32
                                              try clear c36
                                              try clear hx36
                                              try clear hf36
                                              try clear c38
                                              try clear c38b0
                                              try clear c39
                                              try clear c39b0
                                              try clear p40
                                              try clear q40
                                              try clear hx40
                                              try clear c41
                                              try clear c43
                                              try clear c43b0
                                              try clear c43b1
                                              try clear c44
                                              try clear c44b0
                                              try clear c45
                                              try clear c45b0
                                              try clear p46
                                              try clear q46
                                              try clear hx46
                                              try clear hx32_0
                                              try clear hx32_1
                                              try clear hx36_1
                                              try clear p2
                                              try clear p25
                                              try clear p3
                                              try clear p32
                                              try clear p4
                                              try clear p40
                                              try clear p46
                                              try clear p6
                                              try clear p7
                                              try clear q2
                                              try clear q25
                                              try clear q3
                                              try clear q32
                                              try clear q4
                                              try clear q40
                                              try clear q46
                                              try clear q7
                                              obtain ⟨kq, x112_41, rfl, HA, HJ41, HO_2, HK, HB⟩ := hcut
                                              cases kq with
                                              | zero => exact absurd HA.out (by simp [aumbryref04_Read.j5])
                                              | succ kj41 =>
                                                have H := HA.out
                                                clear HA
                                                simp only [aumbryref04_Read.j5] at H
                                                by_cases c47 : x112_41 = true
                                                · subst c47
                                                  have H1 : (some (([] : List (S33)), t272, 3)) = some (r1, r2, r3) := by rw [if_pos rfl] at H; exact H
                                                  clear H
                                                  have H := H1
                                                  clear H1
                                                  simp only [Option.some.injEq, Prod.mk.injEq] at H
                                                  obtain ⟨rfl, rfl, rfl⟩ := H
                                                  go_wp2
                                                  go_ret3
                                                  exact ⟨_, by first | rfl | (simp [errW_none, errW_some] <;> rfl) | (simp [*, errW_none, errW_some] <;> rfl), by first | exact Kd.R_nil _ _ _ _ _ | exact Kd.N_nil _ _ _ _ _ | exact Kd.V_nil _ _ _ _ _ | exact Kd.Q_nil _ _ _ _ _ | exact Kd.S_nil _ _ _ _ _, by repeat (first | (with_reducible first | exact HB.out | apply below_alloc | apply pw_below_drewN | apply below_drew1) | exact HB.out), by repeat (first | (with_reducible first | exact HK.out | apply Kept.alloc | apply Kept.drewN | apply Kept.drew) | exact HK.out)⟩
                                                · replace c47 := Bool.eq_false_iff.mpr c47
                                                  subst c47
                                                  have H1 : (if x13_3 = 4 then (some (([] : List (S33)), t272, 5)) else (aumbryref04_Read.l1 kj41 a0 y274 t272 (l2.length : Int) (wrap64 (x13_3 + 1)))) = some (r1, r2, r3) := by rw [if_neg (show ¬ (false = true) by decide)] at H; exact H
                                                  clear H
                                                  have H := H1
                                                  clear H1
                                                  by_cases c48 : x13_3 = 4
                                                  · rw [if_pos c48] at H
                                                    have c48b0 : (x13_3 == 4) = true := beq_iff_eq.mpr c48
                                                    have c48b1 : (x13_3 != 4) = false := bne_eq_false_iff_eq.mpr c48
                                                    clear c48
                                                    simp only [Option.some.injEq, Prod.mk.injEq] at H
                                                    obtain ⟨rfl, rfl, rfl⟩ := H
                                                    go_wp2
                                                    go_ret3
                                                    exact ⟨_, by first | rfl | (simp [errW_none, errW_some] <;> rfl) | (simp [*, errW_none, errW_some] <;> rfl), by first | exact Kd.R_nil _ _ _ _ _ | exact Kd.N_nil _ _ _ _ _ | exact Kd.V_nil _ _ _ _ _ | exact Kd.Q_nil _ _ _ _ _ | exact Kd.S_nil _ _ _ _ _, by repeat (first | (with_reducible first | exact HB.out | apply below_alloc | apply pw_below_drewN | apply below_drew1) | exact HB.out), by repeat (first | (with_reducible first | exact HK.out | apply Kept.alloc | apply Kept.drewN | apply Kept.drew) | exact HK.out)⟩
                                                  · rw [if_neg c48] at H
                                                    have c48b0 : (x13_3 == 4) = false := beq_eq_false_iff_ne.mpr c48
                                                    have c48b1 : (x13_3 != 4) = true := bne_iff_ne.mpr c48
                                                    have H' := Aside0.mk H
                                                    clear H
                                                    go_wp2
                                                    (try simp only [← hl2_32])
                                                    go_roundg kj41
                                                    case measure => have := HJ3.out; have := HJ18.out; have := HK3.out; have := HJ32.out; have := HJ41.out; omega
                                                    case rel => exact ⟨(y274), (t272), (wrap64 (x13_3 + 1)), (by first | rfl | (simp; done) | (simp [*]; done)), (by first | rfl | (simp; done) | (simp [*]; done)), H', ⟨by have := HJ3.out; have := HJ18.out; have := HK3.out; have := HJ32.out; have := HJ41.out; omega⟩, ⟨by (try simp only [hl2_32]); (with_reducible repeat (first | apply Kd.R_alloc | apply Kd.R_drewN | apply Kd.R_drew)); exact HO_2.out⟩, ⟨by repeat (first | (with_reducible first | exact HK.out | apply Kept.alloc | apply Kept.drewN | apply Kept.drew) | exact HK.out)⟩, ⟨by repeat (first | (with_reducible first | exact HB.out | apply below_alloc | apply pw_below_drewN | apply below_drew1) | exact HB.out)⟩⟩
                                    · rw [if_neg c31] at H
                                      exact absurd H (by simp)
                                  · rw [if_neg c30] at H
                                    exact absurd H (by simp)
                                · rw [if_neg c29] at H
                                  have c29b0 : (t273 == 0) = false := beq_eq_false_iff_ne.mpr c29
                                  have c29b1 : (t273 != 0) = true := bne_iff_ne.mpr c29
                                  simp only [Option.some.injEq, Prod.mk.injEq] at H
                                  obtain ⟨rfl, rfl, rfl⟩ := H
                                  obtain ⟨Ao49, co49, eo49⟩ := Kd.R_slice HO_2.out
                                  subst eo49
                                  go_wp2_with (first | ((with_reducible refine gate_callee (f := 65) rfl ?_); refine goesL_ (some 75) rfl rfl Tryd.func65 (by kernel_rfl) rfl #[.string a0, .int .i64 (wrap64 (x9_3 + 1)), .slice Ao49 x2_3.length co49] rfl (by (try simp only [List.map_toArray, List.map_cons, List.map_nil]); first | done | rfl | (simp only [List.length_drop, List.length_take]; rfl)) ?_; (with_reducible refine (ih k3 (by have := HJ3.out; have := HJ18.out; have := HK3.out; omega) a0 (wrap64 (x9_3 + 1)) (fun k_ => some k_ = (.slice Ao49 x2_3.length co49 : Value).ownBlock) (.slice Ao49 x2_3.length co49) x2_3 t269 t272 t273 w0 _ ?side1 ?side2 A28.out).mono ?_); (case side1 => repeat (first | (with_reducible first | exact HB.out | apply below_alloc | apply pw_below_drewN | apply below_drew1) | exact HB.out)); (case side2 => exact Kd.R_tight rfl HO_2.out); rintro e w50 ⟨v270, rfl, ho0, hb, hkp⟩; refine ⟨_, rfl, ?_⟩; have n0_ := Aside0.mk (Kd.R_mono (ok' := fun k_ => (P2_ k_ ∨ w.heap.size ≤ k_)) ho0 (fun k_ hk_ => Or.elim hk_ (fun hs_ => (HO_2.out.1 k_ (hs_).symm)) (fun hn_ => (.inr (Nat.le_trans (by first | exact HK.out.1 | exact (show Kept w _ (fun k_ => P2_ k_) from by repeat (first | (with_reducible first | exact HK.out | apply Kept.alloc | apply Kept.drewN | apply Kept.drew) | exact HK.out)).1) hn_))))); have n1_ := Aside0.mk (Kept.then_ (S := (fun k_ => P2_ k_)) (by repeat (first | (with_reducible first | exact HK.out | apply Kept.alloc | apply Kept.drewN | apply Kept.drew) | exact HK.out)) hkp (fun k_ hs_ => (fun e_ => (HO_2.out.1 k_ e_.symm)) hs_)); have n2_ := Aside0.mk (hb); clear HK; clear HB; clear HO_2; have HO271 := n0_; have HK := n1_; have HB := n2_; clear n0_ n1_ n2_; (try clear hb); (try clear hkp); (try clear ho0)))
                                  go_ret3
                                  exact ⟨_, by first | rfl | (simp [errW_none, errW_some] <;> rfl) | (simp [*, errW_none, errW_some] <;> rfl), by first | exact Kd.R_nil _ _ _ _ _ | exact Kd.N_nil _ _ _ _ _ | exact Kd.V_nil _ _ _ _ _ | exact Kd.Q_nil _ _ _ _ _ | exact Kd.S_nil _ _ _ _ _, by repeat (first | (with_reducible first | exact HB.out | apply below_alloc | apply pw_below_drewN | apply below_drew1) | exact HB.out), by repeat (first | (with_reducible first | exact HK.out | apply Kept.alloc | apply Kept.drewN | apply Kept.drew) | exact HK.out)⟩
                  · rw [if_neg c18] at H
                    exact absurd H (by simp)
          · rw [if_neg c12] at H
            exact absurd H (by simp)
        · rw [if_neg c11] at H
          exact absurd H (by simp)
      · rw [if_neg c10] at H
        exact absurd H (by simp)

end Go.Proofs.YtnkpcnnbeaomnaaDoor.C
end
