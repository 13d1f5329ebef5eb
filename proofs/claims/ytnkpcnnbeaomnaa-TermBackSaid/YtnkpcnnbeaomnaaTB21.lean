import Derived.Test.YtnkpcnnbeaomnaaTB6
import Derived.Test.YtnkpcnnbeaomnaaTB20
import Derived.Test.YtnkpcnnbeaomnaaTB14
import Derived.Test.YtnkpcnnbeaomnaaTB8
import Derived.Test.YtnkpcnnbeaomnaaTB11
import Derived.Test.YtnkpcnnbeaomnaaTB15
import Derived.Test.YtnkpcnnbeaomnaaTB19

section
-- Written by a program of this session (a scratch print over hand-made contracts), out of the translation. Not trusted: Lean checks it.
namespace Go.Proofs.Ytnkpcnnbeaomnaa.C
open Go.RowKit Go.Proofs.YtnkpcnnbeaomnaaW.PrintWords Go.Proofs.YtnkpcnnbeaomnaaW.PrintLast Go.Proofs.YtnkpcnnbeaomnaaW.PrintMore
attribute [local go_sem] max2_int min2_int max_two min_two max_three min_three max_four min_four   -- for this text's walks alone
set_option linter.unusedVariables false
set_option linter.unusedSimpArgs false

/-! ### aumbryref04_Parse: function 18 -/
def aumbryref04_Parse.j0 : Nat → List (S28) → Int → Int → Bool → Option ((List (S28)) × Int × Int)
  | 0, _, _, _, _ => none
  | k + 1, x5, x6, x7, x24 => if x24 = true then (some (([] : List (S28)), x6, 3)) else (if x7 = 0 then (some (x5, 0, 0)) else (some (([] : List (S28)), x6, x7)))
def aumbryref04_Parse.f (k : Nat) (a0 : ByteArray) : Option ((List (S28)) × Int × Int) := if (a0.size : Int) > 1024 then (some (([] : List (S28)), 0, 2)) else ((aumbryref04_Read.f k a0 0 ([] : List (S28))).bind fun bt266 => (if bt266.2.2 = 0 then (aumbryref04_Parse.j0 k bt266.1 bt266.2.1 bt266.2.2 (decide (bt266.2.1 < (a0.size : Int)))) else (aumbryref04_Parse.j0 k bt266.1 bt266.2.1 bt266.2.2 false)))
theorem aumbryref04_Parse.mono_l : ∀ k, (∀ y0 y1 y2 y3, LeO (aumbryref04_Parse.j0 k y0 y1 y2 y3) (aumbryref04_Parse.j0 (k + 1) y0 y1 y2 y3))
  | 0 => fun _ _ _ _ r h => by simp [aumbryref04_Parse.j0] at h
  | k + 1 => by
    have ih0 := aumbryref04_Parse.mono_l k
    · intro y0 y1 y2 y3
      unfold aumbryref04_Parse.j0
      repeat' first
      | (with_reducible exact ih0 _ _ _ _)
      | (with_reducible exact aumbryref04_Read.mono _ _ _ _)
      | (with_reducible exact LeO.refl _)
      | (with_reducible exact LeO.none _)
      | (with_reducible refine LeO.ite ?_ ?_)
      | (with_reducible refine LeO.bind ?_ (fun _ => ?_))
      | exact ih0 _ _ _ _
      | exact aumbryref04_Read.mono _ _ _ _
      | exact LeO.none _
      | refine LeO.ite ?_ ?_
      | refine LeO.bind ?_ (fun _ => ?_)
theorem aumbryref04_Parse.mono : ∀ a0 k, LeO (aumbryref04_Parse.f k a0) (aumbryref04_Parse.f (k + 1) a0) := by
  intro a0 k
  have ih0 := aumbryref04_Parse.mono_l k
  unfold aumbryref04_Parse.f
  repeat' first
      | (with_reducible exact ih0 _ _ _ _)
      | (with_reducible exact aumbryref04_Read.mono _ _ _ _)
      | (with_reducible exact LeO.refl _)
      | (with_reducible exact LeO.none _)
      | (with_reducible refine LeO.ite ?_ ?_)
      | (with_reducible refine LeO.bind ?_ (fun _ => ?_))
      | exact ih0 _ _ _ _
      | exact aumbryref04_Read.mono _ _ _ _
      | exact LeO.none _
      | refine LeO.ite ?_ ?_
      | refine LeO.bind ?_ (fun _ => ?_)
set_option maxHeartbeats 8000000 in
set_option maxRecDepth 100000 in
theorem aumbryref04_Parse.calls (k : Nat) (a0 : ByteArray) (r1 : List (S28)) (r2 : Int) (r3 : Int) (w : World) (h : aumbryref04_Parse.f k a0 = some (r1, r2, r3)) :
    Calls Try.prog 18 #[.string a0] w fun e w' => ∃ v0_ : Value, e = .returned (.tuple #[v0_, .int .i64 r2, .int .i64 r3]) ∧ Kd.R k28 28 w' w.heap.size (fun _ => True) v0_ r1 ∧ Below w.heap.size w w' := by
  have HB := Aside0.mk (Below.refl w.heap.size w)
  have H : (if (a0.size : Int) > 1024 then (some (([] : List (S28)), 0, 2)) else ((aumbryref04_Read.f k a0 0 ([] : List (S28))).bind fun bt266 => (if bt266.2.2 = 0 then (aumbryref04_Parse.j0 k bt266.1 bt266.2.1 bt266.2.2 (decide (bt266.2.1 < (a0.size : Int)))) else (aumbryref04_Parse.j0 k bt266.1 bt266.2.1 bt266.2.2 false)))) = some (r1, r2, r3) := h
  clear h
  by_cases c2 : (a0.size : Int) > 1024
  · rw [if_pos c2] at H
    have c2b0 : decide (1024 < (a0.size : Int)) = true := decide_eq_true c2
    have c2b1 : decide (1024 < a0.size) = true := decide_eq_true (by omega)
    clear c2
    simp only [Option.some.injEq, Prod.mk.injEq] at H
    obtain ⟨rfl, rfl, rfl⟩ := H
    go_enter Try.func18, Try.ntmps18
    go_wp2
    go_ret3
    exact ⟨_, by first | rfl | (simp [errW_none, errW_some] <;> rfl) | (simp [*, errW_none, errW_some] <;> rfl), by first | exact Kd.R_nil _ _ _ _ _ | exact Kd.N_nil _ _ _ _ _ | exact Kd.V_nil _ _ _ _ _ | exact Kd.Q_nil _ _ _ _ _ | exact Kd.S_nil _ _ _ _ _, by repeat (first | (with_reducible first | exact HB.out | apply below_alloc | apply pw_below_drewN | apply below_drew1) | exact HB.out)⟩
  · rw [if_neg c2] at H
    have c2b0 : decide (1024 < (a0.size : Int)) = false := decide_eq_false c2
    have c2b1 : decide (1024 < a0.size) = false := decide_eq_false (by omega)
    clear c2
    replace H := Option.bind_eq_some_iff.mp H
    obtain ⟨⟨t266, t269, t270⟩, A30, H⟩ := H
    replace H : (if t270 = 0 then (aumbryref04_Parse.j0 k t266 t269 t270 (decide (t269 < (a0.size : Int)))) else (aumbryref04_Parse.j0 k t266 t269 t270 false)) = some (r1, r2, r3) := H
    have A3 := Aside0.mk A30
    clear A30
    have HC4 := Aside0.mk H
    clear H
    go_enter Try.func18, Try.ntmps18
    go_upto_region 4 with (first | ((with_reducible refine gate_callee (f := 42) rfl ?_); refine goesL_ (some 13) rfl rfl Try.func42 (by kernel_rfl) rfl #[.string a0, .int .i64 0, .slice none 0 0] rfl (by (try simp only [List.map_toArray, List.map_cons, List.map_nil]); first | done | rfl | (simp only [List.length_drop, List.length_take]; rfl)) ?_; (refine (aumbryref04_Read.calls k a0 0 (fun k_ => some k_ = (.slice none 0 0 : Value).ownBlock) (.slice none 0 0) ([] : List (S28)) t266 t269 t270 w _ ?side1 ?side2 A3.out).mono ?_); (case side1 => repeat (first | (with_reducible first | exact HB.out | apply below_alloc | apply pw_below_drewN | apply below_drew1) | exact HB.out)); (case side2 => exact Kd.R_nil _ _ _ _ _); rintro e w5 ⟨v267, rfl, ho0, hb, hkp⟩; refine ⟨_, rfl, ?_⟩; have n0_ := Aside0.mk (Kd.R_mono (ok' := fun k_ => True) ho0 (fun k_ hk_ => trivial)); have n1_ := Aside0.mk (hb); clear HB; have HO268 := n0_; have HB := n1_; clear n0_ n1_; (try clear hb); (try clear hkp); (try clear ho0)))
    (try simp only [Act.put, List.setIfInBounds_toArray, List.set_cons_zero, List.set_cons_succ])
    go_cut [24] (fun v24 wc => ∃ (kq : Nat) (x24_3 : Bool), v24 = .bool x24_3 ∧ Aside0 (aumbryref04_Parse.j0 kq t266 t269 t270 x24_3 = some (r1, r2, r3)) ∧ Aside0 (kq ≤ k) ∧ Aside0 (Kd.R k28 28 wc w.heap.size (fun _ => True) v267 t266) ∧ Aside0 (Below w.heap.size w wc))
    case first =>
      have H := HC4.out
      clear HC4
      by_cases c6 : t270 = 0
      · rw [if_pos c6] at H
        have c6b0 : (t270 == 0) = true := beq_iff_eq.mpr c6
        have c6b1 : (t270 != 0) = false := bne_eq_false_iff_eq.mpr c6
        clear c6
        (first | rw [c6b0] | (simp only [i64_w, i32_w]; rw [c6b0]) | skip)
        have H' := Aside0.mk H
        clear H
        go_wp2
        go_meet
        case rel => exact ⟨_, (decide (t269 < (a0.size : Int))), (by first | rfl | (simp; done) | (simp [*]; done)), H', ⟨by first | omega | exact Nat.le_refl _⟩, ⟨by (with_reducible repeat (first | apply Kd.R_alloc | apply Kd.R_drewN | apply Kd.R_drew)); exact HO268.out⟩, ⟨by repeat (first | (with_reducible first | exact HB.out | apply below_alloc | apply pw_below_drewN | apply below_drew1) | exact HB.out)⟩⟩
      · rw [if_neg c6] at H
        have c6b0 : (t270 == 0) = false := beq_eq_false_iff_ne.mpr c6
        have c6b1 : (t270 != 0) = true := bne_iff_ne.mpr c6
        (first | rw [c6b0] | (simp only [i64_w, i32_w]; rw [c6b0]) | skip)
        have H' := Aside0.mk H
        clear H
        go_wp2
        go_meet
        case rel => exact ⟨_, (false), (by first | rfl | (simp; done) | (simp [*]; done)), H', ⟨by first | omega | exact Nat.le_refl _⟩, ⟨by (with_reducible repeat (first | apply Kd.R_alloc | apply Kd.R_drewN | apply Kd.R_drew)); exact HO268.out⟩, ⟨by repeat (first | (with_reducible first | exact HB.out | apply below_alloc | apply pw_below_drewN | apply below_drew1) | exact HB.out)⟩⟩
    case rest =>
      clear HC4
      try clear c1
      try clear c2
      try clear c2b0
      try clear c2b1
      try clear p2
      try clear c4
      try clear c6
      try clear c6b0
      try clear c6b1
      obtain ⟨kq, x24_3, rfl, HA, HJ3, HO_5, HB⟩ := hcut
      cases kq with
      | zero => exact absurd HA.out (by simp [aumbryref04_Parse.j0])
      | succ kj3 =>
        have H := HA.out
        clear HA
        simp only [aumbryref04_Parse.j0] at H
        by_cases c7 : x24_3 = true
        · subst c7
          have H1 : (some (([] : List (S28)), t269, 3)) = some (r1, r2, r3) := by rw [if_pos rfl] at H; exact H
          clear H
          have H := H1
          clear H1
          simp only [Option.some.injEq, Prod.mk.injEq] at H
          obtain ⟨rfl, rfl, rfl⟩ := H
          go_wp2
          go_ret3
          exact ⟨_, by first | rfl | (simp [errW_none, errW_some] <;> rfl) | (simp [*, errW_none, errW_some] <;> rfl), by first | exact Kd.R_nil _ _ _ _ _ | exact Kd.N_nil _ _ _ _ _ | exact Kd.V_nil _ _ _ _ _ | exact Kd.Q_nil _ _ _ _ _ | exact Kd.S_nil _ _ _ _ _, by repeat (first | (with_reducible first | exact HB.out | apply below_alloc | apply pw_below_drewN | apply below_drew1) | exact HB.out)⟩
        · replace c7 := Bool.eq_false_iff.mpr c7
          subst c7
          have H1 : (if t270 = 0 then (some (t266, 0, 0)) else (some (([] : List (S28)), t269, t270))) = some (r1, r2, r3) := by rw [if_neg (show ¬ (false = true) by decide)] at H; exact H
          clear H
          have H := H1
          clear H1
          by_cases c8 : t270 = 0
          · rw [if_pos c8] at H
            have c8b0 : (t270 == 0) = true := beq_iff_eq.mpr c8
            have c8b1 : (t270 != 0) = false := bne_eq_false_iff_eq.mpr c8
            clear c8
            simp only [Option.some.injEq, Prod.mk.injEq] at H
            obtain ⟨rfl, rfl, rfl⟩ := H
            go_wp2
            go_ret3
            exact ⟨_, by first | rfl | (simp [errW_none, errW_some] <;> rfl) | (simp [*, errW_none, errW_some] <;> rfl), by (with_reducible repeat (first | apply Kd.R_alloc | apply Kd.R_drewN | apply Kd.R_drew)); exact HO_5.out, by repeat (first | (with_reducible first | exact HB.out | apply below_alloc | apply pw_below_drewN | apply below_drew1) | exact HB.out)⟩
          · rw [if_neg c8] at H
            have c8b0 : (t270 == 0) = false := beq_eq_false_iff_ne.mpr c8
            have c8b1 : (t270 != 0) = true := bne_iff_ne.mpr c8
            simp only [Option.some.injEq, Prod.mk.injEq] at H
            obtain ⟨rfl, rfl, rfl⟩ := H
            go_wp2
            go_ret3
            exact ⟨_, by first | rfl | (simp [errW_none, errW_some] <;> rfl) | (simp [*, errW_none, errW_some] <;> rfl), by first | exact Kd.R_nil _ _ _ _ _ | exact Kd.N_nil _ _ _ _ _ | exact Kd.V_nil _ _ _ _ _ | exact Kd.Q_nil _ _ _ _ _ | exact Kd.S_nil _ _ _ _ _, by repeat (first | (with_reducible first | exact HB.out | apply below_alloc | apply pw_below_drewN | apply below_drew1) | exact HB.out)⟩

end Go.Proofs.Ytnkpcnnbeaomnaa.C
end

section
/- The program's reader and the reference's, held against each other: at every text and place both come to one answer. -/
namespace Go.Proofs.Ytnkpcnnbeaomnaa.C
open Go.RowKit Go.Proofs.YtnkpcnnbeaomnaaW.PrintWords Go.Proofs.YtnkpcnnbeaomnaaW.PrintLast Go.Proofs.YtnkpcnnbeaomnaaW.PrintMore
set_option linter.unusedVariables false
set_option linter.unusedSimpArgs false

theorem Ev.succ {α : Type} {g : Nat → Option α} {r : α} (K : Nat) (h : ∀ k, K ≤ k → g (k + 1) = some r) : Ev g r :=
  ⟨K + 1, fun k hk => by obtain ⟨m, rfl⟩ : ∃ m, k = m + 1 := ⟨k - 1, by omega⟩; exact h m (by omega)⟩

theorem sign04 (c : Int) : aumbryref04_sign.f c = some (sgn c) := by
  unfold aumbryref04_sign.f sgn
  by_cases a1 : 97 ≤ c
  · by_cases a2 : c ≤ 122
    · simp [a1, a2]
    · have a3 : ¬ c ≤ 90 := by omega
      have a4 : 65 ≤ c := by omega
      have a5 : 48 ≤ c := by omega
      have a6 : ¬ c ≤ 57 := by omega
      simp [a1, a2, a3, a4, a5, a6]
  · by_cases a3 : 65 ≤ c
    · by_cases a4 : c ≤ 90
      · simp [a1, a3, a4]
      · have a5 : 48 ≤ c := by omega
        have a6 : ¬ c ≤ 57 := by omega
        simp [a1, a3, a4, a5, a6]
    · by_cases a5 : 48 ≤ c
      · by_cases a6 : c ≤ 57
        · simp [a1, a3, a5, a6]
        · simp [a1, a3, a5, a6]
      · simp [a1, a3, a5]

theorem same_ev_aux (a : List S28) (hb : a.length ≤ 4611686018427387904) : ∀ d i : Nat, i + d = a.length → Ev (fun k => aumbryref04_Same.l0 k a a (a.length : Int) (i : Int)) true
  | 0, i, h => Ev.succ 0 (fun k _ => by simp only [aumbryref04_Same.l0]; rw [if_neg (by omega)])
  | d + 1, i, h => by
    have hw : wrap64 ((i : Int) + 1) = ((i + 1 : Nat) : Int) := by unfold wrap64; omega
    refine Ev.step (f := fun k => aumbryref04_Same.l0 k a a (a.length : Int) ((i + 1 : Nat) : Int)) (fun k => ?_) (same_ev_aux a hb d (i + 1) (by omega))
    simp only [aumbryref04_Same.l0]
    rw [if_pos (by omega), if_pos (by omega), if_pos (by omega), if_pos (by omega), if_neg (by simp), hw]
theorem same_ev (a : List S28) (hb : a.length ≤ 4611686018427387904) : Ev (fun k => aumbryref04_Same.f k a a) true :=
  Ev.congr (fun k => by unfold aumbryref04_Same.f; rw [if_pos rfl]; rfl) (same_ev_aux a hb a.length 0 (by omega))

theorem scan_both (s : ByteArray) (hs : s.size ≤ 1024) : ∀ (d : Nat) (a : Int), 0 ≤ a → a + d = (s.size : Int) → ∃ b, a ≤ b ∧ b ≤ (s.size : Int) ∧ Ev (fun k => scan k s a) b ∧
    ∀ (x : Int) (out : List S28) (r : List S28 × Int × Int), Ev (fun k => aumbryref04_Read.j1 k s x out b) r → Ev (fun k => aumbryref04_Read.l0 k s x out a) r
  | 0, a, h0, hd => by
    refine ⟨a, Int.le_refl _, by omega, Ev.succ 0 (fun k _ => ?_), fun x out r h => Ev.step (f := fun k => aumbryref04_Read.j1 k s x out a) (fun k => ?_) h⟩
    · simp only [scan]; rw [if_neg (by omega)]
    · simp only [aumbryref04_Read.l0]; rw [if_neg (by omega)]
  | d + 1, a, h0, hd => by
    by_cases hg : sgn (bt s a) = true
    · obtain ⟨b, h1, h2, h3, h4⟩ := scan_both s hs d (a + 1) (by omega) (by omega)
      have hw : wrap64 (a + 1) = a + 1 := by unfold wrap64; omega
      refine ⟨b, by omega, h2, Ev.step (f := fun k => scan k s (a + 1)) (fun k => ?_) h3, fun x out r h => Ev.step (f := fun k => aumbryref04_Read.l0 k s x out (a + 1)) (fun k => ?_) (h4 x out r h)⟩
      · simp only [scan]; rw [if_pos (by omega), if_pos h0, if_pos hg, hw]
      · simp only [aumbryref04_Read.l0]; rw [if_pos (by omega), if_pos h0, sign04, hg, hw]; rfl
    · refine ⟨a, Int.le_refl _, by omega, Ev.succ 0 (fun k _ => ?_), fun x out r h => Ev.step (f := fun k => aumbryref04_Read.j1 k s x out a) (fun k => ?_) h⟩
      · simp only [scan]; rw [if_pos (by omega), if_pos h0, if_neg hg]
      · simp only [aumbryref04_Read.l0]; rw [if_pos (by omega), if_pos h0, sign04]; simp [hg]

def trR : PR → List S28 × Int × Int
  | .ok a out => (out, a, 0)
  | .bad x y => ([], x, y)
def goodR (s : ByteArray) (a : Int) (out : List S28) : PR → Prop
  | .ok a1 out1 => a < a1 ∧ a1 ≤ (s.size : Int) ∧ out.length ≤ out1.length ∧ out1.length ≤ 64
  | .bad x y => 0 ≤ x ∧ x ≤ (s.size : Int) ∧ y ≠ 0
def FP (s : ByteArray) (d : Nat) : Prop := ∀ (a : Int) (out : List S28), 0 ≤ a → a ≤ (s.size : Int) → (s.size : Int) - a ≤ d → out.length ≤ 64 →
  ∃ r, Ev (fun k => rdt.f k s a out) r ∧ Ev (fun k => aumbryref04_Read.f k s a out) (trR r) ∧ goodR s a out r
def LP (s : ByteArray) (d : Nat) : Prop := ∀ (a : Int) (out : List S28) (cell : Nat) (n : Int), 0 ≤ a → a < (s.size : Int) → (s.size : Int) - a ≤ d → cell < out.length → out.length ≤ 64 → 1 ≤ n → n ≤ 4 →
  ∃ r, Ev (fun k => rdt.l k s a out cell n) r ∧ Ev (fun k => aumbryref04_Read.l1 k s out a (cell : Int) n) (trR r) ∧ goodR s a out r

theorem word_nil (s : ByteArray) (a b : Int) (h0 : 0 ≤ a) (hab : a ≤ b) (hb : b ≤ (s.size : Int)) : (s.extract a.toNat b.toNat).toList = ([] : List UInt8) ↔ a = b := by
  have hsz : (s.extract a.toNat b.toNat).size = b.toNat - a.toNat := by rw [ByteArray.size_extract]; omega
  constructor
  · intro h
    have h1 : (s.extract a.toNat b.toNat).toList.length = 0 := by rw [h]; rfl
    rw [tl_len, hsz] at h1
    omega
  · intro h
    apply List.eq_nil_of_length_eq_zero
    rw [tl_len, hsz]
    omega

theorem f_step (s : ByteArray) (hs : s.size ≤ 1024) (d : Nat) (ih : ∀ e, e < d → LP s e) : FP s d := by
  intro a out h0 h1 hd hlen
  obtain ⟨b, hab, hb, hsc, hrd⟩ := scan_both s hs (s.size - a.toNat) a h0 (by omega)
  obtain ⟨wd, hwd⟩ : ∃ wd, s.extract a.toNat b.toNat = wd := ⟨_, rfl⟩
  have hnil := word_nil s a b h0 hab hb
  rw [hwd] at hnil
  have hk := kind_ev wd
  have hrk := rkind_ev wd
  obtain ⟨K1, hsc⟩ := hsc
  dsimp only at hsc
  obtain ⟨K2, hk⟩ := hk
  dsimp only at hk
  have hR : ∀ r, Ev (fun k => aumbryref04_Read.j1 k s a out b) r → Ev (fun k => aumbryref04_Read.f k s a out) r := fun r h => Ev.step (f := fun k => aumbryref04_Read.l0 k s a out a) (fun k => by simp only [aumbryref04_Read.f]) (hrd a out r h)
  by_cases c1 : a = b
  · have hn := hnil.2 c1
    refine ⟨.bad a 3, Ev.succ (max K1 K2) (fun k hkk => ?_), hR _ (Ev.succ 0 (fun k _ => ?_)), h0, h1, by decide⟩
    · simp only [rdt.f]
      rw [if_pos ⟨h0, h1⟩, hsc k (by omega), Option.bind_some, hwd, hk k (by omega), Option.bind_some, if_pos hn]
    · simp only [aumbryref04_Read.j1]
      rw [if_pos h0, if_pos hab, if_pos hb, hwd, if_pos hn]
      rfl
  have hn : ¬ wd.toList = ([] : List UInt8) := fun h => c1 (hnil.1 h)
  by_cases c2 : kindOf wd = 0
  · refine ⟨.bad a 4, Ev.succ (max K1 K2) (fun k hkk => ?_), hR _ ?_, h0, h1, by decide⟩
    · simp only [rdt.f]
      rw [if_pos ⟨h0, h1⟩, hsc k (by omega), Option.bind_some, hwd, hk k (by omega), Option.bind_some, if_neg hn, if_pos c2]
    · obtain ⟨K3, hrk⟩ := hrk
      dsimp only at hrk
      refine Ev.succ K3 (fun k hkk => ?_)
      simp only [aumbryref04_Read.j1]
      rw [if_pos h0, if_pos hab, if_pos hb, hwd, if_neg hn, hrk k hkk, Option.bind_some, if_pos c2]
      rfl
  by_cases c3 : out.length = 64
  · refine ⟨.bad a 6, Ev.succ (max K1 K2) (fun k hkk => ?_), hR _ ?_, h0, h1, by decide⟩
    · simp only [rdt.f]
      rw [if_pos ⟨h0, h1⟩, hsc k (by omega), Option.bind_some, hwd, hk k (by omega), Option.bind_some, if_neg hn, if_neg c2, if_pos c3]
    · obtain ⟨K3, hrk⟩ := hrk
      dsimp only at hrk
      refine Ev.succ K3 (fun k hkk => ?_)
      simp only [aumbryref04_Read.j1]
      rw [if_pos h0, if_pos hab, if_pos hb, hwd, if_neg hn, hrk k hkk, Option.bind_some, if_neg c2, if_pos (by omega)]
      rfl
  have hR2 : ∀ r, Ev (fun k => aumbryref04_Read.j2 k s (out ++ [(⟨wd, 0⟩ : S28)]) b (kindOf wd) (out.length : Int) (decide (nxt s b ≠ 40))) r → Ev (fun k => aumbryref04_Read.f k s a out) r := by
    intro r h
    refine hR r ?_
    obtain ⟨K3, hrk⟩ := hrk
    dsimp only at hrk
    obtain ⟨K4, h⟩ := h
    dsimp only at h
    refine Ev.succ (max K3 K4) (fun k hkk => ?_)
    simp only [aumbryref04_Read.j1]
    rw [if_pos h0, if_pos hab, if_pos hb, hwd, if_neg hn, hrk k (by omega), Option.bind_some, if_neg c2, if_neg (by omega), if_pos (by omega), Option.bind_some]
    by_cases hbs : b = (s.size : Int)
    · rw [if_pos hbs]
      have : decide (nxt s b ≠ 40) = true := by rw [nxt, if_neg (by omega)]; decide
      rw [this] at h
      exact h k (by omega)
    · rw [if_neg hbs, if_pos (by omega), if_pos (by omega)]
      have : decide (nxt s b ≠ 40) = (bt s b != 40) := by
        rw [nxt, if_pos (by omega)]
        by_cases h40 : bt s b = 40 <;> simp [h40]
      rw [this] at h
      exact h k (by omega)
  by_cases c4 : nxt s b = 40
  · have hlt : b < (s.size : Int) := by
      rcases Int.lt_or_le b s.size with h' | h'
      · exact h'
      · rw [nxt, if_neg (by omega)] at c4
        exact absurd c4 (by decide)
    by_cases c5 : kindOf wd = 2
    · refine ⟨.bad b 5, Ev.succ (max K1 K2) (fun k hkk => ?_), hR2 _ (Ev.succ 0 (fun k _ => ?_)), by omega, hb, by decide⟩
      · simp only [rdt.f]
        rw [if_pos ⟨h0, h1⟩, hsc k (by omega), Option.bind_some, hwd, hk k (by omega), Option.bind_some, if_neg hn, if_neg c2, if_neg c3, if_pos (by omega), if_pos c4, if_pos c5]
      · simp only [aumbryref04_Read.j2]
        rw [if_neg (by simp [c4]), if_pos c5]
        rfl
    · obtain ⟨r, hr1, hr2, hg⟩ := ih (s.size - b.toNat) (by omega) b (out ++ [(⟨wd, 0⟩ : S28)]) out.length 1 (by omega) hlt (by omega) (by simp) (by simp; omega) (by omega) (by omega)
      obtain ⟨K5, hr1⟩ := hr1
      dsimp only at hr1
      refine ⟨r, Ev.succ (max (max K1 K2) K5) (fun k hkk => ?_), hR2 _ (Ev.step (f := fun k => aumbryref04_Read.l1 k s (out ++ [(⟨wd, 0⟩ : S28)]) b (out.length : Int) 1) (fun k => ?_) hr2), ?_⟩
      · simp only [rdt.f]
        rw [if_pos ⟨h0, h1⟩, hsc k (by omega), Option.bind_some, hwd, hk k (by omega), Option.bind_some, if_neg hn, if_neg c2, if_neg c3, if_pos (by omega), if_pos c4, if_neg c5]
        exact hr1 k (by omega)
      · simp only [aumbryref04_Read.j2]
        rw [if_neg (by simp [c4]), if_neg c5]
      · cases r with
        | ok x y => simp only [goodR, List.length_append, List.length_singleton] at hg ⊢; omega
        | bad x y => exact hg
  · refine ⟨.ok b (out ++ [(⟨wd, 0⟩ : S28)]), Ev.succ (max K1 K2) (fun k hkk => ?_), hR2 _ (Ev.succ 0 (fun k _ => ?_)), by omega, hb, by simp, by simp; omega⟩
    · simp only [rdt.f]
      rw [if_pos ⟨h0, h1⟩, hsc k (by omega), Option.bind_some, hwd, hk k (by omega), Option.bind_some, if_neg hn, if_neg c2, if_neg c3, if_pos (by omega), if_neg c4]
    · simp only [aumbryref04_Read.j2]
      rw [if_pos (by simp [c4])]
      rfl

theorem l_step (s : ByteArray) (hs : s.size ≤ 1024) (d : Nat) (ihf : ∀ e, e < d → FP s e) (ihl : ∀ e, e < d → LP s e) : LP s d := by
  intro a out cell n h0 h1 hd hc hlen hn1 hn4
  have hw : wrap64 (a + 1) = a + 1 := by unfold wrap64; omega
  obtain ⟨x, hx1, hx2, hg⟩ := ihf (s.size - (a + 1).toNat) (by omega) (a + 1) out (by omega) (by omega) (by omega) hlen
  obtain ⟨K1, hx1⟩ := hx1
  dsimp only at hx1
  obtain ⟨K2, hx2⟩ := hx2
  dsimp only at hx2
  cases x with
  | bad x y =>
    obtain ⟨g1, g2, g3⟩ := hg
    refine ⟨.bad x y, Ev.succ K1 (fun k hkk => ?_), Ev.succ K2 (fun k hkk => ?_), g1, g2, g3⟩
    · simp only [rdt.l]
      rw [hw, hx1 k hkk]
      rfl
    · simp only [aumbryref04_Read.l1]
      rw [hw, hx2 k hkk]
      simp only [trR, Option.bind_some]
      rw [if_neg g3]
  | ok a1 out1 =>
    obtain ⟨g1, g2, g3, g4⟩ := hg
    have hcell : cell < out1.length := by omega
    obtain ⟨o2, ho2⟩ : ∃ o2, out1.set cell ⟨(rd_T28 out1 cell).f0, n⟩ = o2 := ⟨_, rfl⟩
    have ho2l : o2.length = out1.length := by rw [← ho2]; simp
    have hR : ∀ r, Ev (fun k => aumbryref04_Read.j4 k s o2 a1 (cell : Int) n (nxt s a1 == 41)) r → Ev (fun k => aumbryref04_Read.l1 k s out a (cell : Int) n) r := by
      intro r h
      obtain ⟨K3, h⟩ := h
      dsimp only at h
      refine Ev.succ (max K2 K3) (fun k hkk => ?_)
      simp only [aumbryref04_Read.l1]
      rw [hw, hx2 k (by omega)]
      simp only [trR, Option.bind_some]
      rw [if_pos trivial, if_pos (by omega), if_pos (by omega), show ((cell : Int)).toNat = cell from Int.toNat_natCast cell, ho2]
      by_cases hlt : a1 < (s.size : Int)
      · rw [if_pos hlt, if_pos (by omega)]
        have := h k (by omega)
        rwa [nxt, if_pos hlt] at this
      · rw [if_neg hlt]
        have := h k (by omega)
        rwa [nxt, if_neg hlt] at this
    by_cases c1 : nxt s a1 = 41
    · have hlt : a1 < (s.size : Int) := by
        rcases Int.lt_or_le a1 s.size with h' | h'
        · exact h'
        · rw [nxt, if_neg (by omega)] at c1
          exact absurd c1 (by decide)
      have hw1 : wrap64 (a1 + 1) = a1 + 1 := by unfold wrap64; omega
      refine ⟨.ok (a1 + 1) o2, Ev.succ K1 (fun k hkk => ?_), hR _ (Ev.succ 0 (fun k _ => ?_)), by omega, by omega, by omega, by omega⟩
      · simp only [rdt.l]
        rw [hw, hx1 k hkk]
        simp only [Option.bind_some]
        rw [if_pos (by omega), if_pos hcell, if_pos c1, hw1, ho2]
      · simp only [aumbryref04_Read.j4]
        rw [if_pos (by simp [c1]), hw1]
        rfl
    · have hR5 : ∀ r, Ev (fun k => aumbryref04_Read.j5 k s o2 a1 (cell : Int) n (nxt s a1 != 44)) r → Ev (fun k => aumbryref04_Read.l1 k s out a (cell : Int) n) r := by
        intro r h
        refine hR r ?_
        obtain ⟨K3, h⟩ := h
        dsimp only at h
        refine Ev.succ K3 (fun k hkk => ?_)
        simp only [aumbryref04_Read.j4]
        rw [if_neg (by simp [c1])]
        by_cases hlt : a1 < (s.size : Int)
        · rw [if_neg (by omega), if_pos (by omega), if_pos hlt]
          have := h k hkk
          rwa [nxt, if_pos hlt] at this
        · rw [if_pos (by omega)]
          have := h k hkk
          rwa [nxt, if_neg hlt] at this
      by_cases c2 : nxt s a1 = 44
      · have hlt : a1 < (s.size : Int) := by
          rcases Int.lt_or_le a1 s.size with h' | h'
          · exact h'
          · rw [nxt, if_neg (by omega)] at c2
            exact absurd c2 (by decide)
        by_cases c3 : n = 4
        · refine ⟨.bad a1 5, Ev.succ K1 (fun k hkk => ?_), hR5 _ (Ev.succ 0 (fun k _ => ?_)), by omega, by omega, by decide⟩
          · simp only [rdt.l]
            rw [hw, hx1 k hkk]
            simp only [Option.bind_some]
            rw [if_pos (by omega), if_pos hcell, if_neg c1, if_pos c2, if_pos c3]
          · simp only [aumbryref04_Read.j5]
            rw [if_neg (by simp [c2]), if_pos c3]
            rfl
        · have hwn : wrap64 (n + 1) = n + 1 := by unfold wrap64; omega
          obtain ⟨r, hr1, hr2, hg⟩ := ihl (s.size - a1.toNat) (by omega) a1 o2 cell (n + 1) (by omega) hlt (by omega) (by omega) (by omega) (by omega) (by omega)
          obtain ⟨K5, hr1⟩ := hr1
          dsimp only at hr1
          refine ⟨r, Ev.succ (max K1 K5) (fun k hkk => ?_), hR5 _ (Ev.step (f := fun k => aumbryref04_Read.l1 k s o2 a1 (cell : Int) (n + 1)) (fun k => ?_) hr2), ?_⟩
          · simp only [rdt.l]
            rw [hw, hx1 k (by omega)]
            simp only [Option.bind_some]
            rw [if_pos (by omega), if_pos hcell, if_neg c1, if_pos c2, if_neg c3, hwn, ho2]
            exact hr1 k (by omega)
          · simp only [aumbryref04_Read.j5]
            rw [if_neg (by simp [c2]), if_neg c3, hwn]
          · cases r with
            | ok x y => simp only [goodR] at hg ⊢; omega
            | bad x y => exact hg
      · refine ⟨.bad a1 3, Ev.succ K1 (fun k hkk => ?_), hR5 _ (Ev.succ 0 (fun k _ => ?_)), by omega, by omega, by decide⟩
        · simp only [rdt.l]
          rw [hw, hx1 k hkk]
          simp only [Option.bind_some]
          rw [if_pos (by omega), if_pos hcell, if_neg c1, if_neg c2]
        · simp only [aumbryref04_Read.j5]
          rw [if_pos (by simp [c2])]
          rfl

theorem reads_all (s : ByteArray) (hs : s.size ≤ 1024) : ∀ d, FP s d ∧ LP s d := by
  intro d
  induction d using Nat.strongRecOn with
  | _ d ih => exact ⟨f_step s hs d (fun e he => (ih e he).2), l_step s hs d (fun e he => (ih e he).1) (fun e he => (ih e he).2)⟩

/-- At every text: both parsers come to one answer; what is read has at most 64 cells. -/
theorem parse_both (s : ByteArray) : ∃ (t : List S28) (a e : Int), Ev (fun k => term_Parse.f k s) (t, a, e) ∧ Ev (fun k => aumbryref04_Parse.f k s) (t, a, e) ∧ t.length ≤ 64 := by
  by_cases hs : (s.size : Int) > 1024
  · refine ⟨[], 0, 2, Ev.congr (f := fun _ => some ([], 0, 2)) (fun k => ?_) (Ev.now _), Ev.congr (f := fun _ => some ([], 0, 2)) (fun k => ?_) (Ev.now _), by simp⟩
    · unfold term_Parse.f; rw [if_pos hs]
    · unfold aumbryref04_Parse.f; rw [if_pos hs]
  · obtain ⟨r, h1, h2, hg⟩ := (reads_all s (by omega) s.size).1 0 [] (by omega) (by omega) (by omega) (by simp)
    obtain ⟨K1, h1⟩ := h1
    obtain ⟨K2, h2⟩ := h2
    dsimp only at h1 h2
    have hj : ∀ (t : List S28) (x y : Int) (z : Bool) (r : List S28 × Int × Int), Ev (fun k => aumbryref04_Parse.j0 k t x y z) r → Ev (fun k => aumbryref04_Parse.j0 k t x y z) r := fun _ _ _ _ _ h => h
    cases r with
    | bad x y =>
      obtain ⟨g1, g2, g3⟩ := hg
      refine ⟨[], x, y, ⟨K1, fun k hk => ?_⟩, ⟨K2 + 1, fun k hk => ?_⟩, by simp⟩
      · dsimp only
        unfold term_Parse.f
        rw [if_neg hs, h1 k hk]
        rfl
      · obtain ⟨m, rfl⟩ : ∃ m, k = m + 1 := ⟨k - 1, by omega⟩
        dsimp only
        unfold aumbryref04_Parse.f
        rw [if_neg hs, h2 _ (by omega)]
        simp only [trR, Option.bind_some]
        rw [if_neg g3]
        simp only [aumbryref04_Parse.j0]
        rw [if_neg (by decide), if_neg g3]
    | ok x out =>
      obtain ⟨g1, g2, g3, g4⟩ := hg
      by_cases hx : x < (s.size : Int)
      · refine ⟨[], x, 3, ⟨K1, fun k hk => ?_⟩, ⟨K2 + 1, fun k hk => ?_⟩, by simp⟩
        · dsimp only
          unfold term_Parse.f
          rw [if_neg hs, h1 k hk]
          simp only [Option.bind_some]
          rw [if_pos hx]
        · obtain ⟨m, rfl⟩ : ∃ m, k = m + 1 := ⟨k - 1, by omega⟩
          dsimp only
          unfold aumbryref04_Parse.f
          rw [if_neg hs, h2 _ (by omega)]
          simp only [trR, Option.bind_some]
          rw [if_pos trivial]
          simp only [aumbryref04_Parse.j0]
          rw [if_pos (decide_eq_true hx)]
      · refine ⟨out, 0, 0, ⟨K1, fun k hk => ?_⟩, ⟨K2 + 1, fun k hk => ?_⟩, g4⟩
        · dsimp only
          unfold term_Parse.f
          rw [if_neg hs, h1 k hk]
          simp only [Option.bind_some]
          rw [if_neg hx]
          unfold clone_Term.f
          rw [if_pos (by omega)]
          rfl
        · obtain ⟨m, rfl⟩ : ∃ m, k = m + 1 := ⟨k - 1, by omega⟩
          dsimp only
          unfold aumbryref04_Parse.f
          rw [if_neg hs, h2 _ (by omega)]
          simp only [trR, Option.bind_some]
          rw [if_pos trivial]
          simp only [aumbryref04_Parse.j0]
          rw [if_neg (by simp; omega), if_pos trivial]

theorem wakes_at : aumbrylaw04_wakes.f 40 = some true := by kernel_rfl
theorem wakes_ev : Ev (fun k => aumbrylaw04_wakes.f k) true := Ev.of (g := fun k => aumbrylaw04_wakes.f k) (fun k => aumbrylaw04_wakes.mono k) wakes_at

end Go.Proofs.Ytnkpcnnbeaomnaa.C
end

section
/- Pieces of a text, byte by byte. Plain words, no machine. -/
namespace Go.Proofs.Ytnkpcnnbeaomnaa.C
open Go.RowKit Go.Proofs.YtnkpcnnbeaomnaaW.PrintWords Go.Proofs.YtnkpcnnbeaomnaaW.PrintLast Go.Proofs.YtnkpcnnbeaomnaaW.PrintMore
set_option linter.unusedVariables false
set_option linter.unusedSimpArgs false

def seg (s : ByteArray) (a b : Nat) : List UInt8 := (s.data.toList.take b).drop a
theorem seg_len (s : ByteArray) (a b : Nat) (hab : a ≤ b) (hb : b ≤ s.size) : (seg s a b).length = b - a := by
  have := data_length s
  simp only [seg, List.length_drop, List.length_take]
  omega
theorem seg_app (s : ByteArray) (a b c : Nat) (hab : a ≤ b) (hbc : b ≤ c) (hc : c ≤ s.size) : seg s a c = seg s a b ++ seg s b c := by
  have hl := data_length s
  have h1 : s.data.toList.take c = s.data.toList.take b ++ (s.data.toList.take c).drop b := by
    have := (List.take_append_drop b (s.data.toList.take c)).symm
    rwa [List.take_take, Nat.min_eq_left hbc] at this
  have h2 : (s.data.toList.take b).length = b := by rw [List.length_take]; omega
  unfold seg
  conv => lhs; rw [h1]
  rw [List.drop_append, h2, show a - b = 0 by omega, List.drop_zero]
theorem seg_split (s : ByteArray) (a c : Nat) (x y : List UInt8) (hc : c ≤ s.size) (hlen : c = a + x.length + y.length) (h : seg s a c = x ++ y) : seg s a (a + x.length) = x ∧ seg s (a + x.length) c = y := by
  rw [seg_app s a (a + x.length) c (by omega) (by omega) hc] at h
  have hl := seg_len s a (a + x.length) (by omega) (by omega)
  exact List.append_inj h (by omega)
theorem seg_one (s : ByteArray) (a : Nat) (ha : a < s.size) : ∃ c : UInt8, seg s a (a + 1) = [c] ∧ bt s a = (c.toNat : Int) := by
  have hl := data_length s
  refine ⟨s.data.toList[a]'(by omega), ?_, bt_get s a ha⟩
  unfold seg
  rw [List.take_add_one, List.drop_append, List.drop_eq_nil_of_le (by rw [List.length_take]; omega), List.getElem?_eq_getElem (by omega), List.length_take, Nat.min_eq_left (by omega), Nat.sub_self]
  rfl
theorem seg_byte (s : ByteArray) (a : Nat) (ha : a < s.size) (c : UInt8) (h : bt s a = (c.toNat : Int)) : seg s a (a + 1) = [c] := by
  obtain ⟨d, h1, h2⟩ := seg_one s a ha
  rw [h1]
  have : d.toNat = c.toNat := by omega
  rw [UInt8.toNat_inj.1 this]
theorem seg_head (s : ByteArray) (a b : Nat) (c : UInt8) (r : List UInt8) (hb : b ≤ s.size) (hlen : b = a + 1 + r.length) (h : seg s a b = c :: r) : bt s a = (c.toNat : Int) ∧ seg s (a + 1) b = r := by
  obtain ⟨h1, h2⟩ := seg_split s a b [c] r hb (by simpa using hlen) h
  obtain ⟨d, h3, h4⟩ := seg_one s a (by omega)
  rw [List.length_singleton] at h1 h2
  rw [h1] at h3
  obtain rfl : c = d := by simpa using h3
  exact ⟨h4, h2⟩
theorem seg_extract (s : ByteArray) (a b : Nat) : (s.extract a b).data.toList = seg s a b := by
  unfold seg
  rw [ByteArray.data_extract, Array.toList_extract, List.extract_eq_take_drop, List.drop_take]
theorem seg_bt (s n : ByteArray) (a : Nat) (ha : a + n.size ≤ s.size) (h : seg s a (a + n.size) = n.data.toList) (i : Nat) (hi : i < n.size) : bt s ((a + i : Nat) : Int) = bt n (i : Int) := by
  have hl := data_length s
  have hn := data_length n
  rw [bt_get s (a + i) (by omega), bt_get n i hi]
  have h1 : (seg s a (a + n.size))[i]? = some (s.data.toList[a + i]'(by omega)) := by
    unfold seg
    rw [List.getElem?_drop, List.getElem?_take, if_pos (by omega), List.getElem?_eq_getElem (by omega)]
  rw [h, List.getElem?_eq_getElem (by omega)] at h1
  have h2 := Option.some.inj h1
  rw [h2]

def stop (s : ByteArray) (c : Nat) : Prop := c = s.size ∨ bt s c = 41 ∨ bt s c = 44
theorem scan_to (s : ByteArray) (hs : s.size ≤ 1024) : ∀ (d a : Nat), a + d ≤ s.size → (∀ i, i < d → sgn (bt s ((a + i : Nat) : Int)) = true) → (a + d = s.size ∨ sgn (bt s ((a + d : Nat) : Int)) = false) → Ev (fun k => scan k s (a : Int)) ((a + d : Nat) : Int)
  | 0, a, h, hi, he => by
    refine Ev.nxt 0 (fun k _ => ?_)
    simp only [scan]
    rcases he with he | he
    · rw [if_neg (by omega)]
      rfl
    · by_cases hlt : (a : Int) < s.size
      · rw [if_pos hlt, if_pos (by omega), if_neg (by simpa using he)]
        rfl
      · rw [if_neg hlt]
        rfl
  | d + 1, a, h, hi, he => by
    have hw : wrap64 ((a : Int) + 1) = ((a + 1 : Nat) : Int) := by unfold wrap64; omega
    have ih := scan_to s hs d (a + 1) (by omega) (fun i hid => by have := hi (i + 1) (by omega); rwa [show a + (i + 1) = a + 1 + i by omega] at this) (by rwa [show a + (d + 1) = a + 1 + d by omega] at he)
    rw [show a + (d + 1) = a + 1 + d by omega]
    refine Ev.step (f := fun k => scan k s ((a + 1 : Nat) : Int)) (fun k => ?_) ih
    simp only [scan]
    rw [if_pos (by omega), if_pos (by omega), if_pos (show sgn (bt s (a : Int)) = true from hi 0 (by omega)), hw]

theorem name_scan (s n : ByteArray) (hs : s.size ≤ 1024) (a : Nat) (hk : kindOf n ≠ 0) (ha : a + n.size ≤ s.size) (h : seg s a (a + n.size) = n.data.toList) (he : a + n.size = s.size ∨ sgn (bt s ((a + n.size : Nat) : Int)) = false) :
    Ev (fun k => scan k s (a : Int)) ((a + n.size : Nat) : Int) ∧ s.extract a (a + n.size) = n := by
  obtain ⟨_, _, hsg⟩ := name_signs n hk
  refine ⟨scan_to s hs n.size a ha (fun i hi => ?_) he, ?_⟩
  · rw [seg_bt s n a ha h i hi]
    have := hsg i hi
    simp [sgn]
    omega
  · apply ByteArray.ext
    rw [← Array.toList_inj, seg_extract, h]

theorem nxt_at (s : ByteArray) (c : Nat) (h : c < s.size) : nxt s (c : Int) = bt s (c : Int) := by
  unfold nxt
  rw [if_pos (by omega)]
theorem stop_nxt {s : ByteArray} {c : Nat} (h : stop s c) (hc : c ≤ s.size) : nxt s (c : Int) ≠ 40 ∧ (c = s.size ∨ sgn (bt s (c : Int)) = false) := by
  rcases h with h | h | h
  · refine ⟨?_, .inl h⟩
    unfold nxt
    rw [if_neg (by omega)]
    decide
  · refine ⟨?_, .inr (by rw [h]; decide)⟩
    unfold nxt
    split
    · rw [h]; decide
    · decide
  · refine ⟨?_, .inr (by rw [h]; decide)⟩
    unfold nxt
    split
    · rw [h]; decide
    · decide

theorem toList_ne {n : ByteArray} (h : 1 ≤ n.size) : ¬ n.toList = ([] : List UInt8) := by
  intro e
  have := tl_len n
  rw [e] at this
  simp at this
  omega
theorem rd_app {a b : List S28} {i : Nat} (h : i < a.length) : rd_T28 (a ++ b) (i : Int) = rd_T28 a (i : Int) := by
  simp [rd_T28, List.getD_eq_getElem?_getD, List.getElem?_append_left h]
theorem rd_set {a : List S28} {i : Nat} {x : S28} (h : i < a.length) : rd_T28 (a.set i x) (i : Int) = x := by
  simp [rd_T28, List.getD_eq_getElem?_getD, h]

theorem wrap_nat (n : Nat) (h : n ≤ 1000000) : wrap64 ((n : Int) + 1) = ((n + 1 : Nat) : Int) := by unfold wrap64; omega
theorem wrap_int (a : Int) (h0 : 0 ≤ a) (h : a ≤ 1000000) : wrap64 (a + 1) = a + 1 := by unfold wrap64; omega
theorem txtK_pos : ∀ (ks : List Tr) (b : Bool), ks ≠ [] → 0 < (txtK b ks).length
  | [], _, h => absurd rfl h
  | T :: r, b, _ => by simp [txtK]
theorem txtK_head : ∀ (ks : List Tr) (b : Bool), ks ≠ [] → ∃ (r : List UInt8), txtK b ks = (if b then 40 else 44) :: r
  | [], _, h => absurd rfl h
  | T :: r, b, _ => ⟨_, by simp only [txtK]; rfl⟩
theorem bytes_toList (l : List UInt8) : (⟨l.toArray⟩ : ByteArray).data.toList = l := by simp
theorem set_twice (a b : List S28) (c : Nat) (x y : S28) (h : c < a.length) : (a.set c x ++ b).set c y = (a ++ b).set c y := by
  rw [List.set_append_left _ _ (by rw [List.length_set]; exact h), List.set_set, ← List.set_append_left _ _ h]

end Go.Proofs.Ytnkpcnnbeaomnaa.C
end

section
/- A written tree is read as it was. Plain words, no machine. -/
namespace Go.Proofs.Ytnkpcnnbeaomnaa.C
open Go.RowKit Go.Proofs.YtnkpcnnbeaomnaaW.PrintWords Go.Proofs.YtnkpcnnbeaomnaaW.PrintLast Go.Proofs.YtnkpcnnbeaomnaaW.PrintMore
set_option linter.unusedVariables false
set_option linter.unusedSimpArgs false

def ReadT (T : Tr) : Prop := ∀ (s : ByteArray) (a L : Nat) (out : List S28), s.size ≤ 1024 → fine T → (txt T).length = L → a + L ≤ s.size → seg s a (a + L) = txt T → stop s (a + L) → out.length + (flat T).length ≤ 64 →
    Ev (fun k => rdt.f k s (a : Int) out) (.ok ((a + L : Nat) : Int) (out ++ flat T))
def ReadL (ks : List Tr) : Prop := ∀ (s : ByteArray) (b : Bool) (a L : Nat) (out : List S28) (cell n : Nat), s.size ≤ 1024 → ks ≠ [] → fineL ks → (txtK b ks).length = L → a + L + 1 ≤ s.size → seg s a (a + L + 1) = txtK b ks ++ [41] → cell < out.length → out.length + (flatL ks).length ≤ 64 → 1 ≤ n → n - 1 + ks.length ≤ 4 →
    Ev (fun k => rdt.l k s (a : Int) out cell (n : Int)) (.ok ((a + L + 1 : Nat) : Int) ((out ++ flatL ks).set cell ⟨(rd_T28 out (cell : Int)).f0, ((n - 1 + ks.length : Nat) : Int)⟩))

theorem readT_leaf (n : ByteArray) : ReadT (.node n []) := by
  intro s a L out hs hf hL hle ht hst ho
  obtain ⟨h0, h4, h2, hfk⟩ := hf
  obtain ⟨hn1, hn8, hsg⟩ := name_signs n h0
  have hnd := data_length n
  have hst' := stop_nxt hst hle
  obtain ⟨K2, hk⟩ := kind_ev n
  dsimp only at hk
  have e : txt (.node n []) = n.data.toList := by simp [txt, txtK]
  have eo : flat (.node n []) = [(⟨n, 0⟩ : S28)] := by simp [flat, flatL]
  rw [e] at ht hL
  rw [eo] at ho ⊢
  rw [hnd] at hL
  subst hL
  obtain ⟨hsc, hex⟩ := name_scan s n hs a h0 hle ht hst'.2
  obtain ⟨K1, hsc⟩ := hsc
  dsimp only at hsc
  rw [List.length_singleton] at ho
  refine Ev.nxt (max K1 K2) (fun k hkk => ?_)
  simp only [rdt.f]
  rw [if_pos (by omega), hsc k (by omega), Option.bind_some, Int.toNat_natCast, Int.toNat_natCast, hex, hk k (by omega), Option.bind_some, if_neg (toList_ne hn1), if_neg h0, if_neg (by omega), if_pos (by omega), if_neg hst'.1]

theorem readT_node (n : ByteArray) (ks : List Tr) (hks : ks ≠ []) (ih : ReadL ks) : ReadT (.node n ks) := by
  intro s a L out hs hf hL hle ht hst ho
  obtain ⟨h0, h4, h2, hfk⟩ := hf
  obtain ⟨hn1, hn8, hsg⟩ := name_signs n h0
  have hnd := data_length n
  obtain ⟨K2, hk⟩ := kind_ev n
  dsimp only at hk
  have hkl : ks.length ≠ 0 := fun h => hks (List.eq_nil_of_length_eq_zero h)
  have hfl : (flat (.node n ks)).length = 1 + (flatL ks).length := by simp only [flat, List.length_cons]; omega
  have e : txt (.node n ks) = n.data.toList ++ (txtK true ks ++ [41]) := by simp [txt, hkl]
  obtain ⟨M, hM⟩ : ∃ M, (txtK true ks).length = M := ⟨_, rfl⟩
  have el : L = n.size + (M + 1) := by rw [← hL, e, List.length_append, List.length_append, hnd, hM]; rfl
  rw [e] at ht
  clear e hL
  subst el
  obtain ⟨s1, s2⟩ := seg_split s a _ n.data.toList (txtK true ks ++ [41]) hle (by rw [hnd, List.length_append, hM, List.length_singleton]; omega) ht
  rw [hnd] at s1 s2
  obtain ⟨r, ec⟩ := txtK_head ks true hks
  have hMr : M = r.length + 1 := by rw [← hM, ec]; rfl
  have hbt : bt s ((a + n.size : Nat) : Int) = 40 := by
    have s3 := s2
    rw [ec] at s3
    rw [List.cons_append] at s3
    exact (seg_head s _ _ _ _ hle (by rw [List.length_append, List.length_singleton]; omega) s3).1
  have hnx : nxt s ((a + n.size : Nat) : Int) = 40 := by rw [nxt_at s _ (by omega), hbt]
  have HNX := Aside0.mk hnx
  have HBT := Aside0.mk hbt
  clear hnx hbt
  obtain ⟨hsc, hex⟩ := name_scan s n hs a h0 (by omega) s1 (.inr (by rw [HBT.out]; decide))
  obtain ⟨K1, hsc⟩ := hsc
  dsimp only at hsc
  have hk2 : ¬ kindOf n = 2 := fun h => hks (h2 h)
  have ih := ih s true (a + n.size) M (out ++ [(⟨n, 0⟩ : S28)]) out.length 1 hs hks hfk hM (by omega) (by rw [show a + n.size + M + 1 = a + (n.size + (M + 1)) by omega]; exact s2) (by rw [List.length_append, List.length_singleton]; omega) (by rw [List.length_append, List.length_singleton]; omega) (by omega) (by omega)
  obtain ⟨K3, ih⟩ := ih
  dsimp only at ih
  refine Ev.nxt (max (max K1 K2) K3) (fun k hkk => ?_)
  simp only [rdt.f]
  rw [if_pos (by omega), hsc k (by omega), Option.bind_some, Int.toNat_natCast, Int.toNat_natCast, hex, hk k (by omega), Option.bind_some, if_neg (toList_ne hn1), if_neg h0, if_neg (by omega), if_pos (by omega), if_pos HNX.out, if_neg hk2]
  have := ih k (by omega)
  rw [show (((1 : Nat)) : Int) = 1 from rfl] at this
  rw [this]
  have e2 : (out ++ [(⟨n, 0⟩ : S28)] ++ flatL ks).set out.length ⟨(rd_T28 (out ++ [(⟨n, 0⟩ : S28)]) (out.length : Int)).f0, ((1 - 1 + ks.length : Nat) : Int)⟩ = out ++ flat (.node n ks) := by
    rw [show rd_T28 (out ++ [(⟨n, 0⟩ : S28)]) (out.length : Int) = ⟨n, 0⟩ from rd_mid out [] _]
    simp [flat]
  rw [e2, show a + n.size + M + 1 = a + (n.size + (M + 1)) by omega]

theorem readL_one (T : Tr) (h1 : ReadT T) : ReadL [T] := by
  intro s b a L out cell n hs _ hf hL hle ht hc ho hn hn4
  have ha : a ≤ 1000000 := by omega
  obtain ⟨M, hM⟩ : ∃ M, (txt T).length = M := ⟨_, rfl⟩
  have ho1 : (flatL [T]) = flat T := by simp [flatL]
  rw [ho1] at ho ⊢
  have e : txtK b [T] = (if b then 40 else 44) :: txt T := by simp [txtK]
  have el : L = M + 1 := by rw [← hL, e, List.length_cons, hM]
  rw [e, List.cons_append] at ht
  clear e hL
  subst el
  obtain ⟨_, ht2⟩ := seg_head s a _ _ _ hle (by rw [List.length_append, hM, List.length_singleton]; omega) ht
  obtain ⟨ht3, ht4⟩ := seg_split s (a + 1) _ _ _ hle (by rw [hM, List.length_singleton]; omega) ht2
  rw [hM] at ht3 ht4
  obtain ⟨hb, _⟩ := seg_head s _ _ _ _ hle (by simp only [List.length_nil]; omega) ht4
  have hnx : nxt s ((a + 1 + M : Nat) : Int) = 41 := by
    rw [nxt_at s _ (by omega)]
    exact hb
  have HBT := Aside0.mk (show bt s ((a + 1 + M : Nat) : Int) = 41 from hb)
  have HNX := Aside0.mk hnx
  clear hb hnx
  obtain ⟨K1, h1⟩ := h1 s (a + 1) M out hs hf.1 hM (by omega) ht3 (.inr (.inl HBT.out)) ho
  dsimp only at h1
  have hrd : rd_T28 (out ++ flat T) (cell : Int) = rd_T28 out (cell : Int) := rd_app hc
  have ha2 : a + 1 + M ≤ 1000000 := by omega
  have q : a + 1 + M + 1 = a + (M + 1) + 1 := by omega
  refine Ev.nxt K1 (fun k hkk => ?_)
  simp only [rdt.l]
  rw [wrap_nat a ha, h1 k hkk, Option.bind_some]
  dsimp only
  rw [if_pos (by omega), if_pos (by rw [List.length_append]; omega), if_pos HNX.out, hrd, wrap_nat _ ha2, q]
  have e : ((n - 1 + [T].length : Nat) : Int) = (n : Int) := by rw [List.length_singleton]; omega
  rw [e]

theorem readL_more (T U : Tr) (r : List Tr) (h1 : ReadT T) (h2 : ReadL (U :: r)) : ReadL (T :: U :: r) := by
  intro s b a L out cell n hs _ hf hL hle ht hc ho hn hn4
  have ha : a ≤ 1000000 := by omega
  obtain ⟨ks, hks⟩ : ∃ ks, U :: r = ks := ⟨_, rfl⟩
  have hne : ks ≠ [] := by rw [← hks]; simp
  rw [hks] at h2 hf hL ht ho hn4 ⊢
  clear hks
  obtain ⟨M, hM⟩ : ∃ M, (txt T).length = M := ⟨_, rfl⟩
  obtain ⟨N, hN⟩ : ∃ N, (txtK false ks).length = N := ⟨_, rfl⟩
  have hfl : flatL (T :: ks) = flat T ++ flatL ks := rfl
  rw [hfl] at ho ⊢
  rw [List.length_append] at ho
  rw [List.length_cons] at hn4
  have e : txtK b (T :: ks) = (if b then 40 else 44) :: (txt T ++ txtK false ks) := by simp [txtK]
  have el : L = M + N + 1 := by rw [← hL, e, List.length_cons, List.length_append, hM, hN]
  rw [e, List.cons_append, List.append_assoc] at ht
  clear e hL
  subst el
  obtain ⟨_, ht2⟩ := seg_head s a _ _ _ hle (by rw [List.length_append, List.length_append, hM, hN, List.length_singleton]; omega) ht
  obtain ⟨ht3, ht4⟩ := seg_split s (a + 1) _ _ _ hle (by rw [List.length_append, hM, hN, List.length_singleton]; omega) ht2
  rw [hM] at ht3 ht4
  obtain ⟨w, ec⟩ := txtK_head ks false hne
  have hNr : N = w.length + 1 := by rw [← hN, ec]; rfl
  have hb' : bt s ((a + 1 + M : Nat) : Int) = 44 := by
    have s3 := ht4
    rw [ec] at s3
    rw [List.cons_append] at s3
    exact (seg_head s _ _ _ _ hle (by rw [List.length_append, List.length_singleton]; omega) s3).1
  have hnx : nxt s ((a + 1 + M : Nat) : Int) = 44 := by
    rw [nxt_at s _ (by omega)]
    exact hb'
  have HBT := Aside0.mk hb'
  have HNX := Aside0.mk hnx
  clear hb' hnx
  obtain ⟨K1, h1⟩ := h1 s (a + 1) M out hs hf.1 hM (by omega) ht3 (.inr (.inr HBT.out)) (by omega)
  dsimp only at h1
  have hrd : rd_T28 (out ++ flat T) (cell : Int) = rd_T28 out (cell : Int) := rd_app hc
  have hkl : 0 < ks.length := List.length_pos_iff.2 hne
  have hlt : cell < (out ++ flat T).length := by rw [List.length_append]; omega
  have hna : n ≤ 1000000 := by omega
  have h2 := h2 s false (a + 1 + M) N ((out ++ flat T).set cell ⟨(rd_T28 out (cell : Int)).f0, (n : Int)⟩) cell (n + 1) hs hne hf.2 hN (by omega)
    (by rw [show a + 1 + M + N + 1 = a + (M + N + 1) + 1 by omega]; exact ht4) (by rw [List.length_set]; exact hlt) (by rw [List.length_set, List.length_append]; omega) (by omega) (by omega)
  obtain ⟨K2, h2⟩ := h2
  dsimp only at h2
  refine Ev.nxt (max K1 K2) (fun k hkk => ?_)
  simp only [rdt.l]
  rw [wrap_nat a ha, h1 k (by omega), Option.bind_some]
  dsimp only
  rw [if_pos (by omega), if_pos hlt, if_neg (by rw [HNX.out]; decide), if_pos HNX.out, if_neg (by omega), hrd, wrap_nat n hna, h2 k (by omega)]
  rw [rd_set hlt, show a + 1 + M + N + 1 = a + (M + N + 1) + 1 by omega, show n + 1 - 1 + ks.length = n - 1 + (T :: ks).length by rw [List.length_cons]; omega, set_twice _ _ _ _ _ hlt, List.append_assoc]

mutual
theorem read_tree : ∀ (T : Tr), ReadT T
  | .node n [] => readT_leaf n
  | .node n (U :: r) => readT_node n (U :: r) (by simp) (read_forest (U :: r))
theorem read_forest : ∀ (ks : List Tr), ReadL ks
  | [] => fun s b a L out cell n _ h => absurd rfl h
  | [T] => readL_one T (read_tree T)
  | T :: U :: r => readL_more T U r (read_tree T) (read_forest (U :: r))
end

end Go.Proofs.Ytnkpcnnbeaomnaa.C
end

section
/- What is read is a fine tree's text. Plain words, no machine. -/
namespace Go.Proofs.Ytnkpcnnbeaomnaa.C
open Go.RowKit Go.Proofs.YtnkpcnnbeaomnaaW.PrintWords Go.Proofs.YtnkpcnnbeaomnaaW.PrintLast Go.Proofs.YtnkpcnnbeaomnaaW.PrintMore
set_option linter.unusedVariables false
set_option linter.unusedSimpArgs false

/-! ### what is read is a fine tree's text -/
theorem kind_is {k : Nat} {s : ByteArray} {kd : Int} (h : name_Kind.f k s = some kd) : kd = kindOf s :=
  Ev.det (Ev.of (g := fun k => name_Kind.f k s) (fun k => name_Kind.mono s k) h) (kind_ev s)
theorem nxt_in {s : ByteArray} {a : Int} {c : Int} (h0 : 0 ≤ a) (h : nxt s a = c) (hc : c ≠ 0) : a.toNat < s.size ∧ bt s ((a.toNat : Nat) : Int) = c := by
  unfold nxt at h
  split at h
  · rename_i hlt
    exact ⟨by omega, by rw [Int.toNat_of_nonneg h0]; exact h⟩
  · exact absurd h.symm hc
def BackF (k : Nat) : Prop := ∀ (s : ByteArray) (a : Int) (out : List S28) (a' : Int) (o' : List S28), s.size ≤ 1024 → out.length ≤ 64 → rdt.f k s a out = some (.ok a' o') →
  ∃ T, fine T ∧ o' = out ++ flat T ∧ 0 ≤ a ∧ a ≤ a' ∧ a' ≤ (s.size : Int) ∧ o'.length ≤ 64 ∧ seg s a.toNat a'.toNat = txt T
def BackL (k : Nat) : Prop := ∀ (s : ByteArray) (a : Int) (out : List S28) (cell n : Nat) (a' : Int) (o' : List S28) (b : Bool), s.size ≤ 1024 → 0 ≤ a → a < (s.size : Int) → cell < out.length → out.length ≤ 64 → 1 ≤ n → n ≤ 4 → bt s ((a.toNat : Nat) : Int) = (if b then 40 else 44) →
  rdt.l k s a out cell (n : Int) = some (.ok a' o') →
  ∃ ks, ks ≠ [] ∧ fineL ks ∧ o' = (out ++ flatL ks).set cell ⟨(rd_T28 out (cell : Int)).f0, ((n - 1 + ks.length : Nat) : Int)⟩ ∧ n - 1 + ks.length ≤ 4 ∧ a ≤ a' ∧ a' ≤ (s.size : Int) ∧ o'.length ≤ 64 ∧ seg s a.toNat a'.toNat = txtK b ks ++ [41]
theorem back_f (k : Nat) (ih : BackL k) : BackF (k + 1) := by
  intro s a out a' o' hs ho h
  simp only [rdt.f] at h
  split at h
  case isFalse => cases h
  case isTrue h01 =>
  obtain ⟨h0, h1⟩ := h01
  obtain ⟨b, hsc, h⟩ := Option.bind_eq_some_iff.1 h
  obtain ⟨kd, hkd, h⟩ := Option.bind_eq_some_iff.1 h
  obtain ⟨hab, hb⟩ := scan_le _ s a b (by omega) h0 h1 hsc
  obtain rfl := kind_is hkd
  obtain ⟨wd, hwd⟩ : ∃ wd, s.extract a.toNat b.toNat = wd := ⟨_, rfl⟩
  have hseg : seg s a.toNat b.toNat = wd.data.toList := by rw [← hwd, seg_extract]
  rw [hwd] at h
  split at h
  case isTrue => cases h
  case isFalse hn =>
  split at h
  case isTrue => cases h
  case isFalse hk =>
  split at h
  case isTrue => cases h
  case isFalse h64 =>
  split at h
  case isFalse => cases h
  case isTrue =>
  split at h
  case isTrue h40 =>
    split at h
    case isTrue => cases h
    case isFalse hk2 =>
    obtain ⟨hlt, hbt⟩ := nxt_in (by omega) h40 (by decide)
    have HBT := Aside0.mk hbt
    clear h40 hbt
    obtain ⟨ks, k1, k2, k3, k4, k5, k6, k7, k8⟩ := ih s b (out ++ [(⟨wd, 0⟩ : S28)]) out.length 1 a' o' true hs (by omega) (by omega) (by simp) (by simp; omega) (by omega) (by omega) HBT.out h
    have hkl : ks.length ≠ 0 := fun h => k1 (List.eq_nil_of_length_eq_zero h)
    refine ⟨.node wd ks, ⟨hk, by omega, fun h => absurd h hk2, k2⟩, ?_, h0, by omega, k6, k7, ?_⟩
    · rw [k3, show rd_T28 (out ++ [(⟨wd, 0⟩ : S28)]) (out.length : Int) = ⟨wd, 0⟩ from rd_mid out [] _]
      simp [flat]
    · rw [seg_app s a.toNat b.toNat a'.toNat (by omega) (by omega) (by omega), hseg, k8]
      simp [txt, hkl]
  case isFalse h40 =>
    obtain ⟨rfl, rfl⟩ : b = a' ∧ out ++ [(⟨wd, 0⟩ : S28)] = o' := by simpa using h
    refine ⟨.node wd [], ⟨hk, by simp, fun _ => rfl, trivial⟩, by simp [flat, flatL], h0, hab, hb, by simp; omega, ?_⟩
    rw [hseg]
    simp [txt, txtK]
theorem back_l (k : Nat) (ihf : BackF k) (ihl : BackL k) : BackL (k + 1) := by
  intro s a out cell n a' o' b hs h0 h1 hc ho hn1 hn4 hb h
  simp only [rdt.l] at h
  rw [wrap_int a h0 (by omega)] at h
  obtain ⟨x, hx, h⟩ := Option.bind_eq_some_iff.1 h
  have hsb : seg s a.toNat (a.toNat + 1) = [if b then 40 else 44] := by
    refine seg_byte s a.toNat (by omega) _ ?_
    rw [hb]
    cases b <;> rfl
  clear hb
  cases x with
  | bad x y => cases h
  | ok a1 out1 =>
    obtain ⟨T, t1, t2, t3, t4, t5, t6, t7⟩ := ihf s (a + 1) out a1 out1 hs ho hx
    dsimp only at h
    have hrd : rd_T28 out1 (cell : Int) = rd_T28 out (cell : Int) := by rw [t2]; exact rd_app hc
    have hlt1 : cell < out1.length := by rw [t2, List.length_append]; omega
    rw [if_pos (by omega), if_pos hlt1, hrd] at h
    have hto : (a + 1).toNat = a.toNat + 1 := by omega
    rw [hto] at t7
    split at h
    case isTrue h41 =>
      obtain ⟨hlt, hbt⟩ := nxt_in (by omega) h41 (by decide)
      have hs1 : seg s a1.toNat (a1.toNat + 1) = [41] := seg_byte s a1.toNat hlt 41 (by rw [hbt]; rfl)
      clear hbt h41
      rw [wrap_int a1 (by omega) (by omega)] at h
      obtain ⟨rfl, rfl⟩ : a1 + 1 = a' ∧ out1.set cell ⟨(rd_T28 out (cell : Int)).f0, (n : Int)⟩ = o' := by simpa using h
      refine ⟨[T], by simp, ⟨t1, trivial⟩, ?_, by simp; omega, by omega, by omega, by simpa using t6, ?_⟩
      · rw [t2, show ((n - 1 + [T].length : Nat) : Int) = (n : Int) from by simp; omega]
        simp [flatL]
      · rw [show (a1 + 1).toNat = a1.toNat + 1 by omega, seg_app s a.toNat (a.toNat + 1) (a1.toNat + 1) (by omega) (by omega) (by omega), seg_app s (a.toNat + 1) a1.toNat (a1.toNat + 1) (by omega) (by omega) (by omega), hsb, t7, hs1]
        simp [txtK]
    case isFalse h41 =>
    split at h
    case isFalse => cases h
    case isTrue h44 =>
    split at h
    case isTrue => cases h
    case isFalse hn =>
    clear h41
    obtain ⟨hlt, hbt⟩ := nxt_in (by omega) h44 (by decide)
    have HBT := Aside0.mk hbt
    clear h44 hbt
    rw [wrap_nat n (by omega)] at h
    obtain ⟨ks, k1, k2, k3, k4, k5, k6, k7, k8⟩ := ihl s a1 (out1.set cell ⟨(rd_T28 out (cell : Int)).f0, (n : Int)⟩) cell (n + 1) a' o' false hs (by omega) (by omega) (by simpa using hlt1) (by simpa using t6) (by omega) (by omega) HBT.out h
    refine ⟨T :: ks, by simp, ⟨t1, k2⟩, ?_, by simp; omega, by omega, k6, k7, ?_⟩
    · rw [k3, rd_set hlt1, show n + 1 - 1 + ks.length = n - 1 + (T :: ks).length by simp; omega]
      rw [set_twice _ _ _ _ _ hlt1, t2, List.append_assoc]
      rfl
    · rw [seg_app s a.toNat (a.toNat + 1) a'.toNat (by omega) (by omega) (by omega), seg_app s (a.toNat + 1) a1.toNat a'.toNat (by omega) (by omega) (by omega), hsb, t7, k8]
      simp [txtK]
theorem back_0 : BackL 0 := by
  intro s a out cell n a' o' b _ _ _ _ _ _ _ _ h
  simp only [rdt.l] at h
  cases h
theorem back_all : ∀ k, BackF k ∧ BackL k
  | 0 => ⟨fun s a out a' o' _ _ h => by simp [rdt.f] at h, back_0⟩
  | k + 1 => ⟨back_f k (back_all k).2, back_l k (back_all k).1 (back_all k).2⟩


end Go.Proofs.Ytnkpcnnbeaomnaa.C
end

section
/- A written tree is read as it was; what is read is some fine tree, and the text read is what it is written as. Plain words, no machine. -/
namespace Go.Proofs.Ytnkpcnnbeaomnaa.C
open Go.RowKit Go.Proofs.YtnkpcnnbeaomnaaW.PrintWords Go.Proofs.YtnkpcnnbeaomnaaW.PrintLast Go.Proofs.YtnkpcnnbeaomnaaW.PrintMore
set_option linter.unusedVariables false
set_option linter.unusedSimpArgs false

theorem parse_of_tree (T : Tr) (hf : fine T) (hl : (flat T).length ≤ 64) : Ev (fun k => term_Parse.f k (bytes (txt T))) (flat T, 0, 0) := by
  have hlen := txt_len T hf
  have hsz := bytes_size (txt T)
  have h := read_tree T (bytes (txt T)) 0 (txt T).length [] (by omega) hf rfl (by omega) (by
    unfold seg bytes
    rw [bytes_toList, Nat.zero_add, List.take_of_length_le (Nat.le_refl _), List.drop_zero]) (.inl (by omega)) (by simpa using hl)
  obtain ⟨K, h⟩ := h
  dsimp only at h
  refine ⟨K, fun k hk => ?_⟩
  dsimp only
  unfold term_Parse.f
  rw [if_neg (by omega), show rdt.f k (bytes (txt T)) 0 [] = _ from h k hk, Option.bind_some]
  dsimp only
  rw [if_neg (by omega), List.nil_append]
  unfold clone_Term.f
  rw [if_pos (by omega)]
  rfl
theorem parse_back (s : ByteArray) : ∃ (t : List S28) (a e : Int), Ev (fun k => term_Parse.f k s) (t, a, e) ∧ (e = 0 → ∃ T, t = flat T ∧ fine T ∧ (flat T).length ≤ 64 ∧ s = bytes (txt T)) ∧ (e ≠ 0 → t = [] ∧ 0 ≤ a ∧ a ≤ (s.size : Int)) := by
  by_cases hs : (s.size : Int) > 1024
  · refine ⟨[], 0, 2, Ev.congr (f := fun _ => some ([], 0, 2)) (fun k => ?_) (Ev.now _), fun h => absurd h (by decide), fun _ => ⟨rfl, by omega, by omega⟩⟩
    unfold term_Parse.f
    rw [if_pos hs]
  · obtain ⟨r, h1, _, hg⟩ := (reads_all s (by omega) s.size).1 0 [] (by omega) (by omega) (by omega) (by simp)
    obtain ⟨K1, h1⟩ := h1
    dsimp only at h1
    cases r with
    | bad x y =>
      obtain ⟨g1, g2, g3⟩ := hg
      refine ⟨[], x, y, ⟨K1, fun k hk => ?_⟩, fun h => absurd h g3, fun _ => ⟨rfl, g1, g2⟩⟩
      dsimp only
      unfold term_Parse.f
      rw [if_neg hs, h1 k hk]
      rfl
    | ok x out =>
      obtain ⟨g1, g2, g3, g4⟩ := hg
      obtain ⟨T, t1, t2, t3, t4, t5, t6, t7⟩ := (back_all K1).1 s 0 [] x out (by omega) (by simp) (h1 K1 (Nat.le_refl _))
      by_cases hx : x < (s.size : Int)
      · refine ⟨[], x, 3, ⟨K1, fun k hk => ?_⟩, fun h => absurd h (by decide), fun _ => ⟨rfl, by omega, by omega⟩⟩
        dsimp only
        unfold term_Parse.f
        rw [if_neg hs, h1 k hk]
        simp only [Option.bind_some]
        rw [if_pos hx]
      · refine ⟨out, 0, 0, ⟨K1, fun k hk => ?_⟩, fun _ => ⟨T, by simpa using t2, t1, by simpa [t2] using t6, ?_⟩, fun h => absurd rfl h⟩
        · dsimp only
          unfold term_Parse.f
          rw [if_neg hs, h1 k hk]
          simp only [Option.bind_some]
          rw [if_neg hx]
          unfold clone_Term.f
          rw [if_pos (by omega)]
          rfl
        · have hxx : x = (s.size : Int) := by omega
          subst hxx
          have hl := data_length s
          unfold seg at t7
          rw [Int.toNat_natCast, List.take_of_length_le (by omega), show (0 : Int).toNat = 0 from rfl, List.drop_zero] at t7
          rw [← t7, bytes_data]

end Go.Proofs.Ytnkpcnnbeaomnaa.C
end
