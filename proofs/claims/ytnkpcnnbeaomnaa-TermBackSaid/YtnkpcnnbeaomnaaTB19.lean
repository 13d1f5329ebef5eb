import Derived.Test.YtnkpcnnbeaomnaaTB6
import Derived.Test.YtnkpcnnbeaomnaaTB16
import Derived.Test.YtnkpcnnbeaomnaaTB15
import Derived.Test.YtnkpcnnbeaomnaaTB10
import Derived.Test.YtnkpcnnbeaomnaaTB17
import Derived.Test.YtnkpcnnbeaomnaaTB18

section
-- Written by a program of this session (a scratch print over hand-made contracts), out of the translation. Not trusted: Lean checks it.
namespace Go.Proofs.Ytnkpcnnbeaomnaa.C
open Go.RowKit Go.Proofs.YtnkpcnnbeaomnaaW.PrintWords Go.Proofs.YtnkpcnnbeaomnaaW.PrintLast Go.Proofs.YtnkpcnnbeaomnaaW.PrintMore
attribute [local go_sem] max2_int min2_int max_two min_two max_three min_three max_four min_four   -- for this text's walks alone
set_option linter.unusedVariables false
set_option linter.unusedSimpArgs false

/-! ### aumbryref04_Depth: function 32 -/
mutual
def aumbryref04_Depth.l0 : Nat → Int → List (List (S28)) → Int → Int → Option (Int)
  | 0, _, _, _, _ => none
  | k + 1, x3, x4, x10, x11 => if x11 < x10 then (if 0 ≤ x11 then (if x11 < (x4.length : Int) then ((aumbryref04_Depth.f k (rd_L3 x4 x11)).bind fun t487 => (if t487 > x3 then (aumbryref04_Depth.l0 k t487 x4 x10 (wrap64 (x11 + 1))) else (aumbryref04_Depth.l0 k x3 x4 x10 (wrap64 (x11 + 1))))) else (none)) else (none)) else (some (wrap64 (x3 + 1)))
def aumbryref04_Depth.f : Nat → List (S28) → Option (Int)
  | 0, _ => none
  | k + 1, l0 => (aumbryref04_Kids.f k l0).bind fun t483 => (aumbryref04_Depth.l0 k 0 t483 (t483.length : Int) 0)
end
theorem aumbryref04_Depth.mono_l : ∀ k, (∀ y0, LeO (aumbryref04_Depth.f k y0) (aumbryref04_Depth.f (k + 1) y0)) ∧ (∀ y0 y1 y2 y3, LeO (aumbryref04_Depth.l0 k y0 y1 y2 y3) (aumbryref04_Depth.l0 (k + 1) y0 y1 y2 y3))
  | 0 => ⟨fun _ r h => by simp [aumbryref04_Depth.f] at h, fun _ _ _ _ r h => by simp [aumbryref04_Depth.l0] at h⟩
  | k + 1 => by
    obtain ⟨ih0, ih1⟩ := aumbryref04_Depth.mono_l k
    refine ⟨?_, ?_⟩
    · intro y0
      unfold aumbryref04_Depth.f
      repeat' first
      | (with_reducible exact ih0 _)
      | (with_reducible exact ih1 _ _ _ _)
      | (with_reducible exact aumbryref04_Kids.mono _ _)
      | (with_reducible exact LeO.refl _)
      | (with_reducible exact LeO.none _)
      | (with_reducible refine LeO.ite ?_ ?_)
      | (with_reducible refine LeO.bind ?_ (fun _ => ?_))
      | exact ih0 _
      | exact ih1 _ _ _ _
      | exact aumbryref04_Kids.mono _ _
      | exact LeO.none _
      | refine LeO.ite ?_ ?_
      | refine LeO.bind ?_ (fun _ => ?_)
    · intro y0 y1 y2 y3
      unfold aumbryref04_Depth.l0
      repeat' first
      | (with_reducible exact ih0 _)
      | (with_reducible exact ih1 _ _ _ _)
      | (with_reducible exact aumbryref04_Kids.mono _ _)
      | (with_reducible exact LeO.refl _)
      | (with_reducible exact LeO.none _)
      | (with_reducible refine LeO.ite ?_ ?_)
      | (with_reducible refine LeO.bind ?_ (fun _ => ?_))
      | exact ih0 _
      | exact ih1 _ _ _ _
      | exact aumbryref04_Kids.mono _ _
      | exact LeO.none _
      | refine LeO.ite ?_ ?_
      | refine LeO.bind ?_ (fun _ => ?_)
theorem aumbryref04_Depth.mono : ∀ a0 k, LeO (aumbryref04_Depth.f k a0) (aumbryref04_Depth.f (k + 1) a0) := by
  intro a0 k
  obtain ⟨ih0, ih1⟩ := aumbryref04_Depth.mono_l k
  exact ih0 a0
set_option maxHeartbeats 8000000 in
set_option maxRecDepth 100000 in
theorem aumbryref04_Depth.calls (k : Nat) : ∀ (A0 : Option Addr) (c0 : Nat) (l0 : List (S28)) (r : Int) (w : World) (hr0 : Kd.C k28 w A0 l0.length l0) (hc0 : l0.length ≤ c0) (h : aumbryref04_Depth.f k l0 = some r),
    Calls Try.prog 32 #[.slice A0 l0.length c0] w fun e w' => e = .returned (.int .i64 r) ∧ Below w.heap.size w w' := by
  induction k using Nat.strongRecOn with
  | _ k ih =>
  intro A0 c0 l0 r w hr0 hc0 h
  cases k with
  | zero => exact absurd h (by simp [aumbryref04_Depth.f])
  | succ k =>
  simp only [aumbryref04_Depth.f] at h
  have HR0 := Aside0.mk hr0
  have HC0 := Aside0.mk hc0
  clear hr0 hc0
  have HB := Aside0.mk (Below.refl w.heap.size w)
  have H : ((aumbryref04_Kids.f k l0).bind fun t483 => (aumbryref04_Depth.l0 k 0 t483 (t483.length : Int) 0)) = some r := h
  clear h
  replace H := Option.bind_eq_some_iff.mp H
  obtain ⟨t483, A20, H⟩ := H
  replace H : (aumbryref04_Depth.l0 k 0 t483 (t483.length : Int) 0) = some r := H
  have A2 := Aside0.mk A20
  clear A20
  have H' := Aside0.mk H
  clear H
  go_enter Try.func32, Try.ntmps32
  go_wp2_with (first | ((with_reducible refine gate_callee (f := 27) rfl ?_); refine goesL_ (some 8) rfl rfl Try.func27 (by kernel_rfl) rfl #[.slice A0 l0.length c0] rfl (by (try simp only [List.map_toArray, List.map_cons, List.map_nil]); first | done | rfl | (simp only [List.length_drop, List.length_take]; rfl)) ?_; (with_reducible refine (aumbryref04_Kids.calls k _ _ l0 t483 _ ?side1 ?side2 A2.out).mono ?_); (case side1 => repeat (first | exact HR0.out | (with_reducible refine Kd.C_alloc ?_ _) | (with_reducible refine Kd.C_drewN ?_ _) | (with_reducible refine Kd.C_drew ?_))); (case side2 => exact HC0.out); rintro e w3 ⟨v484, rfl, ho0, hb⟩; refine ⟨_, rfl, ?_⟩; have n0_ := Aside0.mk (Kd.S_lower ho0 (below_size (by repeat (first | (with_reducible first | exact HB.out | apply below_alloc | apply pw_below_drewN | apply below_drew1) | exact HB.out)))); have n1_ := Aside0.mk (below_step (by repeat (first | (with_reducible first | exact HB.out | apply below_alloc | apply pw_below_drewN | apply below_drew1) | exact HB.out)) hb); clear HB; have HO485 := n0_; have HB := n1_; clear n0_ n1_; (try clear hb); (try clear hb2); (try clear hk); (try clear hi); (try clear ho0); obtain ⟨Ao4, co4, eo4⟩ := Kd.S_slice HO485.out; subst eo4))
  go_loopg [3, 11] k (fun kq v3 v11 w' => ∃ (x3_1 : Int) (x11_1 : Int), v3 = .int .i64 x3_1 ∧ v11 = .int .i64 x11_1 ∧ Aside0 (aumbryref04_Depth.l0 kq x3_1 t483 (t483.length : Int) x11_1 = some r) ∧ Aside0 (kq ≤ k) ∧ Aside0 (Kd.S (Kd.slice 28 k28) 23 w' w.heap.size (fun _ => True) (.slice Ao4 t483.length co4) t483) ∧ Aside0 (Below w.heap.size w w'))
  case atStart => exact ⟨(0), (0), (by first | rfl | (simp; done) | (simp [*]; done)), (by first | rfl | (simp; done) | (simp [*]; done)), H', ⟨Nat.le_refl _⟩, ⟨by (with_reducible repeat (first | apply Kd.S_alloc | apply Kd.S_drewN | apply Kd.S_drew)); exact HO485.out⟩, ⟨by repeat (first | (with_reducible first | exact HB.out | apply below_alloc | apply pw_below_drewN | apply below_drew1) | exact HB.out)⟩⟩
  case round =>
    clear H'
    try clear c2
    try clear p2
    try clear c3
    obtain ⟨x3_1, x11_1, rfl, rfl, HA, HK1, HO_4, HB⟩ := hrel
    cases gk with
    | zero => exact absurd HA.out (by simp [aumbryref04_Depth.l0])
    | succ k1 =>
      have H := HA.out
      clear HA
      simp only [aumbryref04_Depth.l0] at H
      by_cases c5 : x11_1 < (t483.length : Int)
      · rw [if_pos c5] at H
        have c5b0 : decide (x11_1 < (t483.length : Int)) = true := decide_eq_true c5
        clear c5
        by_cases c6 : 0 ≤ x11_1
        · rw [if_pos c6] at H
          have c6b0 : decide (0 ≤ x11_1) = true := decide_eq_true c6
          clear c6
          by_cases c7 : x11_1 < (t483.length : Int)
          · rw [if_pos c7] at H
            have c7b0 : decide (x11_1 < (t483.length : Int)) = true := decide_eq_true c7
            clear c7
            replace H := Option.bind_eq_some_iff.mp H
            obtain ⟨t487, A80, H⟩ := H
            replace H : (if t487 > x3_1 then (aumbryref04_Depth.l0 k1 t487 t483 (t483.length : Int) (wrap64 (x11_1 + 1))) else (aumbryref04_Depth.l0 k1 x3_1 t483 (t483.length : Int) (wrap64 (x11_1 + 1)))) = some r := H
            have A8 := Aside0.mk A80
            clear A80
            by_cases c9 : t487 > x3_1
            · rw [if_pos c9] at H
              have c9b0 : decide (x3_1 < t487) = true := decide_eq_true c9
              clear c9
              have H' := Aside0.mk H
              clear H
              have p486 : 0 ≤ (x11_1 : Int) := of_decide_eq_true (by first | (with_reducible assumption) | assumption)
              have q486 : x11_1 < (t483.length : Int) := of_decide_eq_true (by first | (with_reducible assumption) | assumption)
              obtain ⟨ad486, A486_0, c486_0, e486, hx486_0, hl486_0, hi486_0⟩ := at_L3 (Kd.S_reads' HO_4.out).2.2 x11_1 p486 q486
              cases e486
              obtain ⟨ce486, hce486, hMe486, hcc486⟩ := Kd.S_get HO_4.out [] x11_1 p486 (by first | exact q486 | exact of_decide_eq_true (by first | (with_reducible assumption) | assumption) | (have e_ := (Kd.S_reads' HO_4.out).1; omega))
              obtain ⟨ve486_0, rfl, ge486_0⟩ := hMe486
              have hv486_0 := hcc486 0 _ rfl
              rw [Nat.add_zero, show ((Kd.slice 28 k28)).sz = 1 from rfl, Nat.mul_one] at hv486_0
              replace hv486_0 := Option.some.inj (hv486_0.symm.trans hx486_0)
              rw [hv486_0] at ge486_0
              have HL486_0 := Aside0.mk (show Kd.R k28 28 _ _ _ _ (rd_L3 t483 x11_1) from ge486_0)
              clear hv486_0 ge486_0
              clear hcc486 hce486
              have HR486_0 := Aside0.mk hi486_0
              have HC486_0 := Aside0.mk hl486_0
              clear hi486_0 hl486_0
              replace p486 := eq_true p486
              replace q486 := eq_true q486
              go_wp2_with (first | ((with_reducible refine gate_callee (f := 32) rfl ?_); refine goesL_ (some 18) rfl rfl Try.func32 (by kernel_rfl) rfl #[.slice A486_0 (rd_L3 t483 x11_1).length c486_0] rfl (by (try simp only [List.map_toArray, List.map_cons, List.map_nil]); first | done | rfl | (simp only [List.length_drop, List.length_take]; rfl)) ?_; (with_reducible refine (ih k1 (by have := HK1.out; omega) _ _ (rd_L3 t483 x11_1) t487 _ ?side1 ?side2 A8.out).mono ?_); (case side1 => repeat (first | exact (by repeat (first | (with_reducible exact HR486_0.out) | (with_reducible refine Kd.C_alloc ?_ _) | (with_reducible refine Kd.C_drewN ?_ _) | (with_reducible refine Kd.C_drew ?_) | exact HR486_0.out)) | (with_reducible refine Kd.C_alloc ?_ _) | (with_reducible refine Kd.C_drewN ?_ _) | (with_reducible refine Kd.C_drew ?_))); (case side2 => exact HC486_0.out); rintro e w10 ⟨rfl, hb⟩; refine ⟨_, rfl, ?_⟩; have n0_ := Aside0.mk (Kd.S_below (by (with_reducible repeat (first | apply Kd.S_alloc | apply Kd.S_drewN | apply Kd.S_drew)); exact HO_4.out) hb); have n1_ := Aside0.mk (Kd.R_below (by (with_reducible repeat (first | apply Kd.R_alloc | apply Kd.R_drewN | apply Kd.R_drew)); exact HL486_0.out) hb); have n2_ := Aside0.mk (Kd.C_below (by repeat (first | (with_reducible exact HR486_0.out) | (with_reducible refine Kd.C_alloc ?_ _) | (with_reducible refine Kd.C_drewN ?_ _) | (with_reducible refine Kd.C_drew ?_) | exact HR486_0.out)) hb); have n3_ := Aside0.mk (below_step (by repeat (first | (with_reducible first | exact HB.out | apply below_alloc | apply pw_below_drewN | apply below_drew1) | exact HB.out)) hb); clear HO_4; clear HL486_0; clear HR486_0; clear HB; have HO_4 := n0_; have HL486_0 := n1_; have HR486_0 := n2_; have HB := n3_; clear n0_ n1_ n2_ n3_; (try clear hb); (try clear hb2); (try clear hk); (try clear hi)))
              go_roundg k1
              case measure => have := HK1.out; omega
              case rel => exact ⟨(t487), (wrap64 (x11_1 + 1)), (by first | rfl | (simp; done) | (simp [*]; done)), (by first | rfl | (simp; done) | (simp [*]; done)), H', ⟨by have := HK1.out; omega⟩, ⟨by (with_reducible repeat (first | apply Kd.S_alloc | apply Kd.S_drewN | apply Kd.S_drew)); exact HO_4.out⟩, ⟨by repeat (first | (with_reducible first | exact HB.out | apply below_alloc | apply pw_below_drewN | apply below_drew1) | exact HB.out)⟩⟩
            · rw [if_neg c9] at H
              have c9b0 : decide (x3_1 < t487) = false := decide_eq_false c9
              clear c9
              have H' := Aside0.mk H
              clear H
              have p486 : 0 ≤ (x11_1 : Int) := of_decide_eq_true (by first | (with_reducible assumption) | assumption)
              have q486 : x11_1 < (t483.length : Int) := of_decide_eq_true (by first | (with_reducible assumption) | assumption)
              obtain ⟨ad486, A486_0, c486_0, e486, hx486_0, hl486_0, hi486_0⟩ := at_L3 (Kd.S_reads' HO_4.out).2.2 x11_1 p486 q486
              cases e486
              obtain ⟨ce486, hce486, hMe486, hcc486⟩ := Kd.S_get HO_4.out [] x11_1 p486 (by first | exact q486 | exact of_decide_eq_true (by first | (with_reducible assumption) | assumption) | (have e_ := (Kd.S_reads' HO_4.out).1; omega))
              obtain ⟨ve486_0, rfl, ge486_0⟩ := hMe486
              have hv486_0 := hcc486 0 _ rfl
              rw [Nat.add_zero, show ((Kd.slice 28 k28)).sz = 1 from rfl, Nat.mul_one] at hv486_0
              replace hv486_0 := Option.some.inj (hv486_0.symm.trans hx486_0)
              rw [hv486_0] at ge486_0
              have HL486_0 := Aside0.mk (show Kd.R k28 28 _ _ _ _ (rd_L3 t483 x11_1) from ge486_0)
              clear hv486_0 ge486_0
              clear hcc486 hce486
              have HR486_0 := Aside0.mk hi486_0
              have HC486_0 := Aside0.mk hl486_0
              clear hi486_0 hl486_0
              replace p486 := eq_true p486
              replace q486 := eq_true q486
              go_wp2_with (first | ((with_reducible refine gate_callee (f := 32) rfl ?_); refine goesL_ (some 18) rfl rfl Try.func32 (by kernel_rfl) rfl #[.slice A486_0 (rd_L3 t483 x11_1).length c486_0] rfl (by (try simp only [List.map_toArray, List.map_cons, List.map_nil]); first | done | rfl | (simp only [List.length_drop, List.length_take]; rfl)) ?_; (with_reducible refine (ih k1 (by have := HK1.out; omega) _ _ (rd_L3 t483 x11_1) t487 _ ?side1 ?side2 A8.out).mono ?_); (case side1 => repeat (first | exact (by repeat (first | (with_reducible exact HR486_0.out) | (with_reducible refine Kd.C_alloc ?_ _) | (with_reducible refine Kd.C_drewN ?_ _) | (with_reducible refine Kd.C_drew ?_) | exact HR486_0.out)) | (with_reducible refine Kd.C_alloc ?_ _) | (with_reducible refine Kd.C_drewN ?_ _) | (with_reducible refine Kd.C_drew ?_))); (case side2 => exact HC486_0.out); rintro e w11 ⟨rfl, hb⟩; refine ⟨_, rfl, ?_⟩; have n0_ := Aside0.mk (Kd.S_below (by (with_reducible repeat (first | apply Kd.S_alloc | apply Kd.S_drewN | apply Kd.S_drew)); exact HO_4.out) hb); have n1_ := Aside0.mk (Kd.R_below (by (with_reducible repeat (first | apply Kd.R_alloc | apply Kd.R_drewN | apply Kd.R_drew)); exact HL486_0.out) hb); have n2_ := Aside0.mk (Kd.C_below (by repeat (first | (with_reducible exact HR486_0.out) | (with_reducible refine Kd.C_alloc ?_ _) | (with_reducible refine Kd.C_drewN ?_ _) | (with_reducible refine Kd.C_drew ?_) | exact HR486_0.out)) hb); have n3_ := Aside0.mk (below_step (by repeat (first | (with_reducible first | exact HB.out | apply below_alloc | apply pw_below_drewN | apply below_drew1) | exact HB.out)) hb); clear HO_4; clear HL486_0; clear HR486_0; clear HB; have HO_4 := n0_; have HL486_0 := n1_; have HR486_0 := n2_; have HB := n3_; clear n0_ n1_ n2_ n3_; (try clear hb); (try clear hb2); (try clear hk); (try clear hi)))
              go_roundg k1
              case measure => have := HK1.out; omega
              case rel => exact ⟨(x3_1), (wrap64 (x11_1 + 1)), (by first | rfl | (simp; done) | (simp [*]; done)), (by first | rfl | (simp; done) | (simp [*]; done)), H', ⟨by have := HK1.out; omega⟩, ⟨by (with_reducible repeat (first | apply Kd.S_alloc | apply Kd.S_drewN | apply Kd.S_drew)); exact HO_4.out⟩, ⟨by repeat (first | (with_reducible first | exact HB.out | apply below_alloc | apply pw_below_drewN | apply below_drew1) | exact HB.out)⟩⟩
          · rw [if_neg c7] at H
            exact absurd H (by simp)
        · rw [if_neg c6] at H
          exact absurd H (by simp)
      · rw [if_neg c5] at H
        have c5b0 : decide (x11_1 < (t483.length : Int)) = false := decide_eq_false c5
        clear c5
        obtain rfl := Option.some.inj H
        go_wp2
        go_ret
        exact ⟨by first | rfl | (simp [errW_none, errW_some] <;> rfl) | (simp [*, errW_none, errW_some] <;> rfl), by repeat (first | (with_reducible first | exact HB.out | apply below_alloc | apply pw_below_drewN | apply below_drew1) | exact HB.out)⟩

end Go.Proofs.Ytnkpcnnbeaomnaa.C
end

section
/- What the program's and the reference's functions on terms come to, said of trees: written text, arguments, depth, variables. Plain words, no machine. -/
namespace Go.Proofs.Ytnkpcnnbeaomnaa.C
open Go.RowKit Go.Proofs.YtnkpcnnbeaomnaaW.PrintWords Go.Proofs.YtnkpcnnbeaomnaaW.PrintLast Go.Proofs.YtnkpcnnbeaomnaaW.PrintMore
set_option linter.unusedVariables false
set_option linter.unusedSimpArgs false

/-! ### term.write and term.Print -/
mutual
theorem wrt_tree : ∀ (T : Tr) (pre post : List S28), (pre ++ flat T ++ post).length ≤ 1000000 → Ev (fun k => wrt.f k (pre ++ flat T ++ post) (pre.length : Int)) (txt T, ((pre.length + (flat T).length : Nat) : Int))
  | .node n ks, pre, post, hl => by
    have hw : wrap64 ((pre.length : Int) + 1) = (((pre ++ [(⟨n, ks.length⟩ : S28)]).length : Nat) : Int) := by simp [flat] at hl ⊢; unfold wrap64; omega
    have ht : pre ++ flat (.node n ks) ++ post = (pre ++ [(⟨n, ks.length⟩ : S28)]) ++ flatL ks ++ post := by simp [flat]
    have hrd : rd_T28 (pre ++ flat (.node n ks) ++ post) (pre.length : Int) = ⟨n, ks.length⟩ := by
      rw [show pre ++ flat (.node n ks) ++ post = pre ++ (⟨n, ks.length⟩ : S28) :: (flatL ks ++ post) from by simp [flat]]
      exact rd_mid _ _ _
    have hk := wrt_forest ks (pre ++ [(⟨n, ks.length⟩ : S28)]) post 0 n.data.toList (by rw [← ht]; exact hl) (by have := flatL_len ks; simp [flat] at hl; omega)
    rw [← ht] at hk
    obtain ⟨K, hk⟩ := hk
    dsimp only at hk
    refine Ev.nxt K (fun k hkk => ?_)
    simp only [wrt.f]
    rw [if_pos (by omega), if_pos (by simp [flat]; omega), hrd, hw]
    dsimp only
    have := hk k hkk
    rw [Nat.zero_add, show (((0 : Nat) : Int)) = 0 from rfl] at this
    rw [this, Option.bind_some]
    by_cases h0 : ks.length = 0
    · rw [if_neg (by omega)]
      simp only [txt, flat, h0, decide_true, List.length_append, List.length_singleton, List.length_cons]
      simp
      omega
    · rw [if_pos (by omega)]
      simp only [txt, flat, decide_true, List.length_append, List.length_singleton, List.length_cons]
      rw [if_neg h0]
      simp
      omega
theorem wrt_forest : ∀ (ks : List Tr) (pre post : List S28) (i : Nat) (acc : List UInt8), (pre ++ flatL ks ++ post).length ≤ 1000000 → i + ks.length ≤ 1000000 →
    Ev (fun k => wrt.l k (pre ++ flatL ks ++ post) (pre.length : Int) ((i + ks.length : Nat) : Int) (i : Int) acc) (acc ++ txtK (decide (i = 0)) ks, ((pre.length + (flatL ks).length : Nat) : Int))
  | [], pre, post, i, acc, hl, hi => by
    refine Ev.nxt 0 (fun k hkk => ?_)
    simp only [wrt.l]
    rw [if_neg (by simp)]
    simp [txtK, flatL]
  | T :: r, pre, post, i, acc, hl, hi => by
    have e1 : pre ++ flatL (T :: r) ++ post = pre ++ flat T ++ (flatL r ++ post) := by simp [flatL]
    have e2 : pre ++ flatL (T :: r) ++ post = (pre ++ flat T) ++ flatL r ++ post := by simp [flatL]
    have h1 := wrt_tree T pre (flatL r ++ post) (by rw [← e1]; exact hl)
    have h2 := wrt_forest r (pre ++ flat T) post (i + 1) (acc ++ (if i = 0 then 40 else 44) :: txt T) (by rw [← e2]; exact hl) (by simp at hi; omega)
    rw [← e1] at h1
    rw [← e2] at h2
    obtain ⟨K1, h1⟩ := h1
    obtain ⟨K2, h2⟩ := h2
    dsimp only at h1 h2
    have hw : wrap64 ((i : Int) + 1) = ((i + 1 : Nat) : Int) := by simp at hi; unfold wrap64; omega
    have hn : ((i + (T :: r).length : Nat) : Int) = ((i + 1 + r.length : Nat) : Int) := by simp; omega
    rw [hn]
    have hres : (acc ++ (if i = 0 then 40 else 44) :: txt T) ++ txtK (decide (i + 1 = 0)) r = acc ++ txtK (decide (i = 0)) (T :: r) := by
      by_cases h0 : i = 0 <;> simp [txtK, h0]
    have hend : (((pre ++ flat T).length + (flatL r).length : Nat) : Int) = ((pre.length + (flatL (T :: r)).length : Nat) : Int) := by simp [flatL]; omega
    have hpos : (((pre ++ flat T).length : Nat) : Int) = ((pre.length + (flat T).length : Nat) : Int) := by simp
    rw [hres, hend, hpos] at h2
    refine Ev.nxt (max K1 K2) (fun k hkk => ?_)
    simp only [wrt.l]
    rw [if_pos (by omega), hw, h1 k (by omega)]
    simp only [Option.bind_some]
    by_cases h0 : i = 0
    · have := h2 k (by omega)
      rw [if_pos h0] at this
      rw [if_pos (by omega)]
      exact this
    · have := h2 k (by omega)
      rw [if_neg h0] at this
      rw [if_neg (by omega)]
      by_cases h1' : i = 1
      · rw [if_pos (by omega)]
        exact this
      · rw [if_neg (by omega), if_pos (by omega)]
        exact this
end

def bytes (l : List UInt8) : ByteArray := ⟨l.toArray⟩
theorem print_ok (T : Tr) (hf : fine T) (hl : (flat T).length ≤ 64) : Ev (fun k => term_Print.f k (flat T)) (bytes (txt T), 0) := by
  have h1 := check_ev (flat T)
  rw [chk_of_tree T hf hl] at h1
  have h2 := wrt_tree T [] [] (by simp; omega)
  simp only [List.nil_append, List.append_nil] at h2
  have hlen := txt_len T hf
  obtain ⟨K1, h1⟩ := h1
  obtain ⟨K2, h2⟩ := h2
  dsimp only at h1 h2
  refine ⟨max K1 K2, fun k hk => ?_⟩
  dsimp only
  unfold term_Print.f
  rw [h1 k (by omega), Option.bind_some, if_pos rfl]
  rw [show wrt.f k (flat T) 0 = _ from h2 k (by omega), Option.bind_some, if_pos (by dsimp only; omega)]
  rfl
theorem print_bad (t : List S28) (h : chk t ≠ 0) : Ev (fun k => term_Print.f k t) (⟨#[]⟩, chk t) := by
  obtain ⟨K1, h1⟩ := check_ev t
  dsimp only at h1
  refine ⟨K1, fun k hk => ?_⟩
  dsimp only
  unfold term_Print.f
  rw [h1 k hk, Option.bind_some, if_neg h]

/-! ### arguments -/
theorem seg_mid (pre x post : List S28) (a b : Int) (ha : a = pre.length) (hb : b = ((pre.length + x.length : Nat) : Int)) : ((pre ++ x ++ post).take b.toNat).drop a.toNat = x := by
  subst ha hb
  simp only [Int.toNat_natCast]
  rw [List.append_assoc, List.take_length_add_append, List.drop_append]
  simp
theorem firstErr_split {a b : List S28} (h : firstErr (a ++ b) = 0) : firstErr a = 0 ∧ firstErr b = 0 := by
  rw [firstErr_append] at h
  split at h
  · rename_i h0; exact ⟨h0, h⟩
  · rename_i h0; exact absurd h h0

theorem kids_l0 : ∀ (ks : List Tr) (pre : List S28) (acc : List (List S28)), (pre ++ flatL ks).length ≤ 1000000 → acc.length + ks.length ≤ 1000000 → tame (pre ++ flatL ks) →
    Ev (fun k => term_Kids.l0 k (pre ++ flatL ks) acc (pre.length : Int)) (acc ++ ks.map flat, 0)
  | [], pre, acc, hl, hc, ht => by
    refine Ev.nxt 0 (fun k _ => ?_)
    simp only [term_Kids.l0]
    rw [if_neg (by simp [flatL])]
    simp
  | T :: r, pre, acc, hl, hc, ht => by
    have hp := flat_pos T
    have e1 : pre ++ flatL (T :: r) = pre ++ flat T ++ flatL r := by simp [flatL]
    have hb := behind_ev (pre ++ flatL (T :: r)) ht hl pre.length (by simp)
    rw [e1] at hb
    rw [endOf_flat T pre (flatL r)] at hb
    rw [← e1] at hb
    have ih := kids_l0 r (pre ++ flat T) (acc ++ [flat T]) (by rw [← e1]; exact hl) (by simp at hc ⊢; omega) (by rw [← e1]; exact ht)
    rw [← e1] at ih
    obtain ⟨K1, hb⟩ := hb
    obtain ⟨K2, ih⟩ := ih
    dsimp only at hb ih
    have hseg : ((pre ++ flatL (T :: r)).take (((pre.length + (flat T).length : Nat) : Int)).toNat).drop ((pre.length : Int)).toNat = flat T := by
      rw [e1]
      exact seg_mid pre (flat T) (flatL r) _ _ rfl rfl
    have hfl : (flat T).length ≤ 1000000 := by simp [flatL] at hl; omega
    refine Ev.nxt (max K1 K2) (fun k hkk => ?_)
    simp only [term_Kids.l0]
    rw [if_pos (by simp [flatL]; omega), hb k (by omega), Option.bind_some, if_pos (by omega), if_pos (by omega), if_pos (by simp [flatL]; omega), hseg]
    unfold clone_Term.f
    rw [if_pos (by omega), Option.bind_some, if_pos (by simp at hc; omega)]
    have := ih k (by omega)
    rw [show (((pre ++ flat T).length : Nat) : Int) = ((pre.length + (flat T).length : Nat) : Int) from by simp] at this
    rw [this]
    simp

theorem rkids_l0 : ∀ (ks : List Tr) (pre : List S28) (acc : List (List S28)), (pre ++ flatL ks).length ≤ 1000000 → acc.length + ks.length ≤ 1000000 → tame (pre ++ flatL ks) →
    Ev (fun k => aumbryref04_Kids.l0 k (pre ++ flatL ks) acc (pre.length : Int)) (acc ++ ks.map flat)
  | [], pre, acc, hl, hc, ht => by
    refine Ev.nxt 0 (fun k _ => ?_)
    simp only [aumbryref04_Kids.l0]
    rw [if_neg (by simp [flatL])]
    simp
  | T :: r, pre, acc, hl, hc, ht => by
    have hp := flat_pos T
    have e1 : pre ++ flatL (T :: r) = pre ++ flat T ++ flatL r := by simp [flatL]
    have hb := rbehind_ev (pre ++ flatL (T :: r)) ht hl pre.length (by simp)
    rw [e1] at hb
    rw [endOf_flat T pre (flatL r)] at hb
    rw [← e1] at hb
    have ih := rkids_l0 r (pre ++ flat T) (acc ++ [flat T]) (by rw [← e1]; exact hl) (by simp at hc ⊢; omega) (by rw [← e1]; exact ht)
    rw [← e1] at ih
    obtain ⟨K1, hb⟩ := hb
    obtain ⟨K2, ih⟩ := ih
    dsimp only at hb ih
    have hseg : ((pre ++ flatL (T :: r)).take (((pre.length + (flat T).length : Nat) : Int)).toNat).drop ((pre.length : Int)).toNat = flat T := by
      rw [e1]
      exact seg_mid pre (flat T) (flatL r) _ _ rfl rfl
    have hfl : (flat T).length ≤ 1000000 := by simp [flatL] at hl; omega
    refine Ev.nxt (max K1 K2) (fun k hkk => ?_)
    simp only [aumbryref04_Kids.l0]
    rw [if_pos (by simp [flatL]; omega), hb k (by omega), Option.bind_some, if_pos (by omega), if_pos (by omega), if_pos (by simp [flatL]; omega), hseg]
    unfold aumbryref04_Copy.f
    rw [if_pos (by simp; omega), Option.bind_some, if_pos (by simp at hc; omega), Option.bind_some]
    have := ih k (by omega)
    rw [show (((pre ++ flat T).length : Nat) : Int) = ((pre.length + (flat T).length : Nat) : Int) from by simp] at this
    rw [List.nil_append, this]
    simp

theorem rkids_ev (n : ByteArray) (ks : List Tr) (hl : (flat (.node n ks)).length ≤ 1000000) (ht : tame (flat (.node n ks))) : Ev (fun k => aumbryref04_Kids.f k (flat (.node n ks))) (ks.map flat) := by
  have := flatL_len ks
  have h := rkids_l0 ks [(⟨n, ks.length⟩ : S28)] [] (by simpa [flat] using hl) (by simp [flat] at hl ⊢; omega) (by simpa [flat] using ht)
  simpa [flat, aumbryref04_Kids.f] using h
theorem kids_ok (n : ByteArray) (ks : List Tr) (hf : fine (.node n ks)) (hl : (flat (.node n ks)).length ≤ 64) : Ev (fun k => term_Kids.f k (flat (.node n ks))) (ks.map flat, 0) := by
  have := flatL_len ks
  have ht := tame_of_first _ (fine_to _ hf)
  have h := kids_l0 ks [(⟨n, ks.length⟩ : S28)] [] (by simp [flat] at hl ⊢; omega) (by simp [flat] at hl ⊢; omega) (by simpa [flat] using ht)
  have h1 := check_ev (flat (.node n ks))
  rw [chk_of_tree _ hf hl] at h1
  obtain ⟨K1, h1⟩ := h1
  obtain ⟨K2, h⟩ := h
  dsimp only at h1 h
  refine ⟨max K1 K2, fun k hk => ?_⟩
  dsimp only
  unfold term_Kids.f
  rw [h1 k (by omega), Option.bind_some, if_pos rfl]
  simpa [flat] using h k (by omega)
theorem kids_bad (t : List S28) (h : chk t ≠ 0) : Ev (fun k => term_Kids.f k t) ([], chk t) := by
  obtain ⟨K1, h1⟩ := check_ev t
  dsimp only at h1
  refine ⟨K1, fun k hk => ?_⟩
  dsimp only
  unfold term_Kids.f
  rw [h1 k hk, Option.bind_some, if_neg h]

/-! ### depth -/
mutual
theorem deep_tree : ∀ (T : Tr) (pre post : List S28), (pre ++ flat T ++ post).length ≤ 1000000 → Ev (fun k => term_deep.f k (pre ++ flat T ++ post) (pre.length : Int)) ((dep T : Int), ((pre.length + (flat T).length : Nat) : Int))
  | .node n ks, pre, post, hl => by
    have hw : wrap64 ((pre.length : Int) + 1) = (((pre ++ [(⟨n, ks.length⟩ : S28)]).length : Nat) : Int) := by simp [flat] at hl ⊢; unfold wrap64; omega
    have ht : pre ++ flat (.node n ks) ++ post = (pre ++ [(⟨n, ks.length⟩ : S28)]) ++ flatL ks ++ post := by simp [flat]
    have hrd : rd_T28 (pre ++ flat (.node n ks) ++ post) (pre.length : Int) = ⟨n, ks.length⟩ := by
      rw [show pre ++ flat (.node n ks) ++ post = pre ++ (⟨n, ks.length⟩ : S28) :: (flatL ks ++ post) from by simp [flat]]
      exact rd_mid _ _ _
    have hk := deep_forest ks (pre ++ [(⟨n, ks.length⟩ : S28)]) post 0 0 (by rw [← ht]; exact hl) (by have := flatL_len ks; simp [flat] at hl; omega) (by omega)
    rw [← ht] at hk
    obtain ⟨K, hk⟩ := hk
    dsimp only at hk
    refine Ev.nxt K (fun k hkk => ?_)
    simp only [term_deep.f]
    rw [if_pos (by omega), if_pos (by simp [flat]; omega), hrd, hw]
    dsimp only
    have := hk k hkk
    rw [Nat.zero_add, show (((0 : Nat) : Int)) = 0 from rfl] at this
    rw [this]
    simp [dep, flat]
    omega
theorem deep_forest : ∀ (ks : List Tr) (pre post : List S28) (i m : Nat), (pre ++ flatL ks ++ post).length ≤ 1000000 → i + ks.length ≤ 1000000 → m ≤ 1000000 →
    Ev (fun k => term_deep.l0 k (pre ++ flatL ks ++ post) (m : Int) (pre.length : Int) ((i + ks.length : Nat) : Int) (i : Int)) (((max m (depL ks) + 1 : Nat) : Int), ((pre.length + (flatL ks).length : Nat) : Int))
  | [], pre, post, i, m, hl, hi, hm => by
    refine Ev.nxt 0 (fun k hkk => ?_)
    simp only [term_deep.l0]
    rw [if_neg (by simp)]
    have hw : wrap64 ((m : Int) + 1) = ((m + 1 : Nat) : Int) := by unfold wrap64; omega
    simp [flatL, depL, hw]
  | T :: r, pre, post, i, m, hl, hi, hm => by
    have e1 : pre ++ flatL (T :: r) ++ post = pre ++ flat T ++ (flatL r ++ post) := by simp [flatL]
    have e2 : pre ++ flatL (T :: r) ++ post = (pre ++ flat T) ++ flatL r ++ post := by simp [flatL]
    have hd := dep_le T
    have h1 := deep_tree T pre (flatL r ++ post) (by rw [← e1]; exact hl)
    have h2 := deep_forest r (pre ++ flat T) post (i + 1) (max m (dep T)) (by rw [← e2]; exact hl) (by simp at hi; omega) (by simp [flatL] at hl; omega)
    rw [← e1] at h1
    rw [← e2] at h2
    obtain ⟨K1, h1⟩ := h1
    obtain ⟨K2, h2⟩ := h2
    dsimp only at h1 h2
    have hw : wrap64 ((i : Int) + 1) = ((i + 1 : Nat) : Int) := by simp at hi; unfold wrap64; omega
    have hn : ((i + (T :: r).length : Nat) : Int) = ((i + 1 + r.length : Nat) : Int) := by simp; omega
    have hend : (((pre ++ flat T).length + (flatL r).length : Nat) : Int) = ((pre.length + (flatL (T :: r)).length : Nat) : Int) := by simp [flatL]; omega
    have hpos : (((pre ++ flat T).length : Nat) : Int) = ((pre.length + (flat T).length : Nat) : Int) := by simp
    have hmx : mx (m : Int) (dep T : Int) = ((max m (dep T) : Nat) : Int) := by unfold mx; split <;> omega
    have hmm : max (max m (dep T)) (depL r) = max m (depL (T :: r)) := by simp only [depL]; omega
    rw [hend, hpos, hmm] at h2
    rw [hn]
    refine Ev.nxt (max K1 K2) (fun k hkk => ?_)
    simp only [term_deep.l0]
    rw [if_pos (by omega), hw, h1 k (by omega)]
    simp only [Option.bind_some]
    rw [hmx]
    exact h2 k (by omega)
theorem dep_le : ∀ (T : Tr), dep T ≤ (flat T).length
  | .node n ks => by
    have := depL_le ks
    simp only [dep, flat, List.length_cons]
    omega
theorem depL_le : ∀ (ks : List Tr), depL ks ≤ (flatL ks).length
  | [] => by simp [depL]
  | T :: r => by
    have h1 := dep_le T
    have h2 := depL_le r
    simp only [depL, flatL, List.length_append]
    omega
end

theorem rd_map (pre r : List Tr) (T : Tr) : rd_L3 ((pre ++ T :: r).map flat) (pre.length : Int) = flat T := by
  simp [rd_L3, List.getD_eq_getElem?_getD]
mutual
theorem rdepth_tree : ∀ (T : Tr), (flat T).length ≤ 1000000 → tame (flat T) → Ev (fun k => aumbryref04_Depth.f k (flat T)) (dep T : Int)
  | .node n ks, hl, ht => by
    have h1 := rkids_ev n ks hl ht
    have h2 := rdepth_forest ks [] 0 (by simp [flat] at hl; omega) (fun x hx => ht x (by simp [flat]; exact .inr hx)) (by have := flatL_len ks; simp [flat] at hl ⊢; omega) (by omega)
    refine Ev.step (f := fun k => (aumbryref04_Kids.f k (flat (.node n ks))).bind fun t483 => (aumbryref04_Depth.l0 k 0 t483 (t483.length : Int) 0)) (fun k => by simp only [aumbryref04_Depth.f]) (Ev.bind h1 ?_)
    simpa [dep] using h2
theorem rdepth_forest : ∀ (ks pre : List Tr) (m : Nat), 1 + (flatL ks).length ≤ 1000000 → tame (flatL ks) → (pre ++ ks).length ≤ 1000000 → m ≤ 1000000 →
    Ev (fun k => aumbryref04_Depth.l0 k (m : Int) ((pre ++ ks).map flat) (((pre ++ ks).map flat).length : Int) (pre.length : Int)) ((max m (depL ks) + 1 : Nat) : Int)
  | [], pre, m, hl, ht, hi, hm => by
    refine Ev.nxt 0 (fun k hkk => ?_)
    simp only [aumbryref04_Depth.l0]
    rw [if_neg (by simp)]
    have hw : wrap64 ((m : Int) + 1) = ((m + 1 : Nat) : Int) := by unfold wrap64; omega
    simp [depL, hw]
  | T :: r, pre, m, hl, ht, hi, hm => by
    have hd := dep_le T
    simp only [flatL, List.length_append] at hl
    have h1 := rdepth_tree T (by omega) (fun x hx => ht x (by simp [flatL]; exact .inl hx))
    have h2 := rdepth_forest r (pre ++ [T]) (max m (dep T)) (by omega) (fun x hx => ht x (by simp [flatL]; exact .inr hx)) (by simpa using hi) (by omega)
    have e2 : pre ++ [T] ++ r = pre ++ T :: r := by simp
    rw [e2] at h2
    obtain ⟨K1, h1⟩ := h1
    obtain ⟨K2, h2⟩ := h2
    dsimp only at h1 h2
    have hw : wrap64 ((pre.length : Int) + 1) = (((pre ++ [T]).length : Nat) : Int) := by simp at hi ⊢; unfold wrap64; omega
    have hmm : max (max m (dep T)) (depL r) = max m (depL (T :: r)) := by simp only [depL]; omega
    rw [hmm] at h2
    refine Ev.nxt (max K1 K2) (fun k hkk => ?_)
    simp only [aumbryref04_Depth.l0]
    rw [if_pos (by simp; omega), if_pos (by omega), if_pos (by simp; omega), rd_map, h1 k (by omega), Option.bind_some, hw]
    have := h2 k (by omega)
    by_cases hgt : (dep T : Int) > (m : Int)
    · rw [if_pos hgt]
      rwa [show max m (dep T) = dep T by omega] at this
    · rw [if_neg hgt]
      rwa [show max m (dep T) = m by omega] at this
end

theorem depth_ok (T : Tr) (hf : fine T) (hl : (flat T).length ≤ 64) : Ev (fun k => term_Depth.f k (flat T)) ((dep T : Int), 0) := by
  have h1 := check_ev (flat T)
  rw [chk_of_tree T hf hl] at h1
  have h2 := deep_tree T [] [] (by simp; omega)
  simp only [List.nil_append, List.append_nil] at h2
  obtain ⟨K1, h1⟩ := h1
  obtain ⟨K2, h2⟩ := h2
  dsimp only at h1 h2
  refine ⟨max K1 K2, fun k hk => ?_⟩
  dsimp only
  unfold term_Depth.f
  rw [h1 k (by omega), Option.bind_some, if_pos rfl]
  rw [show term_deep.f k (flat T) 0 = _ from h2 k (by omega), Option.bind_some]
theorem depth_bad (t : List S28) (h : chk t ≠ 0) : Ev (fun k => term_Depth.f k t) (0, chk t) := by
  obtain ⟨K1, h1⟩ := check_ev t
  dsimp only at h1
  refine ⟨K1, fun k hk => ?_⟩
  dsimp only
  unfold term_Depth.f
  rw [h1 k hk, Option.bind_some, if_neg h]

/-! ### the reference's text -/
theorem bytes_append (a b : List UInt8) : bytes a ++ bytes b = bytes (a ++ b) := by
  apply ByteArray.ext
  simp [bytes]
theorem bytes_size (a : List UInt8) : (bytes a).size = a.length := by
  show a.toArray.size = _
  simp
theorem bytes_data (s : ByteArray) : bytes s.data.toList = s := by
  apply ByteArray.ext
  simp [bytes]
mutual
theorem text_tree : ∀ (T : Tr), (flat T).length ≤ 1000000 → tame (flat T) → (txt T).length ≤ 2000000 → Ev (fun k => aumbryref04_Text.f k (flat T)) (bytes (txt T))
  | .node n ks, hl, ht, hx => by
    have h1 := rkids_ev n ks hl ht
    have h2 := text_forest ks [] n.data.toList (by simp [flat] at hl; omega) (fun x hx => ht x (by simp [flat]; exact .inr hx)) (by have := flatL_len ks; simp [flat] at hl ⊢; omega) (by simp [txt] at hx ⊢; omega)
    have hrd : rd_T28 (flat (.node n ks)) 0 = ⟨n, ks.length⟩ := by simp [flat, rd_T28]
    obtain ⟨K1, h1⟩ := h1
    obtain ⟨K2, h2⟩ := h2
    dsimp only at h1 h2
    refine Ev.nxt (max K1 K2) (fun k hkk => ?_)
    simp only [aumbryref04_Text.f]
    rw [if_pos (by simp [flat] <;> omega), h1 k (by omega), Option.bind_some, hrd]
    dsimp only
    have := h2 k (by omega)
    rw [bytes_data] at this
    simp only [List.nil_append, List.length_nil, Int.natCast_zero] at this
    simpa [txt] using this
theorem text_forest : ∀ (ks pre : List Tr) (acc : List UInt8), 1 + (flatL ks).length ≤ 1000000 → tame (flatL ks) → (pre ++ ks).length ≤ 1000000 → (acc ++ txtK (decide (pre.length = 0)) ks).length ≤ 2000000 →
    Ev (fun k => aumbryref04_Text.l0 k (bytes acc) ((pre ++ ks).map flat) (((pre ++ ks).map flat).length : Int) (pre.length : Int)) (bytes (acc ++ txtK (decide (pre.length = 0)) ks ++ (if (pre ++ ks).length = 0 then [] else [41])))
  | [], pre, acc, hl, ht, hi, hx => by
    refine Ev.nxt 0 (fun k hkk => ?_)
    simp only [aumbryref04_Text.l0]
    rw [if_neg (by simp)]
    by_cases h0 : pre.length = 0
    · rw [if_neg (by simp; exact List.eq_nil_of_length_eq_zero h0), if_pos (by simpa using h0)]
      simp [txtK]
    · rw [if_pos (by simp; omega), if_pos (by rw [bytes_size]; simp [txtK] at hx; omega), if_neg (by simpa using h0)]
      simp only [txtK, List.append_nil]
      rw [show (⟨#[41]⟩ : ByteArray) = bytes [41] from rfl, bytes_append]
  | T :: r, pre, acc, hl, ht, hi, hx => by
    simp only [flatL, List.length_append] at hl
    have hx' : (txt T).length ≤ 2000000 := by
      by_cases h0 : pre.length = 0 <;> simp [txtK, h0] at hx <;> omega
    have h1 := text_tree T (by omega) (fun x hx => ht x (by simp [flatL]; exact .inl hx)) hx'
    have h2 := text_forest r (pre ++ [T]) (acc ++ (if pre.length = 0 then 40 else 44) :: txt T) (by omega) (fun x hx => ht x (by simp [flatL]; exact .inr hx)) (by simpa using hi) (by
      by_cases h0 : pre.length = 0 <;> simp [txtK, h0] at hx ⊢ <;> omega)
    have e2 : pre ++ [T] ++ r = pre ++ T :: r := by simp
    rw [e2] at h2
    have hres : acc ++ (if pre.length = 0 then 40 else 44) :: txt T ++ txtK (decide ((pre ++ [T]).length = 0)) r = acc ++ txtK (decide (pre.length = 0)) (T :: r) := by
      by_cases h0 : pre.length = 0 <;> simp [txtK, h0]
    rw [hres] at h2
    obtain ⟨K1, h1⟩ := h1
    obtain ⟨K2, h2⟩ := h2
    dsimp only at h1 h2
    have hw : wrap64 ((pre.length : Int) + 1) = (((pre ++ [T]).length : Nat) : Int) := by simp at hi ⊢; unfold wrap64; omega
    refine Ev.nxt (max K1 K2) (fun k hkk => ?_)
    simp only [aumbryref04_Text.l0]
    have hlen : acc.length + 1 + (txt T).length ≤ 2000000 := by
      by_cases h0 : pre.length = 0 <;> simp [txtK, h0] at hx <;> omega
    rw [if_pos (by simp; omega)]
    by_cases h0 : pre.length = 0
    · have := h2 k (by omega)
      rw [if_pos h0] at this
      rw [if_pos (by omega), if_pos (by rw [bytes_size]; omega), if_pos (by omega), if_pos (by simp; omega), rd_map, h1 k (by omega), Option.bind_some, show (⟨#[40]⟩ : ByteArray) = bytes [40] from rfl, bytes_append, if_pos (by rw [bytes_size, bytes_size]; simp; omega), bytes_append, hw]
      simpa using this
    · have := h2 k (by omega)
      rw [if_neg h0] at this
      rw [if_neg (by omega), if_pos (by rw [bytes_size]; omega), if_pos (by omega), if_pos (by simp; omega), rd_map, h1 k (by omega), Option.bind_some, show (⟨#[44]⟩ : ByteArray) = bytes [44] from rfl, bytes_append, if_pos (by rw [bytes_size, bytes_size]; simp; omega), bytes_append, hw]
      simpa using this
end

theorem rprint_ok (T : Tr) (hf : fine T) (hl : (flat T).length ≤ 64) : Ev (fun k => aumbryref04_Print.f k (flat T)) (bytes (txt T), 0) := by
  have h1 := rcheck_ev (flat T)
  rw [chk_of_tree T hf hl] at h1
  have h2 := text_tree T (by omega) (tame_of_first _ (fine_to _ hf)) (by have := txt_len T hf; omega)
  obtain ⟨K1, h1⟩ := h1
  obtain ⟨K2, h2⟩ := h2
  dsimp only at h1 h2
  refine ⟨max K1 K2, fun k hk => ?_⟩
  dsimp only
  unfold aumbryref04_Print.f
  rw [h1 k (by omega), Option.bind_some, if_pos rfl, h2 k (by omega), Option.bind_some]
theorem rprint_bad (t : List S28) (h : chk t ≠ 0) : Ev (fun k => aumbryref04_Print.f k t) (⟨#[]⟩, chk t) := by
  obtain ⟨K1, h1⟩ := rcheck_ev t
  dsimp only at h1
  refine ⟨K1, fun k hk => ?_⟩
  dsimp only
  unfold aumbryref04_Print.f
  rw [h1 k hk, Option.bind_some, if_neg h]

/-! ### variables -/
def hasB (l : List ByteArray) (s : ByteArray) : Bool := l.any fun x => decide (x.toList = s.toList)
theorem drop_of (l : List ByteArray) (i : Nat) (h : i < l.length) : l.drop i = rdOf ByteArray.empty l i :: l.drop (i + 1) := by
  rw [List.drop_eq_getElem_cons h]
  simp [rdOf, List.getD_eq_getElem?_getD, List.getElem?_eq_getElem h]
theorem has_l0 (l : List ByteArray) (s : ByteArray) (hl : l.length ≤ 1000000) : ∀ d i : Nat, i + d = l.length → Ev (fun k => aumbryref03_Has.l0 k l s (l.length : Int) (i : Int)) (hasB (l.drop i) s)
  | 0, i, h => by
    refine Ev.nxt 0 (fun k _ => ?_)
    simp only [aumbryref03_Has.l0]
    rw [if_neg (by omega), List.drop_eq_nil_of_le (by omega)]
    rfl
  | d + 1, i, h => by
    have hw : wrap64 ((i : Int) + 1) = ((i + 1 : Nat) : Int) := by unfold wrap64; omega
    rw [drop_of l i (by omega)]
    by_cases hc : (rdOf ByteArray.empty l i).toList = s.toList
    · refine Ev.nxt 0 (fun k _ => ?_)
      simp only [aumbryref03_Has.l0]
      rw [if_pos (by omega), if_pos (by omega), if_pos (by omega), if_pos hc]
      simp [hasB, hc]
    · refine Ev.step (f := fun k => aumbryref03_Has.l0 k l s (l.length : Int) ((i + 1 : Nat) : Int)) (fun k => ?_) ?_
      · simp only [aumbryref03_Has.l0]
        rw [if_pos (by omega), if_pos (by omega), if_pos (by omega), if_neg hc, hw]
      · have := has_l0 l s hl d (i + 1) (by omega)
        simpa [hasB, hc] using this
theorem has_ev (l : List ByteArray) (s : ByteArray) (hl : l.length ≤ 1000000) : Ev (fun k => aumbryref03_Has.f k l s) (hasB l s) := has_l0 l s hl l.length 0 (by omega)
theorem index_l0 (l : List ByteArray) (s : ByteArray) (hl : l.length ≤ 1000000) : ∀ d i : Nat, i + d = l.length → ∃ r, Ev (fun k => slices_Index_string_string.l0 k l s (l.length : Int) (i : Int)) r ∧ decide (r ≥ 0) = hasB (l.drop i) s
  | 0, i, h => by
    refine ⟨-1, Ev.nxt 0 (fun k _ => ?_), ?_⟩
    · simp only [slices_Index_string_string.l0]
      rw [if_neg (by omega)]
    · rw [List.drop_eq_nil_of_le (by omega)]
      rfl
  | d + 1, i, h => by
    have hw : wrap64 ((i : Int) + 1) = ((i + 1 : Nat) : Int) := by unfold wrap64; omega
    rw [drop_of l i (by omega)]
    by_cases hc : (rdOf ByteArray.empty l i).toList = s.toList
    · refine ⟨(i : Int), Ev.nxt 0 (fun k _ => ?_), ?_⟩
      · simp only [slices_Index_string_string.l0]
        rw [if_pos (by omega), if_pos (by omega), if_pos (by omega), if_pos hc.symm]
      · simp [hasB, hc]
    · obtain ⟨r, h1, h2⟩ := index_l0 l s hl d (i + 1) (by omega)
      refine ⟨r, Ev.step (f := fun k => slices_Index_string_string.l0 k l s (l.length : Int) ((i + 1 : Nat) : Int)) (fun k => ?_) h1, ?_⟩
      · simp only [slices_Index_string_string.l0]
        rw [if_pos (by omega), if_pos (by omega), if_pos (by omega), if_neg (fun h => hc h.symm), hw]
      · rw [h2]
        simp [hasB, hc]
theorem contains_ev (l : List ByteArray) (s : ByteArray) (hl : l.length ≤ 1000000) : Ev (fun k => slices_Contains_string_string.f k l s) (hasB l s) := by
  obtain ⟨r, h1, h2⟩ := index_l0 l s hl l.length 0 (by omega)
  refine Ev.congr (f := fun k => (slices_Index_string_string.l0 k l s (l.length : Int) ((0 : Nat) : Int)).bind fun t457 => (some (decide (t457 ≥ 0)))) (fun k => by rfl) (Ev.bind h1 ?_)
  rw [h2]
  exact Ev.now _

def varsL : List S28 → List ByteArray → List ByteArray
  | [], acc => acc
  | c :: r, acc => varsL r (if kindOf c.f0 = 2 then (if hasB acc c.f0 then acc else acc ++ [c.f0]) else acc)
theorem vars_l0 (t : List S28) (ht : t.length ≤ 1000) : ∀ (d i : Nat) (acc : List ByteArray), i + d = t.length → acc.length ≤ i → Ev (fun k => term_Vars.l0 k acc t (t.length : Int) (i : Int)) (varsL (t.drop i) acc, 0)
  | 0, i, acc, h, ha => by
    refine Ev.nxt 0 (fun k _ => ?_)
    simp only [term_Vars.l0]
    rw [if_neg (by omega), drop_end t i (by omega)]
    rfl
  | d + 1, i, acc, h, ha => by
    have hw : wrap64 ((i : Int) + 1) = ((i + 1 : Nat) : Int) := by unfold wrap64; omega
    rw [drop_rd t i (by omega)]
    obtain ⟨K1, hk⟩ := kind_ev (rd_T28 t i).f0
    obtain ⟨K2, hc⟩ := contains_ev acc (rd_T28 t i).f0 (by omega)
    dsimp only at hk hc
    by_cases c1 : kindOf (rd_T28 t i).f0 = 2
    · by_cases c2 : hasB acc (rd_T28 t i).f0 = true
      · have ih := vars_l0 t ht d (i + 1) acc (by omega) (by omega)
        obtain ⟨K3, ih⟩ := ih
        refine Ev.nxt (max (max K1 K2) K3) (fun k hkk => ?_)
        simp only [term_Vars.l0, varsL]
        rw [if_pos (by omega), if_pos (by omega), if_pos (by omega), hk k (by omega), Option.bind_some, if_pos c1, hc k (by omega), Option.bind_some, if_pos c2, hw, if_pos c1, if_pos c2]
        exact ih k (by omega)
      · have ih := vars_l0 t ht d (i + 1) (acc ++ [(rd_T28 t i).f0]) (by omega) (by simp; omega)
        obtain ⟨K3, ih⟩ := ih
        refine Ev.nxt (max (max K1 K2) K3) (fun k hkk => ?_)
        simp only [term_Vars.l0, varsL]
        rw [if_pos (by omega), if_pos (by omega), if_pos (by omega), hk k (by omega), Option.bind_some, if_pos c1, hc k (by omega), Option.bind_some, if_neg c2, if_pos (by omega), hw, if_pos c1, if_neg c2]
        exact ih k (by omega)
    · have ih := vars_l0 t ht d (i + 1) acc (by omega) (by omega)
      obtain ⟨K3, ih⟩ := ih
      refine Ev.nxt (max K1 K3) (fun k hkk => ?_)
      simp only [term_Vars.l0, varsL]
      rw [if_pos (by omega), if_pos (by omega), if_pos (by omega), hk k (by omega), Option.bind_some, if_neg c1, hw, if_neg c1]
      exact ih k (by omega)
theorem rvars_l0 (t : List S28) (ht : t.length ≤ 1000) : ∀ (d i : Nat) (acc : List ByteArray), i + d = t.length → acc.length ≤ i → Ev (fun k => aumbryref04_Vars.l0 k t acc (t.length : Int) (i : Int)) (varsL (t.drop i) acc)
  | 0, i, acc, h, ha => by
    refine Ev.nxt 0 (fun k _ => ?_)
    simp only [aumbryref04_Vars.l0]
    rw [if_neg (by omega), drop_end t i (by omega)]
    rfl
  | d + 1, i, acc, h, ha => by
    have hw : wrap64 ((i : Int) + 1) = ((i + 1 : Nat) : Int) := by unfold wrap64; omega
    rw [drop_rd t i (by omega)]
    obtain ⟨K1, hk⟩ := rkind_ev (rd_T28 t i).f0
    obtain ⟨K2, hc⟩ := has_ev acc (rd_T28 t i).f0 (by omega)
    dsimp only at hk hc
    by_cases c1 : kindOf (rd_T28 t i).f0 = 2
    · by_cases c2 : hasB acc (rd_T28 t i).f0 = true
      · have ih := rvars_l0 t ht d (i + 1) acc (by omega) (by omega)
        obtain ⟨K3, ih⟩ := ih
        refine Ev.nxt (max (max K1 K2) K3) (fun k hkk => ?_)
        simp only [aumbryref04_Vars.l0, varsL]
        rw [if_pos (by omega), if_pos (by omega), if_pos (by omega), hk k (by omega), Option.bind_some, if_pos c1, hc k (by omega), Option.bind_some, if_pos c2, hw, if_pos c1, if_pos c2]
        exact ih k (by omega)
      · have ih := rvars_l0 t ht d (i + 1) (acc ++ [(rd_T28 t i).f0]) (by omega) (by simp; omega)
        obtain ⟨K3, ih⟩ := ih
        refine Ev.nxt (max (max K1 K2) K3) (fun k hkk => ?_)
        simp only [aumbryref04_Vars.l0, varsL]
        rw [if_pos (by omega), if_pos (by omega), if_pos (by omega), hk k (by omega), Option.bind_some, if_pos c1, hc k (by omega), Option.bind_some, if_neg c2, if_pos (by omega), hw, if_pos c1, if_neg c2]
        exact ih k (by omega)
    · have ih := rvars_l0 t ht d (i + 1) acc (by omega) (by omega)
      obtain ⟨K3, ih⟩ := ih
      refine Ev.nxt (max K1 K3) (fun k hkk => ?_)
      simp only [aumbryref04_Vars.l0, varsL]
      rw [if_pos (by omega), if_pos (by omega), if_pos (by omega), hk k (by omega), Option.bind_some, if_neg c1, hw, if_neg c1]
      exact ih k (by omega)
theorem varsL_len : ∀ (t : List S28) (acc : List ByteArray), (varsL t acc).length ≤ acc.length + t.length
  | [], acc => by simp [varsL]
  | c :: r, acc => by
    simp only [varsL]
    refine Nat.le_trans (varsL_len r _) ?_
    split
    · split
      · simp
      · simp; omega
    · simp
theorem vars_ok (t : List S28) (h : chk t = 0) : Ev (fun k => term_Vars.f k t) (varsL t [], 0) := by
  have hl : t.length ≤ 64 := by obtain ⟨T, _, _, hl⟩ := tree_of_chk t h; exact hl
  have h1 := check_ev t
  rw [h] at h1
  obtain ⟨K1, h1⟩ := h1
  obtain ⟨K2, h2⟩ := vars_l0 t (by omega) t.length 0 [] (by omega) (by simp)
  dsimp only at h1 h2
  refine ⟨max K1 K2, fun k hk => ?_⟩
  dsimp only
  unfold term_Vars.f
  rw [h1 k (by omega), Option.bind_some, if_pos rfl]
  exact h2 k (by omega)
theorem vars_bad (t : List S28) (h : chk t ≠ 0) : Ev (fun k => term_Vars.f k t) ([], chk t) := by
  obtain ⟨K1, h1⟩ := check_ev t
  dsimp only at h1
  refine ⟨K1, fun k hk => ?_⟩
  dsimp only
  unfold term_Vars.f
  rw [h1 k hk, Option.bind_some, if_neg h]
theorem rvars_ev (t : List S28) (h : t.length ≤ 1000) : Ev (fun k => aumbryref04_Vars.f k t) (varsL t []) := rvars_l0 t h t.length 0 [] (by omega) (by simp)

/-! ### alike -/
theorem sameS_l0 (a : List ByteArray) (hb : a.length ≤ 4611686018427387904) : ∀ d i : Nat, i + d = a.length → Ev (fun k => aumbryref03_Same.l0 k a a (a.length : Int) (i : Int)) true
  | 0, i, h => Ev.nxt 0 (fun k _ => by simp only [aumbryref03_Same.l0]; rw [if_neg (by omega)])
  | d + 1, i, h => by
    have hw : wrap64 ((i : Int) + 1) = ((i + 1 : Nat) : Int) := by unfold wrap64; omega
    refine Ev.step (f := fun k => aumbryref03_Same.l0 k a a (a.length : Int) ((i + 1 : Nat) : Int)) (fun k => ?_) (sameS_l0 a hb d (i + 1) (by omega))
    simp only [aumbryref03_Same.l0]
    rw [if_pos (by omega), if_pos (by omega), if_pos (by omega), if_pos (by omega), if_pos trivial, hw]
theorem sameS_ev (a : List ByteArray) (hb : a.length ≤ 4611686018427387904) : Ev (fun k => aumbryref03_Same.f k a a) true :=
  Ev.congr (fun k => by unfold aumbryref03_Same.f; rw [if_pos rfl]; rfl) (sameS_l0 a hb a.length 0 (by omega))
theorem sameT_l0 (a : List S28) (hb : a.length ≤ 4611686018427387904) : ∀ d i : Nat, i + d = a.length → Ev (fun k => aumbryref04_Same.l0 k a a (a.length : Int) (i : Int)) true
  | 0, i, h => Ev.nxt 0 (fun k _ => by simp only [aumbryref04_Same.l0]; rw [if_neg (by omega)])
  | d + 1, i, h => by
    have hw : wrap64 ((i : Int) + 1) = ((i + 1 : Nat) : Int) := by unfold wrap64; omega
    refine Ev.step (f := fun k => aumbryref04_Same.l0 k a a (a.length : Int) ((i + 1 : Nat) : Int)) (fun k => ?_) (sameT_l0 a hb d (i + 1) (by omega))
    simp only [aumbryref04_Same.l0]
    rw [if_pos (by omega), if_pos (by omega), if_pos (by omega), if_pos (by omega), if_neg (by simp), hw]
theorem sameT_ev (a : List S28) (hb : a.length ≤ 4611686018427387904) : Ev (fun k => aumbryref04_Same.f k a a) true :=
  Ev.congr (fun k => by unfold aumbryref04_Same.f; rw [if_pos rfl]; rfl) (sameT_l0 a hb a.length 0 (by omega))
theorem sameAll_l0 (a : List (List S28)) (hb : a.length ≤ 4611686018427387904) (hq : ∀ x ∈ a, x.length ≤ 4611686018427387904) : ∀ d i : Nat, i + d = a.length → Ev (fun k => aumbryref04_SameAll.l0 k a a (a.length : Int) (i : Int)) true
  | 0, i, h => Ev.nxt 0 (fun k _ => by simp only [aumbryref04_SameAll.l0]; rw [if_neg (by omega)])
  | d + 1, i, h => by
    have hw : wrap64 ((i : Int) + 1) = ((i + 1 : Nat) : Int) := by unfold wrap64; omega
    have hm : rd_L3 a i ∈ a := by
      have : rd_L3 a i = a[i] := by simp [rd_L3, List.getD_eq_getElem?_getD, List.getElem?_eq_getElem (show i < a.length by omega)]
      rw [this]
      exact List.getElem_mem _
    refine Ev.step (f := fun k => (aumbryref04_Same.f k (rd_L3 a i) (rd_L3 a i)).bind fun t399 => (if t399 = true then (aumbryref04_SameAll.l0 k a a (a.length : Int) ((i + 1 : Nat) : Int)) else (some false))) (fun k => ?_) (Ev.bind (sameT_ev _ (hq _ hm)) ?_)
    · simp only [aumbryref04_SameAll.l0]
      rw [if_pos (by omega), if_pos (by omega), if_pos (by omega), if_pos (by omega), hw]
    · simp only [if_true]
      exact sameAll_l0 a hb hq d (i + 1) (by omega)
theorem sameAll_ev (a : List (List S28)) (hb : a.length ≤ 4611686018427387904) (hq : ∀ x ∈ a, x.length ≤ 4611686018427387904) : Ev (fun k => aumbryref04_SameAll.f k a a) true :=
  Ev.congr (fun k => by unfold aumbryref04_SameAll.f; rw [if_pos rfl]; rfl) (sameAll_l0 a hb hq a.length 0 (by omega))

end Go.Proofs.Ytnkpcnnbeaomnaa.C
end

section
-- Written by a program of this session (a scratch print over hand-made contracts), out of the translation. Not trusted: Lean checks it.
namespace Go.Proofs.Ytnkpcnnbeaomnaa.C
open Go.RowKit Go.Proofs.YtnkpcnnbeaomnaaW.PrintWords Go.Proofs.YtnkpcnnbeaomnaaW.PrintLast Go.Proofs.YtnkpcnnbeaomnaaW.PrintMore
attribute [local go_sem] max2_int min2_int max_two min_two max_three min_three max_four min_four   -- for this text's walks alone
set_option linter.unusedVariables false
set_option linter.unusedSimpArgs false

/-! ### aumbryref04_sign: function 58 -/
def aumbryref04_sign.f (a0 : Int) : Option (Bool) := if a0 ≥ 97 then (if a0 ≤ 122 then (some true) else (if a0 ≥ 65 then (if a0 ≤ 90 then (some true) else (if a0 ≥ 48 then (some (decide (a0 ≤ 57))) else (some false))) else (if a0 ≥ 48 then (some (decide (a0 ≤ 57))) else (some false)))) else (if a0 ≥ 65 then (if a0 ≤ 90 then (some true) else (if a0 ≥ 48 then (some (decide (a0 ≤ 57))) else (some false))) else (if a0 ≥ 48 then (some (decide (a0 ≤ 57))) else (some false)))
set_option maxHeartbeats 8000000 in
set_option maxRecDepth 100000 in
theorem aumbryref04_sign.calls (a0 : Int) (r : Bool) (w : World) (h : aumbryref04_sign.f a0 = some r) :
    Calls Try.prog 58 #[.int .u8 a0] w fun e w' => e = .returned (.bool r) ∧ Drawn0 w w' := by
  have H : (if a0 ≥ 97 then (if a0 ≤ 122 then (some true) else (if a0 ≥ 65 then (if a0 ≤ 90 then (some true) else (if a0 ≥ 48 then (some (decide (a0 ≤ 57))) else (some false))) else (if a0 ≥ 48 then (some (decide (a0 ≤ 57))) else (some false)))) else (if a0 ≥ 65 then (if a0 ≤ 90 then (some true) else (if a0 ≥ 48 then (some (decide (a0 ≤ 57))) else (some false))) else (if a0 ≥ 48 then (some (decide (a0 ≤ 57))) else (some false)))) = some r := h
  clear h
  by_cases c2 : a0 ≥ 97
  · rw [if_pos c2] at H
    have c2b0 : decide (97 ≤ a0) = true := decide_eq_true c2
    clear c2
    by_cases c3 : a0 ≤ 122
    · rw [if_pos c3] at H
      have c3b0 : decide (a0 ≤ 122) = true := decide_eq_true c3
      clear c3
      obtain rfl := Option.some.inj H
      go_enter Try.func58, Try.ntmps58
      go_wp2
      go_ret
      exact ⟨by first | rfl | (simp; done) | (simp [*]; done), by repeat (first | exact Drawn0.refl _ | apply Drawn0.step)⟩
    · rw [if_neg c3] at H
      have c3b0 : decide (a0 ≤ 122) = false := decide_eq_false c3
      clear c3
      by_cases c4 : a0 ≥ 65
      · rw [if_pos c4] at H
        have c4b0 : decide (65 ≤ a0) = true := decide_eq_true c4
        clear c4
        by_cases c5 : a0 ≤ 90
        · rw [if_pos c5] at H
          have c5b0 : decide (a0 ≤ 90) = true := decide_eq_true c5
          clear c5
          obtain rfl := Option.some.inj H
          go_enter Try.func58, Try.ntmps58
          go_wp2
          go_ret
          exact ⟨by first | rfl | (simp; done) | (simp [*]; done), by repeat (first | exact Drawn0.refl _ | apply Drawn0.step)⟩
        · rw [if_neg c5] at H
          have c5b0 : decide (a0 ≤ 90) = false := decide_eq_false c5
          clear c5
          by_cases c6 : a0 ≥ 48
          · rw [if_pos c6] at H
            have c6b0 : decide (48 ≤ a0) = true := decide_eq_true c6
            clear c6
            obtain rfl := Option.some.inj H
            go_enter Try.func58, Try.ntmps58
            go_wp2
            go_ret
            exact ⟨by first | rfl | (simp; done) | (simp [*]; done), by repeat (first | exact Drawn0.refl _ | apply Drawn0.step)⟩
          · rw [if_neg c6] at H
            have c6b0 : decide (48 ≤ a0) = false := decide_eq_false c6
            clear c6
            obtain rfl := Option.some.inj H
            go_enter Try.func58, Try.ntmps58
            go_wp2
            go_ret
            exact ⟨by first | rfl | (simp; done) | (simp [*]; done), by repeat (first | exact Drawn0.refl _ | apply Drawn0.step)⟩
      · rw [if_neg c4] at H
        have c4b0 : decide (65 ≤ a0) = false := decide_eq_false c4
        clear c4
        by_cases c7 : a0 ≥ 48
        · rw [if_pos c7] at H
          have c7b0 : decide (48 ≤ a0) = true := decide_eq_true c7
          clear c7
          obtain rfl := Option.some.inj H
          go_enter Try.func58, Try.ntmps58
          go_wp2
          go_ret
          exact ⟨by first | rfl | (simp; done) | (simp [*]; done), by repeat (first | exact Drawn0.refl _ | apply Drawn0.step)⟩
        · rw [if_neg c7] at H
          have c7b0 : decide (48 ≤ a0) = false := decide_eq_false c7
          clear c7
          obtain rfl := Option.some.inj H
          go_enter Try.func58, Try.ntmps58
          go_wp2
          go_ret
          exact ⟨by first | rfl | (simp; done) | (simp [*]; done), by repeat (first | exact Drawn0.refl _ | apply Drawn0.step)⟩
  · rw [if_neg c2] at H
    have c2b0 : decide (97 ≤ a0) = false := decide_eq_false c2
    clear c2
    by_cases c8 : a0 ≥ 65
    · rw [if_pos c8] at H
      have c8b0 : decide (65 ≤ a0) = true := decide_eq_true c8
      clear c8
      by_cases c9 : a0 ≤ 90
      · rw [if_pos c9] at H
        have c9b0 : decide (a0 ≤ 90) = true := decide_eq_true c9
        clear c9
        obtain rfl := Option.some.inj H
        go_enter Try.func58, Try.ntmps58
        go_wp2
        go_ret
        exact ⟨by first | rfl | (simp; done) | (simp [*]; done), by repeat (first | exact Drawn0.refl _ | apply Drawn0.step)⟩
      · rw [if_neg c9] at H
        have c9b0 : decide (a0 ≤ 90) = false := decide_eq_false c9
        clear c9
        by_cases c10 : a0 ≥ 48
        · rw [if_pos c10] at H
          have c10b0 : decide (48 ≤ a0) = true := decide_eq_true c10
          clear c10
          obtain rfl := Option.some.inj H
          go_enter Try.func58, Try.ntmps58
          go_wp2
          go_ret
          exact ⟨by first | rfl | (simp; done) | (simp [*]; done), by repeat (first | exact Drawn0.refl _ | apply Drawn0.step)⟩
        · rw [if_neg c10] at H
          have c10b0 : decide (48 ≤ a0) = false := decide_eq_false c10
          clear c10
          obtain rfl := Option.some.inj H
          go_enter Try.func58, Try.ntmps58
          go_wp2
          go_ret
          exact ⟨by first | rfl | (simp; done) | (simp [*]; done), by repeat (first | exact Drawn0.refl _ | apply Drawn0.step)⟩
    · rw [if_neg c8] at H
      have c8b0 : decide (65 ≤ a0) = false := decide_eq_false c8
      clear c8
      by_cases c11 : a0 ≥ 48
      · rw [if_pos c11] at H
        have c11b0 : decide (48 ≤ a0) = true := decide_eq_true c11
        clear c11
        obtain rfl := Option.some.inj H
        go_enter Try.func58, Try.ntmps58
        go_wp2
        go_ret
        exact ⟨by first | rfl | (simp; done) | (simp [*]; done), by repeat (first | exact Drawn0.refl _ | apply Drawn0.step)⟩
      · rw [if_neg c11] at H
        have c11b0 : decide (48 ≤ a0) = false := decide_eq_false c11
        clear c11
        obtain rfl := Option.some.inj H
        go_enter Try.func58, Try.ntmps58
        go_wp2
        go_ret
        exact ⟨by first | rfl | (simp; done) | (simp [*]; done), by repeat (first | exact Drawn0.refl _ | apply Drawn0.step)⟩

end Go.Proofs.Ytnkpcnnbeaomnaa.C
end
