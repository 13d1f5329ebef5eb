import Derived.Test.YtnkpcnnbeaomnaaMO6
import Derived.Test.YtnkpcnnbeaomnaaMO7
import Derived.Test.YtnkpcnnbeaomnaaMO9

section
-- Written by a program of this session (a scratch print over hand-made contracts), out of the translation. Not trusted: Lean checks it.
namespace Go.Proofs.Ytnkpcnnbeaomnaa.C
open Go.RowKit Go.Proofs.YtnkpcnnbeaomnaaW.PrintWords Go.Proofs.YtnkpcnnbeaomnaaW.PrintLast Go.Proofs.YtnkpcnnbeaomnaaW.PrintMore
attribute [local go_sem] max2_int min2_int max_two min_two max_three min_three max_four min_four   -- for this text's walks alone
set_option linter.unusedVariables false
set_option linter.unusedSimpArgs false

attribute [local go_sem high] eqA28
/-! ### match_Match: function 12 -/
def match_Match.l0 : Nat → List (S28) → List (S36) → Int → List (S28) → Int → Int → Option ((List (S36)) × Bool × Int)
  | 0, _, _, _, _, _, _ => none
  | k + 1, x1, x10, x12, x33, x34, x35 => if x35 < x34 then (if 0 ≤ x35 then (if x35 < (x33.length : Int) then ((match_variable.f k ((rd_T28 x33 x35).f0) ((rd_T28 x33 x35).f1)).bind fun t121 => (if t121 = true then ((match_end.f k x1 x12).bind fun t123 => (if 0 ≤ x12 then (if x12 ≤ t123 then (if t123 ≤ (x1.length : Int) then ((some ((x1.take (t123 : Int).toNat).drop (x12 : Int).toNat : List (S28))).bind fun y124 => (if ((rd_T28 x33 x35).f0).size ≤ 8 then (if (bhas x10 ((rd_T28 x33 x35).f0) = true) then (if 0 ≤ (bfind x10 ((rd_T28 x33 x35).f0)) then (if (bfind x10 ((rd_T28 x33 x35).f0)) < (x10.length : Int) then ((api_Cell_37.f k ((rd_T36 x10 (bfind x10 ((rd_T28 x33 x35).f0))).f1) y124).bind fun t129 => (if t129 = true then (match_Match.l0 k x1 x10 (wrap64 (x12 + (y124.length : Int))) x33 x34 (wrap64 (x35 + 1))) else (some (([] : List (S36)), false, 0)))) else (none)) else (none)) else (if x10.length < 3518437208883 then ((clone_Term.f y124).bind fun t130 => (match_Match.l0 k x1 (x10 ++ [(⟨(rd_T28 x33 x35).f0, t130⟩ : S36)]) (wrap64 (x12 + (y124.length : Int))) x33 x34 (wrap64 (x35 + 1)))) else (none))) else (none))) else (none)) else (none)) else (none))) else (if 0 ≤ x12 then (if x12 < (x1.length : Int) then (if (!((((rd_T28 x1 x12).f0).toList) == (((rd_T28 x33 x35).f0).toList)) || (!(((rd_T28 x1 x12).f1) == ((rd_T28 x33 x35).f1)))) = true then (some (([] : List (S36)), false, 0)) else (match_Match.l0 k x1 x10 (wrap64 (x12 + 1)) x33 x34 (wrap64 (x35 + 1)))) else (none)) else (none)))) else (none)) else (none)) else (some (x10, true, 0))
def match_Match.f (k : Nat) (l0 : List (S28)) (l1 : List (S28)) : Option ((List (S36)) × Bool × Int) := (term_Check.f k l0).bind fun t117 => (if t117 = 0 then ((term_Check.f k l1).bind fun t118 => (if t118 = 0 then (match_Match.l0 k l1 ([] : List (S36)) 0 l0 (l0.length : Int) 0) else (some (([] : List (S36)), false, t118)))) else (some (([] : List (S36)), false, t117)))
theorem match_Match.mono_l : ∀ k, (∀ y0 y1 y2 y3 y4 y5, LeO (match_Match.l0 k y0 y1 y2 y3 y4 y5) (match_Match.l0 (k + 1) y0 y1 y2 y3 y4 y5))
  | 0 => fun _ _ _ _ _ _ r h => by simp [match_Match.l0] at h
  | k + 1 => by
    have ih0 := match_Match.mono_l k
    · intro y0 y1 y2 y3 y4 y5
      unfold match_Match.l0
      repeat' first
      | (with_reducible exact ih0 _ _ _ _ _ _)
      | (with_reducible exact api_Cell_37.mono _ _ _)
      | (with_reducible exact match_end.mono _ _ _)
      | (with_reducible exact match_variable.mono _ _ _)
      | (with_reducible exact term_Check.mono _ _)
      | (with_reducible exact LeO.refl _)
      | (with_reducible exact LeO.none _)
      | (with_reducible refine LeO.ite ?_ ?_)
      | (with_reducible refine LeO.bind ?_ (fun _ => ?_))
      | exact ih0 _ _ _ _ _ _
      | exact api_Cell_37.mono _ _ _
      | exact match_end.mono _ _ _
      | exact match_variable.mono _ _ _
      | exact term_Check.mono _ _
      | exact LeO.none _
      | refine LeO.ite ?_ ?_
      | refine LeO.bind ?_ (fun _ => ?_)
theorem match_Match.mono : ∀ a0 a1 k, LeO (match_Match.f k a0 a1) (match_Match.f (k + 1) a0 a1) := by
  intro a0 a1 k
  have ih0 := match_Match.mono_l k
  unfold match_Match.f
  repeat' first
      | (with_reducible exact ih0 _ _ _ _ _ _)
      | (with_reducible exact api_Cell_37.mono _ _ _)
      | (with_reducible exact match_end.mono _ _ _)
      | (with_reducible exact match_variable.mono _ _ _)
      | (with_reducible exact term_Check.mono _ _)
      | (with_reducible exact LeO.refl _)
      | (with_reducible exact LeO.none _)
      | (with_reducible refine LeO.ite ?_ ?_)
      | (with_reducible refine LeO.bind ?_ (fun _ => ?_))
      | exact ih0 _ _ _ _ _ _
      | exact api_Cell_37.mono _ _ _
      | exact match_end.mono _ _ _
      | exact match_variable.mono _ _ _
      | exact term_Check.mono _ _
      | exact LeO.none _
      | refine LeO.ite ?_ ?_
      | refine LeO.bind ?_ (fun _ => ?_)
def match_Match.T23 : Bool × List (List Nat × List Nat) := (true, [([], []), ([], []), ([1], [1]), ([], []), ([3], [3]), ([2, 4], [2, 4]), ([5], [5]), ([0, 6, 4], [0, 6]), ([7, 7, 0, 1, 2, 3, 4, 5, 6, 7], [0, 7])])
def match_Match.B23 : List Nat := [0, 0, 2, 0, 8, 30, 62, 127, 255]
theorem match_Match.tab23 : rtab .any (opsOf Try.f12 23) = match_Match.T23 := by kernel_rfl
theorem match_Match.bits23 : waitsOk match_Match.T23.2 match_Match.B23 = true := by kernel_rfl
set_option maxHeartbeats 8000000 in
set_option maxRecDepth 100000 in
theorem match_Match.calls (k : Nat) (A0 : Option Addr) (c0 : Nat) (l0 : List (S28)) (A1 : Option Addr) (c1 : Nat) (l1 : List (S28)) (r1 : List (S36)) (r2 : Bool) (r3 : Int) (w : World) (hr0 : Kd.C k28 w A0 l0.length l0) (hc0 : l0.length ≤ c0) (hr1 : Kd.C k28 w A1 l1.length l1) (hc1 : l1.length ≤ c1) (h : match_Match.f k l0 l1 = some (r1, r2, r3)) :
    Calls Try.prog 12 #[.slice A0 l0.length c0, .slice A1 l1.length c1] w fun e w' => ∃ v0_ : Value, e = .returned (.tuple #[v0_, .bool r2, .int .i64 r3]) ∧ Kd.S k36 36 w' w.heap.size (fun _ => True) v0_ r1 ∧ Below w.heap.size w w' := by
  have hu28 := Try.underlying28
  have hu36 := Try.underlying36
  have HR0 := Aside0.mk hr0
  have HC0 := Aside0.mk hc0
  clear hr0 hc0
  have HR1 := Aside0.mk hr1
  have HC1 := Aside0.mk hc1
  clear hr1 hc1
  have HB := Aside0.mk (Below.refl w.heap.size w)
  have H : ((term_Check.f k l0).bind fun t117 => (if t117 = 0 then ((term_Check.f k l1).bind fun t118 => (if t118 = 0 then (match_Match.l0 k l1 ([] : List (S36)) 0 l0 (l0.length : Int) 0) else (some (([] : List (S36)), false, t118)))) else (some (([] : List (S36)), false, t117)))) = some (r1, r2, r3) := h
  clear h
  replace H := Option.bind_eq_some_iff.mp H
  obtain ⟨t117, A30, H⟩ := H
  replace H : (if t117 = 0 then ((term_Check.f k l1).bind fun t118 => (if t118 = 0 then (match_Match.l0 k l1 ([] : List (S36)) 0 l0 (l0.length : Int) 0) else (some (([] : List (S36)), false, t118)))) else (some (([] : List (S36)), false, t117))) = some (r1, r2, r3) := H
  have A3 := Aside0.mk A30
  clear A30
  by_cases c4 : t117 = 0
  · rw [if_pos c4] at H
    have c4b0 : (t117 == 0) = true := beq_iff_eq.mpr c4
    have c4b1 : (t117 != 0) = false := bne_eq_false_iff_eq.mpr c4
    clear c4
    replace H := Option.bind_eq_some_iff.mp H
    obtain ⟨t118, A50, H⟩ := H
    replace H : (if t118 = 0 then (match_Match.l0 k l1 ([] : List (S36)) 0 l0 (l0.length : Int) 0) else (some (([] : List (S36)), false, t118))) = some (r1, r2, r3) := H
    have A5 := Aside0.mk A50
    clear A50
    by_cases c6 : t118 = 0
    · rw [if_pos c6] at H
      have c6b0 : (t118 == 0) = true := beq_iff_eq.mpr c6
      have c6b1 : (t118 != 0) = false := bne_eq_false_iff_eq.mpr c6
      clear c6
      have H' := Aside0.mk H
      clear H
      go_enter Try.func12, Try.ntmps12
      go_wp2_with (first | ((with_reducible refine gate_dst (N := 20) rfl ?_); refine lit_event ?hg (N := 20) ?hd (cs := #[.slice A0 l0.length c0, .slice A1 l1.length c1]) (t := 23) (n := 2) ?hr ?_; (case hd => rfl); (case hg => rfl); (case hr => first | (go_simp; done) | (go_simp; rfl)); intro gL hgL wL hL hbL; have HBn := Aside0.mk (below_step (by repeat (first | (with_reducible first | exact HB.out | apply below_alloc | apply pw_below_drewN | apply below_drew1) | exact HB.out)) hbL); clear HB; have HB := HBn; clear HBn; have BLT := Aside0.mk hL; clear hL hbL hgL))
      go_loopg [22] 2 (fun kq v22 w' => ∃ (i_ : Int), v22 = .int .i64 i_ ∧ Aside0 (0 ≤ i_ ∧ i_ ≤ 2 ∧ (kq : Int) + i_ = 2) ∧ Aside0 (w'.heap[gL]? = some (.cells #[.slice A0 l0.length c0, .slice A1 l1.length c1] 23 (0, 0))) ∧ Aside0 (Below w.heap.size w w'))
      case atStart => exact ⟨0, rfl, ⟨by omega⟩, ⟨by (with_reducible repeat (first | refine blk_drewN ?_ _ | refine blk_drew ?_ | refine blk_alloc ?_ _)); exact BLT.out⟩, ⟨(by repeat (first | (with_reducible first | exact HB.out | apply below_alloc | apply pw_below_drewN | apply below_drew1) | exact HB.out))⟩⟩
      case round =>
        clear HB BLT
        obtain ⟨i_, rfl, HI_, BLT, HB⟩ := hrel
        have hi_ := HI_.out
        rcases (show i_ = 0 ∨ i_ = 1 ∨ i_ = 2 by omega) with h_ | h_ | h_
        · subst h_
          obtain rfl : gk = 2 := by omega
          clear hi_ HI_
          have hcL_ : wr.cell? ⟨gL, 0, none⟩ = _ := (blk_cell BLT.out 0).trans rfl
          have hfL_ := blk_frozen BLT.out 0
          go_wp2_with (first | ((with_reducible refine gate_callee (f := 33) rfl ?_); refine goesL_ (some 27) rfl rfl Try.func33 (by kernel_rfl) rfl #[.slice A0 l0.length c0] rfl (by (try simp only [List.map_toArray, List.map_cons, List.map_nil]); first | done | rfl | (simp only [List.length_drop, List.length_take]; rfl)) ?_; (with_reducible refine (term_Check.calls k _ _ l0 t117 _ ?side1 ?side2 A3.out).mono ?_); (case side1 => repeat (first | exact (Kd.C_below HR0.out HB.out) | (with_reducible refine Kd.C_alloc ?_ _) | (with_reducible refine Kd.C_drewN ?_ _) | (with_reducible refine Kd.C_drew ?_))); (case side2 => exact HC0.out); rintro e w7 ⟨rfl, hb⟩; refine ⟨_, rfl, ?_⟩; have BLn := Aside0.mk (blk_below (g := gL) (o := (.cells #[.slice A0 l0.length c0, .slice A1 l1.length c1] 23 (0, 0))) (by (with_reducible repeat (first | refine blk_drewN ?_ _ | refine blk_drew ?_ | refine blk_alloc ?_ _)); exact BLT.out) hb); clear BLT; have BLT := BLn; clear BLn; have n0_ := Aside0.mk (below_step (by repeat (first | (with_reducible first | exact HB.out | apply below_alloc | apply pw_below_drewN | apply below_drew1) | exact HB.out)) hb); clear HB; have HB := n0_; clear n0_; (try clear hb); (try clear hb2); (try clear hk); (try clear hi)))
          go_roundg 1
          case measure => omega
          case rel => exact ⟨1, rfl, ⟨by omega⟩, ⟨by (with_reducible repeat (first | refine blk_drewN ?_ _ | refine blk_drew ?_ | refine blk_alloc ?_ _)); exact BLT.out⟩, ⟨(by repeat (first | (with_reducible first | exact HB.out | apply below_alloc | apply pw_below_drewN | apply below_drew1) | exact HB.out))⟩⟩
        · subst h_
          obtain rfl : gk = 1 := by omega
          clear hi_ HI_
          have hcL_ : wr.cell? ⟨gL, 1, none⟩ = _ := (blk_cell BLT.out 1).trans rfl
          have hfL_ := blk_frozen BLT.out 1
          go_wp2_with (first | ((with_reducible refine gate_callee (f := 33) rfl ?_); refine goesL_ (some 27) rfl rfl Try.func33 (by kernel_rfl) rfl #[.slice A1 l1.length c1] rfl (by (try simp only [List.map_toArray, List.map_cons, List.map_nil]); first | done | rfl | (simp only [List.length_drop, List.length_take]; rfl)) ?_; (with_reducible refine (term_Check.calls k _ _ l1 t118 _ ?side1 ?side2 A5.out).mono ?_); (case side1 => repeat (first | exact (Kd.C_below HR1.out HB.out) | (with_reducible refine Kd.C_alloc ?_ _) | (with_reducible refine Kd.C_drewN ?_ _) | (with_reducible refine Kd.C_drew ?_))); (case side2 => exact HC1.out); rintro e w8 ⟨rfl, hb⟩; refine ⟨_, rfl, ?_⟩; have BLn := Aside0.mk (blk_below (g := gL) (o := (.cells #[.slice A0 l0.length c0, .slice A1 l1.length c1] 23 (0, 0))) (by (with_reducible repeat (first | refine blk_drewN ?_ _ | refine blk_drew ?_ | refine blk_alloc ?_ _)); exact BLT.out) hb); clear BLT; have BLT := BLn; clear BLn; have n0_ := Aside0.mk (below_step (by repeat (first | (with_reducible first | exact HB.out | apply below_alloc | apply pw_below_drewN | apply below_drew1) | exact HB.out)) hb); clear HB; have HB := n0_; clear n0_; (try clear hb); (try clear hb2); (try clear hk); (try clear hi)))
          go_roundg 0
          case measure => omega
          case rel => exact ⟨2, rfl, ⟨by omega⟩, ⟨by (with_reducible repeat (first | refine blk_drewN ?_ _ | refine blk_drew ?_ | refine blk_alloc ?_ _)); exact BLT.out⟩, ⟨(by repeat (first | (with_reducible first | exact HB.out | apply below_alloc | apply pw_below_drewN | apply below_drew1) | exact HB.out))⟩⟩
        · subst h_
          clear hi_ HI_ BLT
          go_wp2_with (first | ((with_reducible refine gate_dst (N := 32) rfl ?_); refine map_made rfl rfl ?_; intro gB hgB wM hM hbM; have GM := Aside0.mk (show w.heap.size ≤ gB by rw [hgB]; exact below_size (by repeat (first | (with_reducible first | exact HB.out | apply below_alloc | apply pw_below_drewN | apply below_drew1) | exact HB.out))); have HBn := Aside0.mk (below_step (by repeat (first | (with_reducible first | exact HB.out | apply below_alloc | apply pw_below_drewN | apply below_drew1) | exact HB.out)) hbM); clear HB; have HB := HBn; clear HBn; have HM := Aside0.mk hM; clear hM hbM hgB))
          go_loopg [10, 12, 35] k (fun kq v10 v12 v35 w' => ∃ (x10_1 : List (S36)) (x12_1 : Int) (x35_1 : Int), v12 = .int .i64 x12_1 ∧ v35 = .int .i64 x35_1 ∧ Aside0 (match_Match.l0 kq l1 x10_1 x12_1 l0 (l0.length : Int) x35_1 = some (r1, r2, r3)) ∧ Aside0 (kq ≤ k) ∧ Aside0 (Kd.S k36 36 w' w.heap.size (fun _ => True) v10 x10_1) ∧ Aside0 (Below w.heap.size w w') ∧ Aside0 (IsM w' gB x10_1))
          case atStart => exact ⟨(([] : List (S36))), (0), (0), (by first | rfl | (simp; done) | (simp [*]; done)), (by first | rfl | (simp; done) | (simp [*]; done)), H', ⟨Nat.le_refl _⟩, ⟨by first | exact Kd.S_nil _ _ _ _ _ | exact Kd.N_nil _ _ _ _ _ | exact Kd.V_nil _ _ _ _ _ | exact Kd.Q_nil _ _ _ _ _ | exact Kd.R_nil _ _ _ _ _⟩, ⟨by repeat (first | (with_reducible first | exact HB.out | apply below_alloc | apply pw_below_drewN | apply below_drew1) | exact HB.out)⟩, ⟨show IsM _ gB [] from (by repeat (first | (with_reducible exact HM.out) | (with_reducible apply IsM.alloc) | (with_reducible apply IsM.drewN) | (with_reducible apply IsM.drew) | refine IsM.set ?_ NM.out _))⟩⟩
          case round =>
            clear H'
            try clear c1
            try clear p2
            try clear c3
            try clear c4
            try clear c4b0
            try clear c4b1
            try clear c6
            try clear c6b0
            try clear c6b1
            obtain ⟨x10_1, x12_1, x35_1, rfl, rfl, HA, HK1, HO_10, HB, HM⟩ := hrel
            cases gk with
            | zero => exact absurd HA.out (by simp [match_Match.l0])
            | succ k1 =>
              have H := HA.out
              clear HA
              simp only [match_Match.l0] at H
              by_cases c9 : x35_1 < (l0.length : Int)
              · rw [if_pos c9] at H
                have c9b0 : decide (x35_1 < (l0.length : Int)) = true := decide_eq_true c9
                clear c9
                by_cases c10 : 0 ≤ x35_1
                · rw [if_pos c10] at H
                  have c10b0 : decide (0 ≤ x35_1) = true := decide_eq_true c10
                  clear c10
                  by_cases c11 : x35_1 < (l0.length : Int)
                  · rw [if_pos c11] at H
                    have c11b0 : decide (x35_1 < (l0.length : Int)) = true := decide_eq_true c11
                    clear c11
                    replace H := Option.bind_eq_some_iff.mp H
                    obtain ⟨t121, A120, H⟩ := H
                    replace H : (if t121 = true then ((match_end.f k1 l1 x12_1).bind fun t123 => (if 0 ≤ x12_1 then (if x12_1 ≤ t123 then (if t123 ≤ (l1.length : Int) then ((some ((l1.take (t123 : Int).toNat).drop (x12_1 : Int).toNat : List (S28))).bind fun y124 => (if ((rd_T28 l0 x35_1).f0).size ≤ 8 then (if (bhas x10_1 ((rd_T28 l0 x35_1).f0) = true) then (if 0 ≤ (bfind x10_1 ((rd_T28 l0 x35_1).f0)) then (if (bfind x10_1 ((rd_T28 l0 x35_1).f0)) < (x10_1.length : Int) then ((api_Cell_37.f k1 ((rd_T36 x10_1 (bfind x10_1 ((rd_T28 l0 x35_1).f0))).f1) y124).bind fun t129 => (if t129 = true then (match_Match.l0 k1 l1 x10_1 (wrap64 (x12_1 + (y124.length : Int))) l0 (l0.length : Int) (wrap64 (x35_1 + 1))) else (some (([] : List (S36)), false, 0)))) else (none)) else (none)) else (if x10_1.length < 3518437208883 then ((clone_Term.f y124).bind fun t130 => (match_Match.l0 k1 l1 (x10_1 ++ [(⟨(rd_T28 l0 x35_1).f0, t130⟩ : S36)]) (wrap64 (x12_1 + (y124.length : Int))) l0 (l0.length : Int) (wrap64 (x35_1 + 1)))) else (none))) else (none))) else (none)) else (none)) else (none))) else (if 0 ≤ x12_1 then (if x12_1 < (l1.length : Int) then (if (!((((rd_T28 l1 x12_1).f0).toList) == (((rd_T28 l0 x35_1).f0).toList)) || (!(((rd_T28 l1 x12_1).f1) == ((rd_T28 l0 x35_1).f1)))) = true then (some (([] : List (S36)), false, 0)) else (match_Match.l0 k1 l1 x10_1 (wrap64 (x12_1 + 1)) l0 (l0.length : Int) (wrap64 (x35_1 + 1)))) else (none)) else (none))) = some (r1, r2, r3) := H
                    have A12 := Aside0.mk A120
                    clear A120
                    by_cases c13 : t121 = true
                    · subst c13
                      have H1 : ((match_end.f k1 l1 x12_1).bind fun t123 => (if 0 ≤ x12_1 then (if x12_1 ≤ t123 then (if t123 ≤ (l1.length : Int) then ((some ((l1.take (t123 : Int).toNat).drop (x12_1 : Int).toNat : List (S28))).bind fun y124 => (if ((rd_T28 l0 x35_1).f0).size ≤ 8 then (if (bhas x10_1 ((rd_T28 l0 x35_1).f0) = true) then (if 0 ≤ (bfind x10_1 ((rd_T28 l0 x35_1).f0)) then (if (bfind x10_1 ((rd_T28 l0 x35_1).f0)) < (x10_1.length : Int) then ((api_Cell_37.f k1 ((rd_T36 x10_1 (bfind x10_1 ((rd_T28 l0 x35_1).f0))).f1) y124).bind fun t129 => (if t129 = true then (match_Match.l0 k1 l1 x10_1 (wrap64 (x12_1 + (y124.length : Int))) l0 (l0.length : Int) (wrap64 (x35_1 + 1))) else (some (([] : List (S36)), false, 0)))) else (none)) else (none)) else (if x10_1.length < 3518437208883 then ((clone_Term.f y124).bind fun t130 => (match_Match.l0 k1 l1 (x10_1 ++ [(⟨(rd_T28 l0 x35_1).f0, t130⟩ : S36)]) (wrap64 (x12_1 + (y124.length : Int))) l0 (l0.length : Int) (wrap64 (x35_1 + 1)))) else (none))) else (none))) else (none)) else (none)) else (none))) = some (r1, r2, r3) := by rw [if_pos rfl] at H; exact H
                      clear H
                      have H := H1
                      clear H1
                      replace H := Option.bind_eq_some_iff.mp H
                      obtain ⟨t123, A140, H⟩ := H
                      replace H : (if 0 ≤ x12_1 then (if x12_1 ≤ t123 then (if t123 ≤ (l1.length : Int) then ((some ((l1.take (t123 : Int).toNat).drop (x12_1 : Int).toNat : List (S28))).bind fun y124 => (if ((rd_T28 l0 x35_1).f0).size ≤ 8 then (if (bhas x10_1 ((rd_T28 l0 x35_1).f0) = true) then (if 0 ≤ (bfind x10_1 ((rd_T28 l0 x35_1).f0)) then (if (bfind x10_1 ((rd_T28 l0 x35_1).f0)) < (x10_1.length : Int) then ((api_Cell_37.f k1 ((rd_T36 x10_1 (bfind x10_1 ((rd_T28 l0 x35_1).f0))).f1) y124).bind fun t129 => (if t129 = true then (match_Match.l0 k1 l1 x10_1 (wrap64 (x12_1 + (y124.length : Int))) l0 (l0.length : Int) (wrap64 (x35_1 + 1))) else (some (([] : List (S36)), false, 0)))) else (none)) else (none)) else (if x10_1.length < 3518437208883 then ((clone_Term.f y124).bind fun t130 => (match_Match.l0 k1 l1 (x10_1 ++ [(⟨(rd_T28 l0 x35_1).f0, t130⟩ : S36)]) (wrap64 (x12_1 + (y124.length : Int))) l0 (l0.length : Int) (wrap64 (x35_1 + 1)))) else (none))) else (none))) else (none)) else (none)) else (none)) = some (r1, r2, r3) := H
                      have A14 := Aside0.mk A140
                      clear A140
                      by_cases c15 : 0 ≤ x12_1
                      · rw [if_pos c15] at H
                        have c15b0 := eq_true c15
                        have c15b1 : decide (0 ≤ x12_1) = true := decide_eq_true c15
                        clear c15
                        by_cases c16 : x12_1 ≤ t123
                        · rw [if_pos c16] at H
                          have c16b0 := eq_true c16
                          have c16b1 : decide (x12_1 ≤ t123) = true := decide_eq_true c16
                          clear c16
                          by_cases c17 : t123 ≤ (l1.length : Int)
                          · rw [if_pos c17] at H
                            have c17b0 := eq_true c17
                            have c17b1 : decide (t123 ≤ (l1.length : Int)) = true := decide_eq_true c17
                            clear c17
                            obtain ⟨y124, hy124⟩ : ∃ y_ : List (S28), y_ = ((l1.take (t123 : Int).toNat).drop (x12_1 : Int).toNat) := ⟨_, rfl⟩
                            replace H : (if ((rd_T28 l0 x35_1).f0).size ≤ 8 then (if (bhas x10_1 ((rd_T28 l0 x35_1).f0) = true) then (if 0 ≤ (bfind x10_1 ((rd_T28 l0 x35_1).f0)) then (if (bfind x10_1 ((rd_T28 l0 x35_1).f0)) < (x10_1.length : Int) then ((api_Cell_37.f k1 ((rd_T36 x10_1 (bfind x10_1 ((rd_T28 l0 x35_1).f0))).f1) y124).bind fun t129 => (if t129 = true then (match_Match.l0 k1 l1 x10_1 (wrap64 (x12_1 + (y124.length : Int))) l0 (l0.length : Int) (wrap64 (x35_1 + 1))) else (some (([] : List (S36)), false, 0)))) else (none)) else (none)) else (if x10_1.length < 3518437208883 then ((clone_Term.f y124).bind fun t130 => (match_Match.l0 k1 l1 (x10_1 ++ [(⟨(rd_T28 l0 x35_1).f0, t130⟩ : S36)]) (wrap64 (x12_1 + (y124.length : Int))) l0 (l0.length : Int) (wrap64 (x35_1 + 1)))) else (none))) else (none)) = some (r1, r2, r3) := by first | (rw [hy124]; with_reducible exact H) | (have H2_ := (Option.bind_some _ _).symm.trans H; rw [hy124]; with_reducible exact H2_) | (have H2_ := (Option.bind_some _ _).symm.trans H; with_reducible exact H2_) | with_reducible exact H | (rw [hy124]; exact H) | exact H
                            have Ny124 := Aside0.mk hy124
                            clear hy124
                            by_cases c18 : ((rd_T28 l0 x35_1).f0).size ≤ 8
                            · rw [if_pos c18] at H
                              have c18b0 := eq_true c18
                              have c18b1 : decide (((rd_T28 l0 x35_1).f0).size ≤ 8) = true := decide_eq_true c18
                              clear c18
                              by_cases c19 : (bhas x10_1 ((rd_T28 l0 x35_1).f0) = true)
                              · rw [if_pos c19] at H
                                have c19b0 : bhas x10_1 ((rd_T28 l0 x35_1).f0) = true := c19
                                clear c19
                                by_cases c20 : 0 ≤ (bfind x10_1 ((rd_T28 l0 x35_1).f0))
                                · rw [if_pos c20] at H
                                  have c20b0 : decide (0 ≤ (bfind x10_1 ((rd_T28 l0 x35_1).f0))) = true := decide_eq_true c20
                                  clear c20
                                  by_cases c21 : (bfind x10_1 ((rd_T28 l0 x35_1).f0)) < (x10_1.length : Int)
                                  · rw [if_pos c21] at H
                                    have c21b0 : decide ((bfind x10_1 ((rd_T28 l0 x35_1).f0)) < (x10_1.length : Int)) = true := decide_eq_true c21
                                    clear c21
                                    replace H := Option.bind_eq_some_iff.mp H
                                    obtain ⟨t129, A220, H⟩ := H
                                    replace H : (if t129 = true then (match_Match.l0 k1 l1 x10_1 (wrap64 (x12_1 + (y124.length : Int))) l0 (l0.length : Int) (wrap64 (x35_1 + 1))) else (some (([] : List (S36)), false, 0))) = some (r1, r2, r3) := H
                                    have A22 := Aside0.mk A220
                                    clear A220
                                    by_cases c23 : t129 = true
                                    · subst c23
                                      have H1 : (match_Match.l0 k1 l1 x10_1 (wrap64 (x12_1 + (y124.length : Int))) l0 (l0.length : Int) (wrap64 (x35_1 + 1))) = some (r1, r2, r3) := by rw [if_pos rfl] at H; exact H
                                      clear H
                                      have H := H1
                                      clear H1
                                      have H' := Aside0.mk H
                                      clear H
                                      have p119 : 0 ≤ (x35_1 : Int) := of_decide_eq_true (by first | (with_reducible assumption) | assumption)
                                      have q119 : x35_1 < (l0.length : Int) := of_decide_eq_true (by first | (with_reducible assumption) | assumption)
                                      obtain ⟨ad119, e119, hx119_0, hx119_1⟩ := at_T28 HR0.out x35_1 p119 q119
                                      cases e119
                                      replace hx119_0 := (HB.out.cell (World.block_lt_of_cell? w _ hx119_0)).trans hx119_0
                                      replace hx119_1 := (HB.out.cell (World.block_lt_of_cell? w _ hx119_1)).trans hx119_1
                                      replace p119 := eq_true p119
                                      replace q119 := eq_true q119
                                      go_wp2_with (first | ((with_reducible refine gate_dst (N := 14) rfl ?_); refine box_event ?hg (N := 14) ?hd (cs := #[.string (⟨#[]⟩ : ByteArray), .int .i64 0]) (t := 28) ?hr ?_; (case hd => rfl); (case hg => rfl); (case hr => first | (go_simp; done) | (go_simp; rfl)); intro gb120 hg w24 hbox hb; have HMn := Aside0.mk (IsM.below (B := gB) (l := x10_1) (by repeat (first | (with_reducible exact HM.out) | (with_reducible apply IsM.alloc) | (with_reducible apply IsM.drewN) | (with_reducible apply IsM.drew) | refine IsM.set ?_ NM.out _)) hb); clear HM; have HM := HMn; clear HMn; have NM := Aside0.mk (IsM.ne_cells HM.out hbox); have n0_ := Aside0.mk (Kd.S_below (Kd.S_elderB (by (with_reducible repeat (first | apply Kd.S_alloc | apply Kd.S_drewN | apply Kd.S_drew)); exact HO_10.out) gb120 (Nat.le_of_eq hg.symm)) hb); have n1_ := Aside0.mk (below_step (by repeat (first | (with_reducible first | exact HB.out | apply below_alloc | apply pw_below_drewN | apply below_drew1) | exact HB.out)) hb); have n2_ := Aside0.mk (hbox); have n3_ := Aside0.mk ((by rw [hg]; exact (below_size (by repeat (first | (with_reducible first | exact HB.out | apply below_alloc | apply pw_below_drewN | apply below_drew1) | exact HB.out))) : w.heap.size ≤ gb120)); have n4_ := Aside0.mk ((by rw [hg]; exact (below_size (by repeat (first | (with_reducible first | exact HB.out | apply below_alloc | apply pw_below_drewN | apply below_drew1) | exact HB.out))) : w.heap.size ≤ gb120)); clear HO_10; clear HB; have HO_10 := n0_; have HB := n1_; have BK120 := n2_; have GW120 := n3_; have GE120 := n4_; clear n0_ n1_ n2_ n3_ n4_; clear hb hbox hg; have hcz25_0 : w24.cell? ⟨gb120, 0, none⟩ = some (.string (⟨#[]⟩ : ByteArray)) := (blk_cell BK120.out 0).trans rfl; have hcz25_1 : w24.cell? ⟨gb120, 1, none⟩ = some (.int .i64 0) := (blk_cell BK120.out 1).trans rfl; have hfz25_0 := blk_frozen BK120.out 0; have hfz25_1 := blk_frozen BK120.out 1) | ((with_reducible refine gate_callee (f := 34) rfl ?_); refine goesL_ (some 40) rfl rfl Try.func34 (by kernel_rfl) rfl #[.agg #[.string ((rd_T28 l0 x35_1).f0), .int .i64 ((rd_T28 l0 x35_1).f1)]] rfl (by (try simp only [List.map_toArray, List.map_cons, List.map_nil]); first | done | rfl | (simp only [List.length_drop, List.length_take]; rfl)) ?_; (with_reducible refine (match_variable.calls k1 ((rd_T28 l0 x35_1).f0) ((rd_T28 l0 x35_1).f1) true _ A12.out).mono ?_); rintro e w26 ⟨rfl, hb⟩; refine ⟨_, rfl, ?_⟩; have HMn := Aside0.mk (IsM.below (B := gB) (l := x10_1) (by repeat (first | (with_reducible exact HM.out) | (with_reducible apply IsM.alloc) | (with_reducible apply IsM.drewN) | (with_reducible apply IsM.drew) | refine IsM.set ?_ NM.out _)) hb); clear HM; have HM := HMn; clear HMn; have n0_ := Aside0.mk (Kd.S_below (by (with_reducible repeat (first | apply Kd.S_alloc | apply Kd.S_drewN | apply Kd.S_drew)); exact (Kd.S_mono (Kd.S_far (p := ⟨gb120, 1, none⟩) (Kd.S_far (p := ⟨gb120, 0, none⟩) (Kd.S_mono HO_10.out (fun k_ hk => (⟨hk, hk.2⟩ : _ ∧ k_ ≠ gb120))) (fun _ hk => hk.2) (.string ((rd_T28 l0 x35_1).f0))) (fun _ hk => hk.2) (.int .i64 ((rd_T28 l0 x35_1).f1))) (fun _ h_ => h_.1))) hb); have n1_ := Aside0.mk (blk_below (g := gb120) (o := .cells #[.string ((rd_T28 l0 x35_1).f0), .int .i64 ((rd_T28 l0 x35_1).f1)] 28 (0, 0)) (by (with_reducible repeat (first | refine blk_drewN ?_ _ | refine blk_drew ?_ | refine blk_alloc ?_ _)); refine blk_put (cs := #[.string ((rd_T28 l0 x35_1).f0), .int .i64 0]) ?_ 1 _ rfl; (with_reducible repeat (first | refine blk_drewN ?_ _ | refine blk_drew ?_ | refine blk_alloc ?_ _)); refine blk_put (cs := #[.string (⟨#[]⟩ : ByteArray), .int .i64 0]) ?_ 0 _ rfl; (with_reducible repeat (first | refine blk_drewN ?_ _ | refine blk_drew ?_ | refine blk_alloc ?_ _)); exact BK120.out) hb); have n2_ := Aside0.mk (below_step (by repeat (first | (with_reducible first | exact HB.out | apply below_alloc | apply pw_below_drewN | apply below_drew1 | refine below_set ?_ GE120.out) | exact HB.out)) hb); clear HO_10; clear BK120; clear HB; have HO_10 := n0_; have BK120 := n1_; have HB := n2_; clear n0_ n1_ n2_; (try clear hb); (try clear hb2); (try clear hk); (try clear hi)) | ((with_reducible refine gate_callee (f := 35) rfl ?_); refine goesL_ (some 54) rfl rfl Try.func35 (by kernel_rfl) rfl #[.slice A1 l1.length c1, .int .i64 x12_1] rfl (by (try simp only [List.map_toArray, List.map_cons, List.map_nil]); first | done | rfl | (simp only [List.length_drop, List.length_take]; rfl)) ?_; (with_reducible refine (match_end.calls k1 _ _ l1 x12_1 t123 _ ?side1 ?side2 A14.out).mono ?_); (case side1 => repeat (first | exact (Kd.C_below HR1.out HB.out) | (with_reducible refine Kd.C_alloc ?_ _) | (with_reducible refine Kd.C_drewN ?_ _) | (with_reducible refine Kd.C_drew ?_))); (case side2 => exact HC1.out); rintro e w' ⟨rfl, ⟨nd, rfl⟩⟩; refine ⟨_, rfl, ?_⟩; have q27 : (t123 : Int) ≤ ((l1.length : Int) : Int) := of_decide_eq_true (by first | (with_reducible assumption) | assumption); obtain ⟨i027, hi027, _, hsz27, _⟩ := info_parts info28; have hroom27 : l1.length ≤ c1 := HC1.out; have hC27 : Kd.C k28 _ A1 l1.length l1 := HR1.out; have ql27 : (x12_1 : Int) ≤ (t123 : Int) := of_decide_eq_true (by first | (with_reducible assumption) | assumption); have q027 : (0 : Int) ≤ (x12_1 : Int) := of_decide_eq_true (by first | (with_reducible assumption) | assumption); have hcut27 := cut_mid (P := Try.prog) 23 28 .i64 .i64 Try.underlying23 hi027 2 hsz27 A1 l1.length c1 x12_1 t123 q027 ql27 q27 hroom27; have hr27 := Kd.C_mid (lo := (x12_1 : Int).toNat) (hi := (t123 : Int).toNat) (c := c1) hC27 (by omega) (by omega) hroom27; obtain ⟨A27, hA27⟩ : ∃ z_, z_ = (if c1 = (x12_1 : Int).toNat then A1 else (A1 : Option Addr).map (·.add ((x12_1 : Int).toNat * 2))) := ⟨_, rfl⟩; obtain ⟨c27, hc27⟩ : ∃ z_, z_ = c1 - (x12_1 : Int).toNat := ⟨_, rfl⟩; have hy27 : y124.length = (t123 : Int).toNat - (x12_1 : Int).toNat := (by rw [Ny124.out, List.length_drop, List.length_take] <;> omega); rw [show ((l1).take (t123 : Int).toNat).drop (x12_1 : Int).toNat = y124 from Ny124.out.symm] at hr27; replace hr27 : Kd.C k28 _ A27 y124.length y124 := (by rw [hA27]; exact hr27); rw [← hy27, ← hA27, ← hc27] at hcut27; have HR127 := Aside0.mk hr27; have HC127 := Aside0.mk (show y124.length ≤ c27 from by rw [hy27, hc27]; exact Nat.sub_le_sub_right (Nat.le_trans (by omega) hroom27) _); clear hr27 hC27 hroom27 hi027 hsz27 hc27; have KY27 := Aside0.mk hy27; have KA27 := Aside0.mk hA27; clear hy27 hA27; replace q27 := eq_true q27; have hcz28_0 : w26.cell? ⟨gb120, 0, none⟩ = some (.string ((rd_T28 l0 x35_1).f0)) := (blk_cell BK120.out 0).trans rfl; have hcz28_1 : w26.cell? ⟨gb120, 1, none⟩ = some (.int .i64 ((rd_T28 l0 x35_1).f1)) := (blk_cell BK120.out 1).trans rfl; have hfz28_0 := blk_frozen BK120.out 0; have hfz28_1 := blk_frozen BK120.out 1; obtain ⟨Ao29, co29, eo29⟩ := Kd.S_slice HO_10.out; subst eo29; have p128 : 0 ≤ ((bfind x10_1 ((rd_T28 l0 x35_1).f0)) : Int) := of_decide_eq_true (by first | (with_reducible assumption) | assumption); have q128 : (bfind x10_1 ((rd_T28 l0 x35_1).f0)) < (x10_1.length : Int) := of_decide_eq_true (by first | (with_reducible assumption) | assumption); obtain ⟨ad128, A128_1, c128_1, e128, hx128_0, hx128_1, hl128_1, hi128_1⟩ := at_T36 (Kd.S_reads' HO_10.out).2.2 (bfind x10_1 ((rd_T28 l0 x35_1).f0)) p128 q128; cases e128; obtain ⟨ce128, hce128, hMe128, hcc128⟩ := Kd.S_get HO_10.out z36 (bfind x10_1 ((rd_T28 l0 x35_1).f0)) p128 (by first | exact q128 | exact of_decide_eq_true (by first | (with_reducible assumption) | assumption) | (have e_ := (Kd.S_reads' HO_10.out).1; omega)); obtain ⟨ve128_1, rfl, ge128_1⟩ := k36_openM hMe128; have hv128_1 := hcc128 1 _ rfl; rw [add_field _ _ 1 (by omega)] at hv128_1; replace hv128_1 := Option.some.inj (hv128_1.symm.trans hx128_1); rw [hv128_1] at ge128_1; have HL128_1 := Aside0.mk (show Kd.R k28 28 _ _ _ _ ((rd_T36 x10_1 (bfind x10_1 ((rd_T28 l0 x35_1).f0))).f1) from ge128_1); clear hv128_1 ge128_1; clear hcc128 hce128; have HR128_1 := Aside0.mk hi128_1; have HC128_1 := Aside0.mk hl128_1; clear hi128_1 hl128_1; replace p128 := eq_true p128; replace q128 := eq_true q128) | ((with_reducible refine gate_callee (f := 37) rfl ?_); refine goesL_ (some 90) rfl rfl Try.func37 (by kernel_rfl) rfl #[.slice A128_1 ((rd_T36 x10_1 (bfind x10_1 ((rd_T28 l0 x35_1).f0))).f1).length c128_1, .slice A27 y124.length c27] rfl (by (try simp only [List.map_toArray, List.map_cons, List.map_nil]); first | done | rfl | (simp only [List.length_drop, List.length_take]; rfl)) ?_; (with_reducible refine (api_Cell_37.calls k1 _ _ ((rd_T36 x10_1 (bfind x10_1 ((rd_T28 l0 x35_1).f0))).f1) _ _ y124 true _ ?side1 ?side2 ?side3 ?side4 A22.out).mono ?_); (case side1 => repeat (first | exact (by repeat (first | (with_reducible exact HR128_1.out) | (with_reducible refine Kd.C_alloc ?_ _) | (with_reducible refine Kd.C_drewN ?_ _) | (with_reducible refine Kd.C_drew ?_) | exact HR128_1.out)) | (with_reducible refine Kd.C_alloc ?_ _) | (with_reducible refine Kd.C_drewN ?_ _) | (with_reducible refine Kd.C_drew ?_))); (case side2 => exact HC128_1.out); (case side3 => repeat (first | exact (Kd.C_below HR127.out (by repeat (first | (with_reducible first | exact HB.out | apply below_alloc | apply pw_below_drewN | apply below_drew1 | refine below_set ?_ GE120.out) | exact HB.out))) | (with_reducible refine Kd.C_alloc ?_ _) | (with_reducible refine Kd.C_drewN ?_ _) | (with_reducible refine Kd.C_drew ?_))); (case side4 => exact HC127.out); rintro e w' ⟨rfl, ⟨nd, rfl⟩⟩; refine ⟨_, rfl, ?_⟩) | ((with_reducible refine gate_dst (N := 64) rfl ?_); refine map_look rfl _ _ rfl gB x10_1 ((rd_T28 l0 x35_1).f0) rfl (by repeat (first | (with_reducible exact HM.out) | (with_reducible apply IsM.alloc) | (with_reducible apply IsM.drewN) | (with_reducible apply IsM.drew) | refine IsM.set ?_ NM.out _)) (of_decide_eq_true (by first | (with_reducible assumption) | assumption)) rfl ?_))
                                      go_roundg k1
                                      case measure => have := HK1.out; omega
                                      case rel => exact ⟨(x10_1), (wrap64 (x12_1 + (y124.length : Int))), (wrap64 (x35_1 + 1)), (by first | rfl | (simp; done) | (simp [*]; done)), (by first | rfl | (simp; done) | (simp [*]; done)), H', ⟨by have := HK1.out; omega⟩, ⟨by (with_reducible repeat (first | apply Kd.S_alloc | apply Kd.S_drewN | apply Kd.S_drew)); exact Kd.S_mono HO_10.out (fun _ hk => trivial)⟩, ⟨by repeat (first | (with_reducible first | exact HB.out | apply below_alloc | apply pw_below_drewN | apply below_drew1 | refine below_set ?_ GE120.out) | exact HB.out)⟩, ⟨(by repeat (first | (with_reducible exact HM.out) | (with_reducible apply IsM.alloc) | (with_reducible apply IsM.drewN) | (with_reducible apply IsM.drew) | refine IsM.set ?_ NM.out _))⟩⟩
                                    · replace c23 := Bool.eq_false_iff.mpr c23
                                      subst c23
                                      have H1 : (some (([] : List (S36)), false, 0)) = some (r1, r2, r3) := by rw [if_neg (show ¬ (false = true) by decide)] at H; exact H
                                      clear H
                                      have H := H1
                                      clear H1
                                      simp only [Option.some.injEq, Prod.mk.injEq] at H
                                      obtain ⟨rfl, rfl, rfl⟩ := H
                                      have p119 : 0 ≤ (x35_1 : Int) := of_decide_eq_true (by first | (with_reducible assumption) | assumption)
                                      have q119 : x35_1 < (l0.length : Int) := of_decide_eq_true (by first | (with_reducible assumption) | assumption)
                                      obtain ⟨ad119, e119, hx119_0, hx119_1⟩ := at_T28 HR0.out x35_1 p119 q119
                                      cases e119
                                      replace hx119_0 := (HB.out.cell (World.block_lt_of_cell? w _ hx119_0)).trans hx119_0
                                      replace hx119_1 := (HB.out.cell (World.block_lt_of_cell? w _ hx119_1)).trans hx119_1
                                      replace p119 := eq_true p119
                                      replace q119 := eq_true q119
                                      go_wp2_with (first | ((with_reducible refine gate_dst (N := 14) rfl ?_); refine box_event ?hg (N := 14) ?hd (cs := #[.string (⟨#[]⟩ : ByteArray), .int .i64 0]) (t := 28) ?hr ?_; (case hd => rfl); (case hg => rfl); (case hr => first | (go_simp; done) | (go_simp; rfl)); intro gb120 hg w30 hbox hb; have HMn := Aside0.mk (IsM.below (B := gB) (l := x10_1) (by repeat (first | (with_reducible exact HM.out) | (with_reducible apply IsM.alloc) | (with_reducible apply IsM.drewN) | (with_reducible apply IsM.drew) | refine IsM.set ?_ NM.out _)) hb); clear HM; have HM := HMn; clear HMn; have NM := Aside0.mk (IsM.ne_cells HM.out hbox); have n0_ := Aside0.mk (Kd.S_below (Kd.S_elderB (by (with_reducible repeat (first | apply Kd.S_alloc | apply Kd.S_drewN | apply Kd.S_drew)); exact HO_10.out) gb120 (Nat.le_of_eq hg.symm)) hb); have n1_ := Aside0.mk (below_step (by repeat (first | (with_reducible first | exact HB.out | apply below_alloc | apply pw_below_drewN | apply below_drew1) | exact HB.out)) hb); have n2_ := Aside0.mk (hbox); have n3_ := Aside0.mk ((by rw [hg]; exact (below_size (by repeat (first | (with_reducible first | exact HB.out | apply below_alloc | apply pw_below_drewN | apply below_drew1) | exact HB.out))) : w.heap.size ≤ gb120)); have n4_ := Aside0.mk ((by rw [hg]; exact (below_size (by repeat (first | (with_reducible first | exact HB.out | apply below_alloc | apply pw_below_drewN | apply below_drew1) | exact HB.out))) : w.heap.size ≤ gb120)); clear HO_10; clear HB; have HO_10 := n0_; have HB := n1_; have BK120 := n2_; have GW120 := n3_; have GE120 := n4_; clear n0_ n1_ n2_ n3_ n4_; clear hb hbox hg; have hcz31_0 : w30.cell? ⟨gb120, 0, none⟩ = some (.string (⟨#[]⟩ : ByteArray)) := (blk_cell BK120.out 0).trans rfl; have hcz31_1 : w30.cell? ⟨gb120, 1, none⟩ = some (.int .i64 0) := (blk_cell BK120.out 1).trans rfl; have hfz31_0 := blk_frozen BK120.out 0; have hfz31_1 := blk_frozen BK120.out 1) | ((with_reducible refine gate_callee (f := 34) rfl ?_); refine goesL_ (some 40) rfl rfl Try.func34 (by kernel_rfl) rfl #[.agg #[.string ((rd_T28 l0 x35_1).f0), .int .i64 ((rd_T28 l0 x35_1).f1)]] rfl (by (try simp only [List.map_toArray, List.map_cons, List.map_nil]); first | done | rfl | (simp only [List.length_drop, List.length_take]; rfl)) ?_; (with_reducible refine (match_variable.calls k1 ((rd_T28 l0 x35_1).f0) ((rd_T28 l0 x35_1).f1) true _ A12.out).mono ?_); rintro e w32 ⟨rfl, hb⟩; refine ⟨_, rfl, ?_⟩; have HMn := Aside0.mk (IsM.below (B := gB) (l := x10_1) (by repeat (first | (with_reducible exact HM.out) | (with_reducible apply IsM.alloc) | (with_reducible apply IsM.drewN) | (with_reducible apply IsM.drew) | refine IsM.set ?_ NM.out _)) hb); clear HM; have HM := HMn; clear HMn; have n0_ := Aside0.mk (Kd.S_below (by (with_reducible repeat (first | apply Kd.S_alloc | apply Kd.S_drewN | apply Kd.S_drew)); exact (Kd.S_mono (Kd.S_far (p := ⟨gb120, 1, none⟩) (Kd.S_far (p := ⟨gb120, 0, none⟩) (Kd.S_mono HO_10.out (fun k_ hk => (⟨hk, hk.2⟩ : _ ∧ k_ ≠ gb120))) (fun _ hk => hk.2) (.string ((rd_T28 l0 x35_1).f0))) (fun _ hk => hk.2) (.int .i64 ((rd_T28 l0 x35_1).f1))) (fun _ h_ => h_.1))) hb); have n1_ := Aside0.mk (blk_below (g := gb120) (o := .cells #[.string ((rd_T28 l0 x35_1).f0), .int .i64 ((rd_T28 l0 x35_1).f1)] 28 (0, 0)) (by (with_reducible repeat (first | refine blk_drewN ?_ _ | refine blk_drew ?_ | refine blk_alloc ?_ _)); refine blk_put (cs := #[.string ((rd_T28 l0 x35_1).f0), .int .i64 0]) ?_ 1 _ rfl; (with_reducible repeat (first | refine blk_drewN ?_ _ | refine blk_drew ?_ | refine blk_alloc ?_ _)); refine blk_put (cs := #[.string (⟨#[]⟩ : ByteArray), .int .i64 0]) ?_ 0 _ rfl; (with_reducible repeat (first | refine blk_drewN ?_ _ | refine blk_drew ?_ | refine blk_alloc ?_ _)); exact BK120.out) hb); have n2_ := Aside0.mk (below_step (by repeat (first | (with_reducible first | exact HB.out | apply below_alloc | apply pw_below_drewN | apply below_drew1 | refine below_set ?_ GE120.out) | exact HB.out)) hb); clear HO_10; clear BK120; clear HB; have HO_10 := n0_; have BK120 := n1_; have HB := n2_; clear n0_ n1_ n2_; (try clear hb); (try clear hb2); (try clear hk); (try clear hi)) | ((with_reducible refine gate_callee (f := 35) rfl ?_); refine goesL_ (some 54) rfl rfl Try.func35 (by kernel_rfl) rfl #[.slice A1 l1.length c1, .int .i64 x12_1] rfl (by (try simp only [List.map_toArray, List.map_cons, List.map_nil]); first | done | rfl | (simp only [List.length_drop, List.length_take]; rfl)) ?_; (with_reducible refine (match_end.calls k1 _ _ l1 x12_1 t123 _ ?side1 ?side2 A14.out).mono ?_); (case side1 => repeat (first | exact (Kd.C_below HR1.out HB.out) | (with_reducible refine Kd.C_alloc ?_ _) | (with_reducible refine Kd.C_drewN ?_ _) | (with_reducible refine Kd.C_drew ?_))); (case side2 => exact HC1.out); rintro e w' ⟨rfl, ⟨nd, rfl⟩⟩; refine ⟨_, rfl, ?_⟩; have q33 : (t123 : Int) ≤ ((l1.length : Int) : Int) := of_decide_eq_true (by first | (with_reducible assumption) | assumption); obtain ⟨i033, hi033, _, hsz33, _⟩ := info_parts info28; have hroom33 : l1.length ≤ c1 := HC1.out; have hC33 : Kd.C k28 _ A1 l1.length l1 := HR1.out; have ql33 : (x12_1 : Int) ≤ (t123 : Int) := of_decide_eq_true (by first | (with_reducible assumption) | assumption); have q033 : (0 : Int) ≤ (x12_1 : Int) := of_decide_eq_true (by first | (with_reducible assumption) | assumption); have hcut33 := cut_mid (P := Try.prog) 23 28 .i64 .i64 Try.underlying23 hi033 2 hsz33 A1 l1.length c1 x12_1 t123 q033 ql33 q33 hroom33; have hr33 := Kd.C_mid (lo := (x12_1 : Int).toNat) (hi := (t123 : Int).toNat) (c := c1) hC33 (by omega) (by omega) hroom33; obtain ⟨A33, hA33⟩ : ∃ z_, z_ = (if c1 = (x12_1 : Int).toNat then A1 else (A1 : Option Addr).map (·.add ((x12_1 : Int).toNat * 2))) := ⟨_, rfl⟩; obtain ⟨c33, hc33⟩ : ∃ z_, z_ = c1 - (x12_1 : Int).toNat := ⟨_, rfl⟩; have hy33 : y124.length = (t123 : Int).toNat - (x12_1 : Int).toNat := (by rw [Ny124.out, List.length_drop, List.length_take] <;> omega); rw [show ((l1).take (t123 : Int).toNat).drop (x12_1 : Int).toNat = y124 from Ny124.out.symm] at hr33; replace hr33 : Kd.C k28 _ A33 y124.length y124 := (by rw [hA33]; exact hr33); rw [← hy33, ← hA33, ← hc33] at hcut33; have HR127 := Aside0.mk hr33; have HC127 := Aside0.mk (show y124.length ≤ c33 from by rw [hy33, hc33]; exact Nat.sub_le_sub_right (Nat.le_trans (by omega) hroom33) _); clear hr33 hC33 hroom33 hi033 hsz33 hc33; have KY33 := Aside0.mk hy33; have KA33 := Aside0.mk hA33; clear hy33 hA33; replace q33 := eq_true q33; have hcz34_0 : w32.cell? ⟨gb120, 0, none⟩ = some (.string ((rd_T28 l0 x35_1).f0)) := (blk_cell BK120.out 0).trans rfl; have hcz34_1 : w32.cell? ⟨gb120, 1, none⟩ = some (.int .i64 ((rd_T28 l0 x35_1).f1)) := (blk_cell BK120.out 1).trans rfl; have hfz34_0 := blk_frozen BK120.out 0; have hfz34_1 := blk_frozen BK120.out 1; obtain ⟨Ao35, co35, eo35⟩ := Kd.S_slice HO_10.out; subst eo35; have p128 : 0 ≤ ((bfind x10_1 ((rd_T28 l0 x35_1).f0)) : Int) := of_decide_eq_true (by first | (with_reducible assumption) | assumption); have q128 : (bfind x10_1 ((rd_T28 l0 x35_1).f0)) < (x10_1.length : Int) := of_decide_eq_true (by first | (with_reducible assumption) | assumption); obtain ⟨ad128, A128_1, c128_1, e128, hx128_0, hx128_1, hl128_1, hi128_1⟩ := at_T36 (Kd.S_reads' HO_10.out).2.2 (bfind x10_1 ((rd_T28 l0 x35_1).f0)) p128 q128; cases e128; obtain ⟨ce128, hce128, hMe128, hcc128⟩ := Kd.S_get HO_10.out z36 (bfind x10_1 ((rd_T28 l0 x35_1).f0)) p128 (by first | exact q128 | exact of_decide_eq_true (by first | (with_reducible assumption) | assumption) | (have e_ := (Kd.S_reads' HO_10.out).1; omega)); obtain ⟨ve128_1, rfl, ge128_1⟩ := k36_openM hMe128; have hv128_1 := hcc128 1 _ rfl; rw [add_field _ _ 1 (by omega)] at hv128_1; replace hv128_1 := Option.some.inj (hv128_1.symm.trans hx128_1); rw [hv128_1] at ge128_1; have HL128_1 := Aside0.mk (show Kd.R k28 28 _ _ _ _ ((rd_T36 x10_1 (bfind x10_1 ((rd_T28 l0 x35_1).f0))).f1) from ge128_1); clear hv128_1 ge128_1; clear hcc128 hce128; have HR128_1 := Aside0.mk hi128_1; have HC128_1 := Aside0.mk hl128_1; clear hi128_1 hl128_1; replace p128 := eq_true p128; replace q128 := eq_true q128) | ((with_reducible refine gate_callee (f := 37) rfl ?_); refine goesL_ (some 90) rfl rfl Try.func37 (by kernel_rfl) rfl #[.slice A128_1 ((rd_T36 x10_1 (bfind x10_1 ((rd_T28 l0 x35_1).f0))).f1).length c128_1, .slice A33 y124.length c33] rfl (by (try simp only [List.map_toArray, List.map_cons, List.map_nil]); first | done | rfl | (simp only [List.length_drop, List.length_take]; rfl)) ?_; (with_reducible refine (api_Cell_37.calls k1 _ _ ((rd_T36 x10_1 (bfind x10_1 ((rd_T28 l0 x35_1).f0))).f1) _ _ y124 false _ ?side1 ?side2 ?side3 ?side4 A22.out).mono ?_); (case side1 => repeat (first | exact (by repeat (first | (with_reducible exact HR128_1.out) | (with_reducible refine Kd.C_alloc ?_ _) | (with_reducible refine Kd.C_drewN ?_ _) | (with_reducible refine Kd.C_drew ?_) | exact HR128_1.out)) | (with_reducible refine Kd.C_alloc ?_ _) | (with_reducible refine Kd.C_drewN ?_ _) | (with_reducible refine Kd.C_drew ?_))); (case side2 => exact HC128_1.out); (case side3 => repeat (first | exact (Kd.C_below HR127.out (by repeat (first | (with_reducible first | exact HB.out | apply below_alloc | apply pw_below_drewN | apply below_drew1 | refine below_set ?_ GE120.out) | exact HB.out))) | (with_reducible refine Kd.C_alloc ?_ _) | (with_reducible refine Kd.C_drewN ?_ _) | (with_reducible refine Kd.C_drew ?_))); (case side4 => exact HC127.out); rintro e w' ⟨rfl, ⟨nd, rfl⟩⟩; refine ⟨_, rfl, ?_⟩) | ((with_reducible refine gate_dst (N := 64) rfl ?_); refine map_look rfl _ _ rfl gB x10_1 ((rd_T28 l0 x35_1).f0) rfl (by repeat (first | (with_reducible exact HM.out) | (with_reducible apply IsM.alloc) | (with_reducible apply IsM.drewN) | (with_reducible apply IsM.drew) | refine IsM.set ?_ NM.out _)) (of_decide_eq_true (by first | (with_reducible assumption) | assumption)) rfl ?_))
                                      go_ret3
                                      exact ⟨_, by first | rfl | (simp [errW_none, errW_some] <;> rfl) | (simp [*, errW_none, errW_some] <;> rfl), by first | exact Kd.S_nil _ _ _ _ _ | exact Kd.N_nil _ _ _ _ _ | exact Kd.V_nil _ _ _ _ _ | exact Kd.Q_nil _ _ _ _ _ | exact Kd.R_nil _ _ _ _ _, by repeat (first | (with_reducible first | exact HB.out | apply below_alloc | apply pw_below_drewN | apply below_drew1 | refine below_set ?_ GE120.out) | exact HB.out)⟩
                                  · rw [if_neg c21] at H
                                    exact absurd H (by simp)
                                · rw [if_neg c20] at H
                                  exact absurd H (by simp)
                              · rw [if_neg c19] at H
                                have c19b0 : bhas x10_1 ((rd_T28 l0 x35_1).f0) = false := by simpa using c19
                                clear c19
                                by_cases c36 : x10_1.length < 3518437208883
                                · rw [if_pos c36] at H
                                  have LMc36 := Aside0.mk c36
                                  clear c36
                                  replace H := Option.bind_eq_some_iff.mp H
                                  obtain ⟨t130, A370, H⟩ := H
                                  replace H : (match_Match.l0 k1 l1 (x10_1 ++ [(⟨(rd_T28 l0 x35_1).f0, t130⟩ : S36)]) (wrap64 (x12_1 + (y124.length : Int))) l0 (l0.length : Int) (wrap64 (x35_1 + 1))) = some (r1, r2, r3) := H
                                  have A37 := Aside0.mk A370
                                  clear A370
                                  obtain ⟨y133, hy133⟩ : ∃ y_ : List (S36), y_ = (x10_1 ++ [(⟨(rd_T28 l0 x35_1).f0, t130⟩ : S36)]) := ⟨_, rfl⟩
                                  replace H : (match_Match.l0 k1 l1 y133 (wrap64 (x12_1 + (y124.length : Int))) l0 (l0.length : Int) (wrap64 (x35_1 + 1))) = some (r1, r2, r3) := by first | (rw [hy133]; with_reducible exact H) | (have H2_ := (Option.bind_some _ _).symm.trans H; rw [hy133]; with_reducible exact H2_) | (have H2_ := (Option.bind_some _ _).symm.trans H; with_reducible exact H2_) | with_reducible exact H | (rw [hy133]; exact H) | exact H
                                  have Ny133 := Aside0.mk hy133
                                  clear hy133
                                  have H' := Aside0.mk H
                                  clear H
                                  have p119 : 0 ≤ (x35_1 : Int) := of_decide_eq_true (by first | (with_reducible assumption) | assumption)
                                  have q119 : x35_1 < (l0.length : Int) := of_decide_eq_true (by first | (with_reducible assumption) | assumption)
                                  obtain ⟨ad119, e119, hx119_0, hx119_1⟩ := at_T28 HR0.out x35_1 p119 q119
                                  cases e119
                                  replace hx119_0 := (HB.out.cell (World.block_lt_of_cell? w _ hx119_0)).trans hx119_0
                                  replace hx119_1 := (HB.out.cell (World.block_lt_of_cell? w _ hx119_1)).trans hx119_1
                                  replace p119 := eq_true p119
                                  replace q119 := eq_true q119
                                  go_wp2_with (first | ((with_reducible refine gate_dst (N := 14) rfl ?_); refine box_event ?hg (N := 14) ?hd (cs := #[.string (⟨#[]⟩ : ByteArray), .int .i64 0]) (t := 28) ?hr ?_; (case hd => rfl); (case hg => rfl); (case hr => first | (go_simp; done) | (go_simp; rfl)); intro gb120 hg w38 hbox hb; have HMn := Aside0.mk (IsM.below (B := gB) (l := x10_1) (by repeat (first | (with_reducible exact HM.out) | (with_reducible apply IsM.alloc) | (with_reducible apply IsM.drewN) | (with_reducible apply IsM.drew) | refine IsM.set ?_ NM.out _)) hb); clear HM; have HM := HMn; clear HMn; have NM := Aside0.mk (IsM.ne_cells HM.out hbox); have n0_ := Aside0.mk (Kd.S_below (Kd.S_elderB (by (with_reducible repeat (first | apply Kd.S_alloc | apply Kd.S_drewN | apply Kd.S_drew)); exact HO_10.out) gb120 (Nat.le_of_eq hg.symm)) hb); have n1_ := Aside0.mk (below_step (by repeat (first | (with_reducible first | exact HB.out | apply below_alloc | apply pw_below_drewN | apply below_drew1) | exact HB.out)) hb); have n2_ := Aside0.mk (hbox); have n3_ := Aside0.mk ((by rw [hg]; exact (below_size (by repeat (first | (with_reducible first | exact HB.out | apply below_alloc | apply pw_below_drewN | apply below_drew1) | exact HB.out))) : w.heap.size ≤ gb120)); have n4_ := Aside0.mk ((by rw [hg]; exact (below_size (by repeat (first | (with_reducible first | exact HB.out | apply below_alloc | apply pw_below_drewN | apply below_drew1) | exact HB.out))) : w.heap.size ≤ gb120)); clear HO_10; clear HB; have HO_10 := n0_; have HB := n1_; have BK120 := n2_; have GW120 := n3_; have GE120 := n4_; clear n0_ n1_ n2_ n3_ n4_; clear hb hbox hg; have hcz39_0 : w38.cell? ⟨gb120, 0, none⟩ = some (.string (⟨#[]⟩ : ByteArray)) := (blk_cell BK120.out 0).trans rfl; have hcz39_1 : w38.cell? ⟨gb120, 1, none⟩ = some (.int .i64 0) := (blk_cell BK120.out 1).trans rfl; have hfz39_0 := blk_frozen BK120.out 0; have hfz39_1 := blk_frozen BK120.out 1) | ((with_reducible refine gate_callee (f := 34) rfl ?_); refine goesL_ (some 40) rfl rfl Try.func34 (by kernel_rfl) rfl #[.agg #[.string ((rd_T28 l0 x35_1).f0), .int .i64 ((rd_T28 l0 x35_1).f1)]] rfl (by (try simp only [List.map_toArray, List.map_cons, List.map_nil]); first | done | rfl | (simp only [List.length_drop, List.length_take]; rfl)) ?_; (with_reducible refine (match_variable.calls k1 ((rd_T28 l0 x35_1).f0) ((rd_T28 l0 x35_1).f1) true _ A12.out).mono ?_); rintro e w40 ⟨rfl, hb⟩; refine ⟨_, rfl, ?_⟩; have HMn := Aside0.mk (IsM.below (B := gB) (l := x10_1) (by repeat (first | (with_reducible exact HM.out) | (with_reducible apply IsM.alloc) | (with_reducible apply IsM.drewN) | (with_reducible apply IsM.drew) | refine IsM.set ?_ NM.out _)) hb); clear HM; have HM := HMn; clear HMn; have n0_ := Aside0.mk (Kd.S_below (by (with_reducible repeat (first | apply Kd.S_alloc | apply Kd.S_drewN | apply Kd.S_drew)); exact (Kd.S_mono (Kd.S_far (p := ⟨gb120, 1, none⟩) (Kd.S_far (p := ⟨gb120, 0, none⟩) (Kd.S_mono HO_10.out (fun k_ hk => (⟨hk, hk.2⟩ : _ ∧ k_ ≠ gb120))) (fun _ hk => hk.2) (.string ((rd_T28 l0 x35_1).f0))) (fun _ hk => hk.2) (.int .i64 ((rd_T28 l0 x35_1).f1))) (fun _ h_ => h_.1))) hb); have n1_ := Aside0.mk (blk_below (g := gb120) (o := .cells #[.string ((rd_T28 l0 x35_1).f0), .int .i64 ((rd_T28 l0 x35_1).f1)] 28 (0, 0)) (by (with_reducible repeat (first | refine blk_drewN ?_ _ | refine blk_drew ?_ | refine blk_alloc ?_ _)); refine blk_put (cs := #[.string ((rd_T28 l0 x35_1).f0), .int .i64 0]) ?_ 1 _ rfl; (with_reducible repeat (first | refine blk_drewN ?_ _ | refine blk_drew ?_ | refine blk_alloc ?_ _)); refine blk_put (cs := #[.string (⟨#[]⟩ : ByteArray), .int .i64 0]) ?_ 0 _ rfl; (with_reducible repeat (first | refine blk_drewN ?_ _ | refine blk_drew ?_ | refine blk_alloc ?_ _)); exact BK120.out) hb); have n2_ := Aside0.mk (below_step (by repeat (first | (with_reducible first | exact HB.out | apply below_alloc | apply pw_below_drewN | apply below_drew1 | refine below_set ?_ GE120.out) | exact HB.out)) hb); clear HO_10; clear BK120; clear HB; have HO_10 := n0_; have BK120 := n1_; have HB := n2_; clear n0_ n1_ n2_; (try clear hb); (try clear hb2); (try clear hk); (try clear hi)) | ((with_reducible refine gate_callee (f := 35) rfl ?_); refine goesL_ (some 54) rfl rfl Try.func35 (by kernel_rfl) rfl #[.slice A1 l1.length c1, .int .i64 x12_1] rfl (by (try simp only [List.map_toArray, List.map_cons, List.map_nil]); first | done | rfl | (simp only [List.length_drop, List.length_take]; rfl)) ?_; (with_reducible refine (match_end.calls k1 _ _ l1 x12_1 t123 _ ?side1 ?side2 A14.out).mono ?_); (case side1 => repeat (first | exact (Kd.C_below HR1.out HB.out) | (with_reducible refine Kd.C_alloc ?_ _) | (with_reducible refine Kd.C_drewN ?_ _) | (with_reducible refine Kd.C_drew ?_))); (case side2 => exact HC1.out); rintro e w' ⟨rfl, ⟨nd, rfl⟩⟩; refine ⟨_, rfl, ?_⟩; have q41 : (t123 : Int) ≤ ((l1.length : Int) : Int) := of_decide_eq_true (by first | (with_reducible assumption) | assumption); obtain ⟨i041, hi041, _, hsz41, _⟩ := info_parts info28; have hroom41 : l1.length ≤ c1 := HC1.out; have hC41 : Kd.C k28 _ A1 l1.length l1 := HR1.out; have ql41 : (x12_1 : Int) ≤ (t123 : Int) := of_decide_eq_true (by first | (with_reducible assumption) | assumption); have q041 : (0 : Int) ≤ (x12_1 : Int) := of_decide_eq_true (by first | (with_reducible assumption) | assumption); have hcut41 := cut_mid (P := Try.prog) 23 28 .i64 .i64 Try.underlying23 hi041 2 hsz41 A1 l1.length c1 x12_1 t123 q041 ql41 q41 hroom41; have hr41 := Kd.C_mid (lo := (x12_1 : Int).toNat) (hi := (t123 : Int).toNat) (c := c1) hC41 (by omega) (by omega) hroom41; obtain ⟨A41, hA41⟩ : ∃ z_, z_ = (if c1 = (x12_1 : Int).toNat then A1 else (A1 : Option Addr).map (·.add ((x12_1 : Int).toNat * 2))) := ⟨_, rfl⟩; obtain ⟨c41, hc41⟩ : ∃ z_, z_ = c1 - (x12_1 : Int).toNat := ⟨_, rfl⟩; have hy41 : y124.length = (t123 : Int).toNat - (x12_1 : Int).toNat := (by rw [Ny124.out, List.length_drop, List.length_take] <;> omega); rw [show ((l1).take (t123 : Int).toNat).drop (x12_1 : Int).toNat = y124 from Ny124.out.symm] at hr41; replace hr41 : Kd.C k28 _ A41 y124.length y124 := (by rw [hA41]; exact hr41); rw [← hy41, ← hA41, ← hc41] at hcut41; have HR127 := Aside0.mk hr41; have HC127 := Aside0.mk (show y124.length ≤ c41 from by rw [hy41, hc41]; exact Nat.sub_le_sub_right (Nat.le_trans (by omega) hroom41) _); clear hr41 hC41 hroom41 hi041 hsz41 hc41; have KY41 := Aside0.mk hy41; have KA41 := Aside0.mk hA41; clear hy41 hA41; replace q41 := eq_true q41; have hcz42_0 : w40.cell? ⟨gb120, 0, none⟩ = some (.string ((rd_T28 l0 x35_1).f0)) := (blk_cell BK120.out 0).trans rfl; have hcz42_1 : w40.cell? ⟨gb120, 1, none⟩ = some (.int .i64 ((rd_T28 l0 x35_1).f1)) := (blk_cell BK120.out 1).trans rfl; have hfz42_0 := blk_frozen BK120.out 0; have hfz42_1 := blk_frozen BK120.out 1; obtain ⟨Ao43, co43, eo43⟩ := Kd.S_slice HO_10.out; subst eo43) | ((with_reducible refine gate_dst (N := 64) rfl ?_); refine map_look rfl _ _ rfl gB x10_1 ((rd_T28 l0 x35_1).f0) rfl (by repeat (first | (with_reducible exact HM.out) | (with_reducible apply IsM.alloc) | (with_reducible apply IsM.drewN) | (with_reducible apply IsM.drew) | refine IsM.set ?_ NM.out _)) (of_decide_eq_true (by first | (with_reducible assumption) | assumption)) rfl ?_) | (at_mapUpdate; refine map_put rfl _ _ _ rfl gB x10_1 (⟨(rd_T28 l0 x35_1).f0, t130⟩ : S36) (x10_1.length : Int) rfl LMc36.out rfl (by repeat (first | (with_reducible exact HM.out) | (with_reducible apply IsM.alloc) | (with_reducible apply IsM.drewN) | (with_reducible apply IsM.drew) | refine IsM.set ?_ NM.out _)) (of_decide_eq_true (by first | (with_reducible assumption) | assumption)) rfl rfl ?_; intro w40q hM1 hg1; have n0_ := Aside0.mk (IsM.rows_over (B := gB) (l := x10_1) (by repeat (first | (with_reducible exact HM.out) | (with_reducible apply IsM.alloc) | (with_reducible apply IsM.drewN) | (with_reducible apply IsM.drew) | refine IsM.set ?_ NM.out _)) (by (with_reducible repeat (first | apply Kd.S_alloc | apply Kd.S_drewN | apply Kd.S_drew)); exact HO_10.out) hg1); have n1_ := Aside0.mk (IsM.blk_over (B := gB) (l := x10_1) (by repeat (first | (with_reducible exact HM.out) | (with_reducible apply IsM.alloc) | (with_reducible apply IsM.drewN) | (with_reducible apply IsM.drew) | refine IsM.set ?_ NM.out _)) (by (with_reducible repeat (first | refine blk_drewN ?_ _ | refine blk_drew ?_ | refine blk_alloc ?_ _)); exact BK120.out) hg1); have n2_ := Aside0.mk (below_map (by repeat (first | (with_reducible first | exact HB.out | apply below_alloc | apply pw_below_drewN | apply below_drew1 | refine below_set ?_ GE120.out) | exact HB.out)) hg1 GM.out); clear HO_10 BK120 HB HM; have HO_10 := n0_; have BK120 := n1_; have HB := n2_; have HM := Aside0.mk hM1; clear n0_ n1_ n2_ hM1 hg1))
                                  (try (rw [drewN_self w40q]; generalize hq_ : World.drewN w40q _ = w40q; have n0_ : Aside0 (Kd.S k36 36 w40q w.heap.size (fun k_ => k_ ≠ gb120) (.slice Ao43 x10_1.length co43) x10_1) := ⟨by rw [← hq_]; exact (by (with_reducible repeat (first | apply Kd.S_alloc | apply Kd.S_drewN | apply Kd.S_drew)); exact Kd.S_mono HO_10.out (fun _ hk => hk.2))⟩; have n1_ : Aside0 (w40q.heap[gb120]? = some (.cells #[.string ((rd_T28 l0 x35_1).f0), .int .i64 ((rd_T28 l0 x35_1).f1)] 28 (0, 0))) := ⟨by rw [← hq_]; exact (by (with_reducible repeat (first | refine blk_drewN ?_ _ | refine blk_drew ?_ | refine blk_alloc ?_ _)); exact BK120.out)⟩; have n2_ : Aside0 (Below w.heap.size w w40q) := ⟨by rw [← hq_]; exact (by repeat (first | (with_reducible first | exact HB.out | apply below_alloc | apply pw_below_drewN | apply below_drew1 | refine below_set ?_ GE120.out) | exact HB.out))⟩; have n3_ : Aside0 (IsM w40q gB (x10_1 ++ [(⟨(rd_T28 l0 x35_1).f0, t130⟩ : S36)])) := ⟨by rw [← hq_]; exact (by repeat (first | (with_reducible exact HM.out) | (with_reducible apply IsM.alloc) | (with_reducible apply IsM.drewN) | (with_reducible apply IsM.drew) | refine IsM.set ?_ NM.out _))⟩; clear HM; have HM := n3_; clear n3_; clear HO_10 BK120 HB hq_; have HO_10 := n0_; have BK120 := n1_; have HB := n2_; clear n0_ n1_ n2_))
                                  have HMn := Aside0.mk (IsM.drew (show IsM _ gB (x10_1 ++ [(⟨(rd_T28 l0 x35_1).f0, t130⟩ : S36)]) from (by repeat (first | (with_reducible exact HM.out) | (with_reducible apply IsM.alloc) | (with_reducible apply IsM.drewN) | (with_reducible apply IsM.drew) | refine IsM.set ?_ NM.out _))))
                                  clear HM
                                  have HM := HMn
                                  clear HMn
                                  have n0_ := Aside0.mk (Kd.S_drew HO_10.out)
                                  have n1_ := Aside0.mk (blk_drew BK120.out)
                                  have n2_ := Aside0.mk (below_drew1 HB.out)
                                  clear HO_10
                                  clear BK120
                                  clear HB
                                  have HO_10 := n0_
                                  have BK120 := n1_
                                  have HB := n2_
                                  clear n0_ n1_ n2_
                                  refine start_ (n := 9) (S := fun w' => w'.cell? ⟨gb120, 0, none⟩ = some (.string ((rd_T28 l0 x35_1).f0)) ∧ w'.cell? ⟨gb120, 1, none⟩ = some (.int .i64 ((rd_T28 l0 x35_1).f1))) (ds := []) #[false, false, false, false, false, false, false, false, false] (by kernel_rfl) rfl rfl ⟨(blk_cell BK120.out 0).trans rfl, (blk_cell BK120.out 1).trans rfl⟩ (fun hHeld => ?_); refine with_tabW match_Match.tab23 match_Match.bits23 (fun HT_ HW_ => ?_)
                                  generalize w40q.drew = w44 at HM HO_10 BK120 HB hHeld ⊢
                                  refine pure_ (i := 0) (N := some 75) (v := ?_) (a' := ?_) #[true, false, false, false, false, false, false, false, false] rfl rfl (any_of HT_.out (by kernel_rfl)) (fun _ _ _ h => h) (Or.inl ⟨by rfl, ?_⟩) ?_ ?_
                                  rotate_left
                                  · intro w'
                                    go_simp
                                    with_reducible rfl
                                  rotate_left
                                  · simp only [Act.put, List.setIfInBounds_toArray, List.set_cons_zero, List.set_cons_succ, i64_w, i32_w]
                                    rfl
                                  refine pure_ (i := 1) (N := some 76) (v := ?_) (a' := ?_) #[true, true, false, false, false, false, false, false, false] rfl rfl (any_of HT_.out (by kernel_rfl)) (fun _ _ _ h => h) (Or.inl ⟨by rfl, ?_⟩) ?_ ?_
                                  rotate_left
                                  · intro w'
                                    go_simp
                                    with_reducible rfl
                                  rotate_left
                                  · simp only [Act.put, List.setIfInBounds_toArray, List.set_cons_zero, List.set_cons_succ, i64_w, i32_w]
                                    rfl
                                  refine pure_ (i := 3) (N := some 78) (v := ?_) (a' := ?_) #[true, true, false, true, false, false, false, false, false] rfl rfl (any_of HT_.out (by kernel_rfl)) (fun _ _ _ h => h) (Or.inl ⟨by rfl, ?_⟩) ?_ ?_
                                  rotate_left
                                  · intro w'
                                    go_simp
                                    with_reducible rfl
                                  rotate_left
                                  · simp only [Act.put, List.setIfInBounds_toArray, List.set_cons_zero, List.set_cons_succ, i64_w, i32_w]
                                    rfl
                                  refine take_ (i := 2) (N := some 77) (v := ?_) (a' := ?_) #[true, true, true, true, false, false, false, false, false] rfl rfl (take_ofW HT_.out HW_.out (by kernel_rfl)) (fun _ _ _ h => h) (Or.inl ⟨by rfl, ?_⟩) hHeld ?_ ?_
                                  rotate_left
                                  · rintro w' ⟨s0, s1⟩
                                    go_simp
                                    with_reducible rfl
                                  rotate_left
                                  · simp only [Act.put, List.setIfInBounds_toArray, List.set_cons_zero, List.set_cons_succ, i64_w, i32_w]
                                    rfl
                                  refine one_ (i := 4) (N := some 79) #[true, true, true, true, true, false, false, false, false] rfl rfl (one_of HT_.out (by kernel_rfl)) (by decide) (fun K hK => ?_)
                                  refine goes_ Try.func36 (by kernel_rfl) rfl #[.slice A41 y124.length c41] (by rfl) rfl rfl (by (try simp only [List.map_toArray, List.map_cons, List.map_nil]); first | done | rfl | (simp only [List.length_drop, List.length_take]; rfl)) ?_
                                  with_reducible refine (clone_Term.calls _ _ y124 t130 _ ?side1 ?side2 A37.out).mono ?_
                                  (case side1 => repeat (first | exact (Kd.C_below HR127.out HB.out) | (with_reducible refine Kd.C_alloc ?_ _) | (with_reducible refine Kd.C_drewN ?_ _) | (with_reducible refine Kd.C_drew ?_)))
                                  (case side2 => exact HC127.out)
                                  rintro e w45 ⟨v131, rfl, ho0, hb⟩
                                  refine ⟨_, rfl, ?_⟩
                                  have HMn := Aside0.mk (IsM.below (B := gB) (l := (x10_1 ++ [(⟨(rd_T28 l0 x35_1).f0, t130⟩ : S36)])) (by repeat (first | (with_reducible exact HM.out) | (with_reducible apply IsM.alloc) | (with_reducible apply IsM.drewN) | (with_reducible apply IsM.drew) | refine IsM.set ?_ NM.out _)) hb)
                                  clear HM
                                  have HM := HMn
                                  clear HMn
                                  have n0_ := Aside0.mk (Kd.S_elder' (by (with_reducible repeat (first | apply Kd.S_alloc | apply Kd.S_drewN | apply Kd.S_drew)); exact HO_10.out) (Kd.R_base ho0) hb)
                                  have n1_ := Aside0.mk (Kd.R_lower (Kd.R_newB ho0 (g := gb120) (o := .cells #[.string ((rd_T28 l0 x35_1).f0), .int .i64 ((rd_T28 l0 x35_1).f1)] 28 (0, 0)) (by (with_reducible repeat (first | refine blk_drewN ?_ _ | refine blk_drew ?_ | refine blk_alloc ?_ _)); exact BK120.out)) (below_size (by repeat (first | (with_reducible first | exact HB.out | apply below_alloc | apply pw_below_drewN | apply below_drew1 | refine below_set ?_ GE120.out) | exact HB.out))))
                                  have n2_ := Aside0.mk (blk_below (g := gb120) (o := .cells #[.string ((rd_T28 l0 x35_1).f0), .int .i64 ((rd_T28 l0 x35_1).f1)] 28 (0, 0)) (by (with_reducible repeat (first | refine blk_drewN ?_ _ | refine blk_drew ?_ | refine blk_alloc ?_ _)); exact BK120.out) hb)
                                  have n3_ := Aside0.mk (below_step (by repeat (first | (with_reducible first | exact HB.out | apply below_alloc | apply pw_below_drewN | apply below_drew1 | refine below_set ?_ GE120.out) | exact HB.out)) hb)
                                  clear HO_10
                                  clear BK120
                                  clear HB
                                  have HO_10 := n0_
                                  have HO132 := n1_
                                  have BK120 := n2_
                                  have HB := n3_
                                  clear n0_ n1_ n2_ n3_
                                  (try clear hb)
                                  (try clear hb2)
                                  (try clear hk)
                                  (try clear hi)
                                  (try clear ho0)
                                  obtain ⟨Ao46, co46, eo46⟩ := Kd.R_slice HO132.out
                                  (first | subst eo46 | (injection eo46 with f1_ f2_ f3_; have f4_ := f1_.symm; have f5_ := f3_.symm; clear f1_ f2_ f3_; subst f4_; subst f5_))
                                  refine hK.out _ _ ⟨(blk_cell BK120.out 0).trans rfl, (blk_cell BK120.out 1).trans rfl⟩ (fun hHeld => ?_)
                                  clear hK K
                                  refine norm_ (a' := ?_) ?_ ?_
                                  rotate_left
                                  · show Act.put _ (some 79) _ = _
                                    simp only [Act.put, List.setIfInBounds_toArray, List.set_cons_zero, List.set_cons_succ, i64_w, i32_w]
                                    rfl
                                  refine pure_ (i := 5) (N := some 80) (v := ?_) (a' := ?_) #[true, true, true, true, true, true, false, false, false] rfl rfl (any_of HT_.out (by kernel_rfl)) (fun _ _ _ h => h) (Or.inl ⟨by rfl, ?_⟩) ?_ ?_
                                  rotate_left
                                  · intro w'
                                    go_simp
                                    with_reducible rfl
                                  rotate_left
                                  · simp only [Act.put, List.setIfInBounds_toArray, List.set_cons_zero, List.set_cons_succ, i64_w, i32_w]
                                    rfl
                                  refine one_ (i := 6) (N := some 81) #[true, true, true, true, true, true, true, false, false] rfl rfl (one_of HT_.out (by kernel_rfl)) (by decide) (fun K hK => ?_)
                                  refine value_ (w1 := ?_) (v := ?_) (by rfl) rfl ?_ ?_
                                  rotate_left 2
                                  · go_simp
                                    constructor
                                    · rfl
                                    · rfl
                                  refine hK.out _ _ ⟨(blk_cell (blk_alloc BK120.out _) 0).trans rfl, (blk_cell (blk_alloc BK120.out _) 1).trans rfl⟩ (fun hHeld => ?_)
                                  clear hK K
                                  refine norm_ (a' := ?_) ?_ ?_
                                  rotate_left
                                  · show Act.put _ (some 81) _ = _
                                    simp only [Act.put, List.setIfInBounds_toArray, List.set_cons_zero, List.set_cons_succ, i64_w, i32_w]
                                    rfl
                                  refine one_ (i := 7) (N := some 82) #[true, true, true, true, true, true, true, true, false] rfl rfl (one_of HT_.out (by kernel_rfl)) (by decide) (fun K hK => ?_)
                                  refine Kd.S_append_step k36 (w0 := w) w.heap.size (by rfl) (.tmp 75) (.tmp 81) 24 36 (.agg #[(.string ⟨#[]⟩), (.slice none 0 0)]) 40 rfl Try.underlying24 info36 rfl (by decide) (by omega) (.slice Ao43 x10_1.length co43) x10_1 (⟨(rd_T28 l0 x35_1).f0, t130⟩ : S36) [.string ((rd_T28 l0 x35_1).f0), .slice Ao46 t130.length co46] (fun k_ => k_ ≠ gb120) (fun k_ => some k_ = (.slice Ao46 t130.length co46 : Value).ownBlock) rfl rfl ?aP (fun k_ hk_ => ((Kd.R_mono (ok' := fun k_ => ((fun k_ => k_ ≠ gb120)) k_ ∧ some k_ ≠ (.slice Ao43 x10_1.length co43 : Value).ownBlock) (Kd.R_apart' (HO132.out) (Kd.S_typed HO_10.out) (by decide)) (fun k_ hk => ⟨hk.1.2, hk.2⟩))).1 k_ hk_.symm) ?aF ?aO ?aB ?aS ?aL ?_
                                  (case aP => exact k36_mkM _ _ _ (⟨(rd_T28 l0 x35_1).f0, t130⟩ : S36) (Kd.R_mono (Kd.R_tight rfl (Kd.R_mono (ok' := fun k_ => ((fun k_ => k_ ≠ gb120)) k_ ∧ some k_ ≠ (.slice Ao43 x10_1.length co43 : Value).ownBlock) (Kd.R_apart' (HO132.out) (Kd.S_typed HO_10.out) (by decide)) (fun k_ hk => ⟨hk.1.2, hk.2⟩))) (fun _ h_ => h_)))
                                  (case aB => exact (by repeat (first | (with_reducible first | exact HB.out | apply below_alloc | apply pw_below_drewN | apply below_drew1 | refine below_set ?_ GE120.out) | exact HB.out)))
                                  (case aF => exact (fun k_ hk => Kd.freshB (g := gb120) (o := .cells #[.string ((rd_T28 l0 x35_1).f0), .int .i64 ((rd_T28 l0 x35_1).f1)] 28 (0, 0)) (by (with_reducible repeat (first | refine blk_drewN ?_ _ | refine blk_drew ?_ | refine blk_alloc ?_ _)); exact BK120.out) k_ hk))
                                  (case aO => exact (by (with_reducible repeat (first | apply Kd.S_alloc | apply Kd.S_drewN | apply Kd.S_drew)); exact Kd.S_mono HO_10.out (fun k_ hk => ⟨hk.1.2, fun e_ => hk.2 e_⟩)))
                                  (case aS => exact (below_size (by repeat (first | (with_reducible first | exact HB.out | apply below_alloc | apply pw_below_drewN | apply below_drew1 | refine below_set ?_ GE120.out) | exact HB.out))))
                                  (case aL => have := LMc36.out; omega)
                                  intro v134 w47 ho hb hg hat
                                  have HMn := Aside0.mk (IsM.grown (B := gB) (l := (x10_1 ++ [(⟨(rd_T28 l0 x35_1).f0, t130⟩ : S36)])) (by repeat (first | (with_reducible exact HM.out) | (with_reducible apply IsM.alloc) | (with_reducible apply IsM.drewN) | (with_reducible apply IsM.drew) | refine IsM.set ?_ NM.out _)) hg (IsM.aways HM.out HO_10.out))
                                  clear HM
                                  have HM := HMn
                                  clear HMn
                                  rw [← Ny133.out] at ho
                                  have n0_ := Aside0.mk (blk_grown (g := gb120) (o := .cells #[.string ((rd_T28 l0 x35_1).f0), .int .i64 ((rd_T28 l0 x35_1).f1)] 28 (0, 0)) (by (with_reducible repeat (first | refine blk_drewN ?_ _ | refine blk_drew ?_ | refine blk_alloc ?_ _)); exact BK120.out) hg (Kd.S_ne HO_10.out BK120.out (by decide)))
                                  have n1_ := Aside0.mk (hb)
                                  have n2_ := Aside0.mk (ho)
                                  clear BK120
                                  clear HB
                                  clear HO_10
                                  clear HO132
                                  have BK120 := n0_
                                  have HB := n1_
                                  have HO135 := n2_
                                  clear n0_ n1_ n2_
                                  clear ho hb hg hat
                                  refine hK.out _ _ ⟨(blk_cell BK120.out 0).trans rfl, (blk_cell BK120.out 1).trans rfl⟩ (fun hHeld => ?_)
                                  clear hK K
                                  refine norm_ (a' := ?_) ?_ ?_
                                  rotate_left
                                  · show Act.put _ (some 82) _ = _
                                    simp only [Act.put, List.setIfInBounds_toArray, List.set_cons_zero, List.set_cons_succ, i64_w, i32_w]
                                    rfl
                                  refine pure_ (i := 8) (N := some 10) (v := ?_) (a' := ?_) #[true, true, true, true, true, true, true, true, true] rfl rfl (any_of HT_.out (by kernel_rfl)) (fun _ _ _ h => h) (Or.inl ⟨by rfl, ?_⟩) ?_ ?_
                                  rotate_left
                                  · intro w'
                                    go_simp
                                    with_reducible rfl
                                  rotate_left
                                  · simp only [Act.put, List.setIfInBounds_toArray, List.set_cons_zero, List.set_cons_succ, i64_w, i32_w]
                                    rfl
                                  refine done_ (done_of HT_.out (by kernel_rfl)) ?_
                                  try go_wp2
                                  go_roundg k1
                                  case measure => have := HK1.out; omega
                                  case rel => exact ⟨(y133), (wrap64 (x12_1 + (y124.length : Int))), (wrap64 (x35_1 + 1)), (by first | rfl | (simp; done) | (simp [*]; done)), (by first | rfl | (simp; done) | (simp [*]; done)), H', ⟨by have := HK1.out; omega⟩, ⟨by (with_reducible repeat (first | apply Kd.S_alloc | apply Kd.S_drewN | apply Kd.S_drew)); exact Kd.S_mono HO135.out (fun _ hk => trivial)⟩, ⟨by repeat (first | (with_reducible first | exact HB.out | apply below_alloc | apply pw_below_drewN | apply below_drew1 | refine below_set ?_ GE120.out) | exact HB.out)⟩, ⟨by rw [Ny133.out]; exact (by repeat (first | (with_reducible exact HM.out) | (with_reducible apply IsM.alloc) | (with_reducible apply IsM.drewN) | (with_reducible apply IsM.drew) | refine IsM.set ?_ NM.out _))⟩⟩
                                · rw [if_neg c36] at H
                                  exact absurd H (by simp)
                            · rw [if_neg c18] at H
                              exact absurd H (by simp)
                          · rw [if_neg c17] at H
                            exact absurd H (by simp)
                        · rw [if_neg c16] at H
                          exact absurd H (by simp)
                      · rw [if_neg c15] at H
                        exact absurd H (by simp)
                    · replace c13 := Bool.eq_false_iff.mpr c13
                      subst c13
                      have H1 : (if 0 ≤ x12_1 then (if x12_1 < (l1.length : Int) then (if (!((((rd_T28 l1 x12_1).f0).toList) == (((rd_T28 l0 x35_1).f0).toList)) || (!(((rd_T28 l1 x12_1).f1) == ((rd_T28 l0 x35_1).f1)))) = true then (some (([] : List (S36)), false, 0)) else (match_Match.l0 k1 l1 x10_1 (wrap64 (x12_1 + 1)) l0 (l0.length : Int) (wrap64 (x35_1 + 1)))) else (none)) else (none)) = some (r1, r2, r3) := by rw [if_neg (show ¬ (false = true) by decide)] at H; exact H
                      clear H
                      have H := H1
                      clear H1
                      by_cases c48 : 0 ≤ x12_1
                      · rw [if_pos c48] at H
                        have c48b0 : decide (0 ≤ x12_1) = true := decide_eq_true c48
                        clear c48
                        by_cases c49 : x12_1 < (l1.length : Int)
                        · rw [if_pos c49] at H
                          have c49b0 : decide (x12_1 < (l1.length : Int)) = true := decide_eq_true c49
                          clear c49
                          by_cases c50 : (!((((rd_T28 l1 x12_1).f0).toList) == (((rd_T28 l0 x35_1).f0).toList)) || (!(((rd_T28 l1 x12_1).f1) == ((rd_T28 l0 x35_1).f1)))) = true
                          · rw [if_pos c50] at H
                            have c50b0 : (!((((rd_T28 l1 x12_1).f0).toList) == (((rd_T28 l0 x35_1).f0).toList)) || (!(((rd_T28 l1 x12_1).f1) == ((rd_T28 l0 x35_1).f1)))) = true := c50
                            clear c50
                            simp only [Option.some.injEq, Prod.mk.injEq] at H
                            obtain ⟨rfl, rfl, rfl⟩ := H
                            have p119 : 0 ≤ (x35_1 : Int) := of_decide_eq_true (by first | (with_reducible assumption) | assumption)
                            have q119 : x35_1 < (l0.length : Int) := of_decide_eq_true (by first | (with_reducible assumption) | assumption)
                            obtain ⟨ad119, e119, hx119_0, hx119_1⟩ := at_T28 HR0.out x35_1 p119 q119
                            cases e119
                            replace hx119_0 := (HB.out.cell (World.block_lt_of_cell? w _ hx119_0)).trans hx119_0
                            replace hx119_1 := (HB.out.cell (World.block_lt_of_cell? w _ hx119_1)).trans hx119_1
                            replace p119 := eq_true p119
                            replace q119 := eq_true q119
                            go_wp2_with (first | ((with_reducible refine gate_dst (N := 14) rfl ?_); refine box_event ?hg (N := 14) ?hd (cs := #[.string (⟨#[]⟩ : ByteArray), .int .i64 0]) (t := 28) ?hr ?_; (case hd => rfl); (case hg => rfl); (case hr => first | (go_simp; done) | (go_simp; rfl)); intro gb120 hg w51 hbox hb; have HMn := Aside0.mk (IsM.below (B := gB) (l := x10_1) (by repeat (first | (with_reducible exact HM.out) | (with_reducible apply IsM.alloc) | (with_reducible apply IsM.drewN) | (with_reducible apply IsM.drew) | refine IsM.set ?_ NM.out _)) hb); clear HM; have HM := HMn; clear HMn; have NM := Aside0.mk (IsM.ne_cells HM.out hbox); have n0_ := Aside0.mk (Kd.S_below (Kd.S_elderB (by (with_reducible repeat (first | apply Kd.S_alloc | apply Kd.S_drewN | apply Kd.S_drew)); exact HO_10.out) gb120 (Nat.le_of_eq hg.symm)) hb); have n1_ := Aside0.mk (below_step (by repeat (first | (with_reducible first | exact HB.out | apply below_alloc | apply pw_below_drewN | apply below_drew1) | exact HB.out)) hb); have n2_ := Aside0.mk (hbox); have n3_ := Aside0.mk ((by rw [hg]; exact (below_size (by repeat (first | (with_reducible first | exact HB.out | apply below_alloc | apply pw_below_drewN | apply below_drew1) | exact HB.out))) : w.heap.size ≤ gb120)); have n4_ := Aside0.mk ((by rw [hg]; exact (below_size (by repeat (first | (with_reducible first | exact HB.out | apply below_alloc | apply pw_below_drewN | apply below_drew1) | exact HB.out))) : w.heap.size ≤ gb120)); clear HO_10; clear HB; have HO_10 := n0_; have HB := n1_; have BK120 := n2_; have GW120 := n3_; have GE120 := n4_; clear n0_ n1_ n2_ n3_ n4_; clear hb hbox hg; have hcz52_0 : w51.cell? ⟨gb120, 0, none⟩ = some (.string (⟨#[]⟩ : ByteArray)) := (blk_cell BK120.out 0).trans rfl; have hcz52_1 : w51.cell? ⟨gb120, 1, none⟩ = some (.int .i64 0) := (blk_cell BK120.out 1).trans rfl; have hfz52_0 := blk_frozen BK120.out 0; have hfz52_1 := blk_frozen BK120.out 1) | ((with_reducible refine gate_callee (f := 34) rfl ?_); refine goesL_ (some 40) rfl rfl Try.func34 (by kernel_rfl) rfl #[.agg #[.string ((rd_T28 l0 x35_1).f0), .int .i64 ((rd_T28 l0 x35_1).f1)]] rfl (by (try simp only [List.map_toArray, List.map_cons, List.map_nil]); first | done | rfl | (simp only [List.length_drop, List.length_take]; rfl)) ?_; (with_reducible refine (match_variable.calls k1 ((rd_T28 l0 x35_1).f0) ((rd_T28 l0 x35_1).f1) false _ A12.out).mono ?_); rintro e w53 ⟨rfl, hb⟩; refine ⟨_, rfl, ?_⟩; have HMn := Aside0.mk (IsM.below (B := gB) (l := x10_1) (by repeat (first | (with_reducible exact HM.out) | (with_reducible apply IsM.alloc) | (with_reducible apply IsM.drewN) | (with_reducible apply IsM.drew) | refine IsM.set ?_ NM.out _)) hb); clear HM; have HM := HMn; clear HMn; have n0_ := Aside0.mk (Kd.S_below (by (with_reducible repeat (first | apply Kd.S_alloc | apply Kd.S_drewN | apply Kd.S_drew)); exact (Kd.S_mono (Kd.S_far (p := ⟨gb120, 1, none⟩) (Kd.S_far (p := ⟨gb120, 0, none⟩) (Kd.S_mono HO_10.out (fun k_ hk => (⟨hk, hk.2⟩ : _ ∧ k_ ≠ gb120))) (fun _ hk => hk.2) (.string ((rd_T28 l0 x35_1).f0))) (fun _ hk => hk.2) (.int .i64 ((rd_T28 l0 x35_1).f1))) (fun _ h_ => h_.1))) hb); have n1_ := Aside0.mk (blk_below (g := gb120) (o := .cells #[.string ((rd_T28 l0 x35_1).f0), .int .i64 ((rd_T28 l0 x35_1).f1)] 28 (0, 0)) (by (with_reducible repeat (first | refine blk_drewN ?_ _ | refine blk_drew ?_ | refine blk_alloc ?_ _)); refine blk_put (cs := #[.string ((rd_T28 l0 x35_1).f0), .int .i64 0]) ?_ 1 _ rfl; (with_reducible repeat (first | refine blk_drewN ?_ _ | refine blk_drew ?_ | refine blk_alloc ?_ _)); refine blk_put (cs := #[.string (⟨#[]⟩ : ByteArray), .int .i64 0]) ?_ 0 _ rfl; (with_reducible repeat (first | refine blk_drewN ?_ _ | refine blk_drew ?_ | refine blk_alloc ?_ _)); exact BK120.out) hb); have n2_ := Aside0.mk (below_step (by repeat (first | (with_reducible first | exact HB.out | apply below_alloc | apply pw_below_drewN | apply below_drew1 | refine below_set ?_ GE120.out) | exact HB.out)) hb); clear HO_10; clear BK120; clear HB; have HO_10 := n0_; have BK120 := n1_; have HB := n2_; clear n0_ n1_ n2_; (try clear hb); (try clear hb2); (try clear hk); (try clear hi)))
                            have HMn := Aside0.mk (IsM.drew (show IsM _ gB x10_1 from (by repeat (first | (with_reducible exact HM.out) | (with_reducible apply IsM.alloc) | (with_reducible apply IsM.drewN) | (with_reducible apply IsM.drew) | refine IsM.set ?_ NM.out _))))
                            clear HM
                            have HM := HMn
                            clear HMn
                            have n0_ := Aside0.mk (Kd.S_drew HO_10.out)
                            have n1_ := Aside0.mk (blk_drew BK120.out)
                            have n2_ := Aside0.mk (below_drew1 HB.out)
                            clear HO_10
                            clear BK120
                            clear HB
                            have HO_10 := n0_
                            have BK120 := n1_
                            have HB := n2_
                            clear n0_ n1_ n2_
                            have p122 : 0 ≤ (x12_1 : Int) := of_decide_eq_true (by first | (with_reducible assumption) | assumption)
                            have q122 : x12_1 < (l1.length : Int) := of_decide_eq_true (by first | (with_reducible assumption) | assumption)
                            obtain ⟨ad122, e122, hx122_0, hx122_1⟩ := at_T28 HR1.out x12_1 p122 q122
                            have hw122_1 := hx122_1
                            have hw122_0 := hx122_0
                            cases e122
                            replace hx122_0 := (HB.out.cell (World.block_lt_of_cell? w _ hx122_0)).trans hx122_0
                            replace hx122_1 := (HB.out.cell (World.block_lt_of_cell? w _ hx122_1)).trans hx122_1
                            replace p122 := eq_true p122
                            replace q122 := eq_true q122
                            refine start_ (n := 6) (S := fun w' => w'.cell? ⟨gb120, 0, none⟩ = some (.string ((rd_T28 l0 x35_1).f0)) ∧ w'.cell? ⟨gb120, 1, none⟩ = some (.int .i64 ((rd_T28 l0 x35_1).f1)) ∧ w'.cell? (ad122.add ((x12_1).toNat * 2)) = some (.string ((rd_T28 l1 x12_1).f0)) ∧ w'.cell? ⟨(ad122.add ((x12_1).toNat * 2)).block, (ad122.add ((x12_1).toNat * 2)).off + 1, none⟩ = some (.int .i64 ((rd_T28 l1 x12_1).f1))) (ds := []) #[false, false, false, false, false, false] (by kernel_rfl) rfl rfl ⟨(blk_cell BK120.out 0).trans rfl, (blk_cell BK120.out 1).trans rfl, ((HB.out.cell (World.block_lt_of_cell? w _ hw122_0)).trans hw122_0), ((HB.out.cell (World.block_lt_of_cell? w _ hw122_1)).trans hw122_1)⟩ (fun hHeld => ?_)
                            generalize w53.drew = w54 at HM HO_10 BK120 HB hx122_0 hx122_1 hHeld ⊢
                            refine pure_ (i := 0) (N := some 42) (v := ?_) (a' := ?_) #[true, false, false, false, false, false] rfl rfl (by kernel_rfl) (fun _ _ _ h => h) (Or.inl ⟨by rfl, ?_⟩) ?_ ?_
                            rotate_left
                            · intro w'
                              go_simp
                              with_reducible rfl
                            rotate_left
                            · simp only [Act.put, List.setIfInBounds_toArray, List.set_cons_zero, List.set_cons_succ, i64_w, i32_w]
                              rfl
                            refine pure_ (i := 1) (N := some 43) (v := ?_) (a' := ?_) #[true, true, false, false, false, false] rfl rfl (by kernel_rfl) (fun _ _ _ h => h) (Or.inl ⟨by rfl, ?_⟩) ?_ ?_
                            rotate_left
                            · intro w'
                              go_simp
                              with_reducible rfl
                            rotate_left
                            · simp only [Act.put, List.setIfInBounds_toArray, List.set_cons_zero, List.set_cons_succ, i64_w, i32_w]
                              rfl
                            refine pure_ (i := 2) (N := some 44) (v := ?_) (a' := ?_) #[true, true, true, false, false, false] rfl rfl (by kernel_rfl) (fun _ _ _ h => h) (Or.inl ⟨by rfl, ?_⟩) ?_ ?_
                            rotate_left
                            · intro w'
                              go_simp
                              with_reducible rfl
                            rotate_left
                            · simp only [Act.put, List.setIfInBounds_toArray, List.set_cons_zero, List.set_cons_succ, i64_w, i32_w]
                              rfl
                            refine take_ (i := 3) (N := some 45) (v := ?_) (a' := ?_) #[true, true, true, true, false, false] rfl rfl (by kernel_rfl) (fun _ _ _ h => h) (Or.inl ⟨by rfl, ?_⟩) hHeld ?_ ?_
                            rotate_left
                            · rintro w' ⟨s0, s1, s2, s3⟩
                              go_simp
                              with_reducible rfl
                            rotate_left
                            · simp only [Act.put, List.setIfInBounds_toArray, List.set_cons_zero, List.set_cons_succ, i64_w, i32_w]
                              rfl
                            refine take_ (i := 4) (N := some 46) (v := ?_) (a' := ?_) #[true, true, true, true, true, false] rfl rfl (by kernel_rfl) (fun _ _ _ h => h) (Or.inl ⟨by rfl, ?_⟩) hHeld ?_ ?_
                            rotate_left
                            · rintro w' ⟨s0, s1, s2, s3⟩
                              go_simp
                              with_reducible rfl
                            rotate_left
                            · simp only [Act.put, List.setIfInBounds_toArray, List.set_cons_zero, List.set_cons_succ, i64_w, i32_w]
                              rfl
                            refine pure_ (i := 5) (N := some 47) (v := ?_) (a' := ?_) #[true, true, true, true, true, true] rfl rfl (by kernel_rfl) (fun _ _ _ h => h) (Or.inl ⟨by rfl, ?_⟩) ?_ ?_
                            rotate_left
                            · intro w'
                              go_simp
                              with_reducible rfl
                            rotate_left
                            · simp only [Act.put, List.setIfInBounds_toArray, List.set_cons_zero, List.set_cons_succ, i64_w, i32_w]
                              rfl
                            refine done_ (by kernel_rfl) ?_
                            try go_wp2
                            go_ret3
                            exact ⟨_, by first | rfl | (simp [errW_none, errW_some] <;> rfl) | (simp [*, errW_none, errW_some] <;> rfl), by first | exact Kd.S_nil _ _ _ _ _ | exact Kd.N_nil _ _ _ _ _ | exact Kd.V_nil _ _ _ _ _ | exact Kd.Q_nil _ _ _ _ _ | exact Kd.R_nil _ _ _ _ _, by repeat (first | (with_reducible first | exact HB.out | apply below_alloc | apply pw_below_drewN | apply below_drew1 | refine below_set ?_ GE120.out) | exact HB.out)⟩
                          · rw [if_neg c50] at H
                            have c50b0 : (!((((rd_T28 l1 x12_1).f0).toList) == (((rd_T28 l0 x35_1).f0).toList)) || (!(((rd_T28 l1 x12_1).f1) == ((rd_T28 l0 x35_1).f1)))) = false := by simpa using c50
                            clear c50
                            have H' := Aside0.mk H
                            clear H
                            have p119 : 0 ≤ (x35_1 : Int) := of_decide_eq_true (by first | (with_reducible assumption) | assumption)
                            have q119 : x35_1 < (l0.length : Int) := of_decide_eq_true (by first | (with_reducible assumption) | assumption)
                            obtain ⟨ad119, e119, hx119_0, hx119_1⟩ := at_T28 HR0.out x35_1 p119 q119
                            cases e119
                            replace hx119_0 := (HB.out.cell (World.block_lt_of_cell? w _ hx119_0)).trans hx119_0
                            replace hx119_1 := (HB.out.cell (World.block_lt_of_cell? w _ hx119_1)).trans hx119_1
                            replace p119 := eq_true p119
                            replace q119 := eq_true q119
                            go_wp2_with (first | ((with_reducible refine gate_dst (N := 14) rfl ?_); refine box_event ?hg (N := 14) ?hd (cs := #[.string (⟨#[]⟩ : ByteArray), .int .i64 0]) (t := 28) ?hr ?_; (case hd => rfl); (case hg => rfl); (case hr => first | (go_simp; done) | (go_simp; rfl)); intro gb120 hg w55 hbox hb; have HMn := Aside0.mk (IsM.below (B := gB) (l := x10_1) (by repeat (first | (with_reducible exact HM.out) | (with_reducible apply IsM.alloc) | (with_reducible apply IsM.drewN) | (with_reducible apply IsM.drew) | refine IsM.set ?_ NM.out _)) hb); clear HM; have HM := HMn; clear HMn; have NM := Aside0.mk (IsM.ne_cells HM.out hbox); have n0_ := Aside0.mk (Kd.S_below (Kd.S_elderB (by (with_reducible repeat (first | apply Kd.S_alloc | apply Kd.S_drewN | apply Kd.S_drew)); exact HO_10.out) gb120 (Nat.le_of_eq hg.symm)) hb); have n1_ := Aside0.mk (below_step (by repeat (first | (with_reducible first | exact HB.out | apply below_alloc | apply pw_below_drewN | apply below_drew1) | exact HB.out)) hb); have n2_ := Aside0.mk (hbox); have n3_ := Aside0.mk ((by rw [hg]; exact (below_size (by repeat (first | (with_reducible first | exact HB.out | apply below_alloc | apply pw_below_drewN | apply below_drew1) | exact HB.out))) : w.heap.size ≤ gb120)); have n4_ := Aside0.mk ((by rw [hg]; exact (below_size (by repeat (first | (with_reducible first | exact HB.out | apply below_alloc | apply pw_below_drewN | apply below_drew1) | exact HB.out))) : w.heap.size ≤ gb120)); clear HO_10; clear HB; have HO_10 := n0_; have HB := n1_; have BK120 := n2_; have GW120 := n3_; have GE120 := n4_; clear n0_ n1_ n2_ n3_ n4_; clear hb hbox hg; have hcz56_0 : w55.cell? ⟨gb120, 0, none⟩ = some (.string (⟨#[]⟩ : ByteArray)) := (blk_cell BK120.out 0).trans rfl; have hcz56_1 : w55.cell? ⟨gb120, 1, none⟩ = some (.int .i64 0) := (blk_cell BK120.out 1).trans rfl; have hfz56_0 := blk_frozen BK120.out 0; have hfz56_1 := blk_frozen BK120.out 1) | ((with_reducible refine gate_callee (f := 34) rfl ?_); refine goesL_ (some 40) rfl rfl Try.func34 (by kernel_rfl) rfl #[.agg #[.string ((rd_T28 l0 x35_1).f0), .int .i64 ((rd_T28 l0 x35_1).f1)]] rfl (by (try simp only [List.map_toArray, List.map_cons, List.map_nil]); first | done | rfl | (simp only [List.length_drop, List.length_take]; rfl)) ?_; (with_reducible refine (match_variable.calls k1 ((rd_T28 l0 x35_1).f0) ((rd_T28 l0 x35_1).f1) false _ A12.out).mono ?_); rintro e w57 ⟨rfl, hb⟩; refine ⟨_, rfl, ?_⟩; have HMn := Aside0.mk (IsM.below (B := gB) (l := x10_1) (by repeat (first | (with_reducible exact HM.out) | (with_reducible apply IsM.alloc) | (with_reducible apply IsM.drewN) | (with_reducible apply IsM.drew) | refine IsM.set ?_ NM.out _)) hb); clear HM; have HM := HMn; clear HMn; have n0_ := Aside0.mk (Kd.S_below (by (with_reducible repeat (first | apply Kd.S_alloc | apply Kd.S_drewN | apply Kd.S_drew)); exact (Kd.S_mono (Kd.S_far (p := ⟨gb120, 1, none⟩) (Kd.S_far (p := ⟨gb120, 0, none⟩) (Kd.S_mono HO_10.out (fun k_ hk => (⟨hk, hk.2⟩ : _ ∧ k_ ≠ gb120))) (fun _ hk => hk.2) (.string ((rd_T28 l0 x35_1).f0))) (fun _ hk => hk.2) (.int .i64 ((rd_T28 l0 x35_1).f1))) (fun _ h_ => h_.1))) hb); have n1_ := Aside0.mk (blk_below (g := gb120) (o := .cells #[.string ((rd_T28 l0 x35_1).f0), .int .i64 ((rd_T28 l0 x35_1).f1)] 28 (0, 0)) (by (with_reducible repeat (first | refine blk_drewN ?_ _ | refine blk_drew ?_ | refine blk_alloc ?_ _)); refine blk_put (cs := #[.string ((rd_T28 l0 x35_1).f0), .int .i64 0]) ?_ 1 _ rfl; (with_reducible repeat (first | refine blk_drewN ?_ _ | refine blk_drew ?_ | refine blk_alloc ?_ _)); refine blk_put (cs := #[.string (⟨#[]⟩ : ByteArray), .int .i64 0]) ?_ 0 _ rfl; (with_reducible repeat (first | refine blk_drewN ?_ _ | refine blk_drew ?_ | refine blk_alloc ?_ _)); exact BK120.out) hb); have n2_ := Aside0.mk (below_step (by repeat (first | (with_reducible first | exact HB.out | apply below_alloc | apply pw_below_drewN | apply below_drew1 | refine below_set ?_ GE120.out) | exact HB.out)) hb); clear HO_10; clear BK120; clear HB; have HO_10 := n0_; have BK120 := n1_; have HB := n2_; clear n0_ n1_ n2_; (try clear hb); (try clear hb2); (try clear hk); (try clear hi)))
                            have HMn := Aside0.mk (IsM.drew (show IsM _ gB x10_1 from (by repeat (first | (with_reducible exact HM.out) | (with_reducible apply IsM.alloc) | (with_reducible apply IsM.drewN) | (with_reducible apply IsM.drew) | refine IsM.set ?_ NM.out _))))
                            clear HM
                            have HM := HMn
                            clear HMn
                            have n0_ := Aside0.mk (Kd.S_drew HO_10.out)
                            have n1_ := Aside0.mk (blk_drew BK120.out)
                            have n2_ := Aside0.mk (below_drew1 HB.out)
                            clear HO_10
                            clear BK120
                            clear HB
                            have HO_10 := n0_
                            have BK120 := n1_
                            have HB := n2_
                            clear n0_ n1_ n2_
                            have p122 : 0 ≤ (x12_1 : Int) := of_decide_eq_true (by first | (with_reducible assumption) | assumption)
                            have q122 : x12_1 < (l1.length : Int) := of_decide_eq_true (by first | (with_reducible assumption) | assumption)
                            obtain ⟨ad122, e122, hx122_0, hx122_1⟩ := at_T28 HR1.out x12_1 p122 q122
                            have hw122_1 := hx122_1
                            have hw122_0 := hx122_0
                            cases e122
                            replace hx122_0 := (HB.out.cell (World.block_lt_of_cell? w _ hx122_0)).trans hx122_0
                            replace hx122_1 := (HB.out.cell (World.block_lt_of_cell? w _ hx122_1)).trans hx122_1
                            replace p122 := eq_true p122
                            replace q122 := eq_true q122
                            refine start_ (n := 6) (S := fun w' => w'.cell? ⟨gb120, 0, none⟩ = some (.string ((rd_T28 l0 x35_1).f0)) ∧ w'.cell? ⟨gb120, 1, none⟩ = some (.int .i64 ((rd_T28 l0 x35_1).f1)) ∧ w'.cell? (ad122.add ((x12_1).toNat * 2)) = some (.string ((rd_T28 l1 x12_1).f0)) ∧ w'.cell? ⟨(ad122.add ((x12_1).toNat * 2)).block, (ad122.add ((x12_1).toNat * 2)).off + 1, none⟩ = some (.int .i64 ((rd_T28 l1 x12_1).f1))) (ds := []) #[false, false, false, false, false, false] (by kernel_rfl) rfl rfl ⟨(blk_cell BK120.out 0).trans rfl, (blk_cell BK120.out 1).trans rfl, ((HB.out.cell (World.block_lt_of_cell? w _ hw122_0)).trans hw122_0), ((HB.out.cell (World.block_lt_of_cell? w _ hw122_1)).trans hw122_1)⟩ (fun hHeld => ?_)
                            generalize w57.drew = w58 at HM HO_10 BK120 HB hx122_0 hx122_1 hHeld ⊢
                            refine pure_ (i := 0) (N := some 42) (v := ?_) (a' := ?_) #[true, false, false, false, false, false] rfl rfl (by kernel_rfl) (fun _ _ _ h => h) (Or.inl ⟨by rfl, ?_⟩) ?_ ?_
                            rotate_left
                            · intro w'
                              go_simp
                              with_reducible rfl
                            rotate_left
                            · simp only [Act.put, List.setIfInBounds_toArray, List.set_cons_zero, List.set_cons_succ, i64_w, i32_w]
                              rfl
                            refine pure_ (i := 1) (N := some 43) (v := ?_) (a' := ?_) #[true, true, false, false, false, false] rfl rfl (by kernel_rfl) (fun _ _ _ h => h) (Or.inl ⟨by rfl, ?_⟩) ?_ ?_
                            rotate_left
                            · intro w'
                              go_simp
                              with_reducible rfl
                            rotate_left
                            · simp only [Act.put, List.setIfInBounds_toArray, List.set_cons_zero, List.set_cons_succ, i64_w, i32_w]
                              rfl
                            refine pure_ (i := 2) (N := some 44) (v := ?_) (a' := ?_) #[true, true, true, false, false, false] rfl rfl (by kernel_rfl) (fun _ _ _ h => h) (Or.inl ⟨by rfl, ?_⟩) ?_ ?_
                            rotate_left
                            · intro w'
                              go_simp
                              with_reducible rfl
                            rotate_left
                            · simp only [Act.put, List.setIfInBounds_toArray, List.set_cons_zero, List.set_cons_succ, i64_w, i32_w]
                              rfl
                            refine take_ (i := 3) (N := some 45) (v := ?_) (a' := ?_) #[true, true, true, true, false, false] rfl rfl (by kernel_rfl) (fun _ _ _ h => h) (Or.inl ⟨by rfl, ?_⟩) hHeld ?_ ?_
                            rotate_left
                            · rintro w' ⟨s0, s1, s2, s3⟩
                              go_simp
                              with_reducible rfl
                            rotate_left
                            · simp only [Act.put, List.setIfInBounds_toArray, List.set_cons_zero, List.set_cons_succ, i64_w, i32_w]
                              rfl
                            refine take_ (i := 4) (N := some 46) (v := ?_) (a' := ?_) #[true, true, true, true, true, false] rfl rfl (by kernel_rfl) (fun _ _ _ h => h) (Or.inl ⟨by rfl, ?_⟩) hHeld ?_ ?_
                            rotate_left
                            · rintro w' ⟨s0, s1, s2, s3⟩
                              go_simp
                              with_reducible rfl
                            rotate_left
                            · simp only [Act.put, List.setIfInBounds_toArray, List.set_cons_zero, List.set_cons_succ, i64_w, i32_w]
                              rfl
                            refine pure_ (i := 5) (N := some 47) (v := ?_) (a' := ?_) #[true, true, true, true, true, true] rfl rfl (by kernel_rfl) (fun _ _ _ h => h) (Or.inl ⟨by rfl, ?_⟩) ?_ ?_
                            rotate_left
                            · intro w'
                              go_simp
                              with_reducible rfl
                            rotate_left
                            · simp only [Act.put, List.setIfInBounds_toArray, List.set_cons_zero, List.set_cons_succ, i64_w, i32_w]
                              rfl
                            refine done_ (by kernel_rfl) ?_
                            try go_wp2
                            go_roundg k1
                            case measure => have := HK1.out; omega
                            case rel => exact ⟨(x10_1), (wrap64 (x12_1 + 1)), (wrap64 (x35_1 + 1)), (by first | rfl | (simp; done) | (simp [*]; done)), (by first | rfl | (simp; done) | (simp [*]; done)), H', ⟨by have := HK1.out; omega⟩, ⟨by (with_reducible repeat (first | apply Kd.S_alloc | apply Kd.S_drewN | apply Kd.S_drew)); exact Kd.S_mono HO_10.out (fun _ hk => trivial)⟩, ⟨by repeat (first | (with_reducible first | exact HB.out | apply below_alloc | apply pw_below_drewN | apply below_drew1 | refine below_set ?_ GE120.out) | exact HB.out)⟩, ⟨(by repeat (first | (with_reducible exact HM.out) | (with_reducible apply IsM.alloc) | (with_reducible apply IsM.drewN) | (with_reducible apply IsM.drew) | refine IsM.set ?_ NM.out _))⟩⟩
                        · rw [if_neg c49] at H
                          exact absurd H (by simp)
                      · rw [if_neg c48] at H
                        exact absurd H (by simp)
                  · rw [if_neg c11] at H
                    exact absurd H (by simp)
                · rw [if_neg c10] at H
                  exact absurd H (by simp)
              · rw [if_neg c9] at H
                have c9b0 : decide (x35_1 < (l0.length : Int)) = false := decide_eq_false c9
                clear c9
                simp only [Option.some.injEq, Prod.mk.injEq] at H
                obtain ⟨rfl, rfl, rfl⟩ := H
                go_wp2
                go_ret3
                exact ⟨_, by first | rfl | (simp [errW_none, errW_some] <;> rfl) | (simp [*, errW_none, errW_some] <;> rfl), by (with_reducible repeat (first | apply Kd.S_alloc | apply Kd.S_drewN | apply Kd.S_drew)); exact HO_10.out, by repeat (first | (with_reducible first | exact HB.out | apply below_alloc | apply pw_below_drewN | apply below_drew1) | exact HB.out)⟩
    · rw [if_neg c6] at H
      have c6b0 : (t118 == 0) = false := beq_eq_false_iff_ne.mpr c6
      have c6b1 : (t118 != 0) = true := bne_iff_ne.mpr c6
      simp only [Option.some.injEq, Prod.mk.injEq] at H
      obtain ⟨rfl, rfl, rfl⟩ := H
      go_enter Try.func12, Try.ntmps12
      go_wp2_with (first | ((with_reducible refine gate_dst (N := 20) rfl ?_); refine lit_event ?hg (N := 20) ?hd (cs := #[.slice A0 l0.length c0, .slice A1 l1.length c1]) (t := 23) (n := 2) ?hr ?_; (case hd => rfl); (case hg => rfl); (case hr => first | (go_simp; done) | (go_simp; rfl)); intro gL hgL wL hL hbL; have HBn := Aside0.mk (below_step (by repeat (first | (with_reducible first | exact HB.out | apply below_alloc | apply pw_below_drewN | apply below_drew1) | exact HB.out)) hbL); clear HB; have HB := HBn; clear HBn; have BLT := Aside0.mk hL; clear hL hbL hgL))
      go_loopg [22] 1 (fun kq v22 w' => ∃ (i_ : Int), v22 = .int .i64 i_ ∧ Aside0 (0 ≤ i_ ∧ i_ ≤ 1 ∧ (kq : Int) + i_ = 1) ∧ Aside0 (w'.heap[gL]? = some (.cells #[.slice A0 l0.length c0, .slice A1 l1.length c1] 23 (0, 0))) ∧ Aside0 (Below w.heap.size w w'))
      case atStart => exact ⟨0, rfl, ⟨by omega⟩, ⟨by (with_reducible repeat (first | refine blk_drewN ?_ _ | refine blk_drew ?_ | refine blk_alloc ?_ _)); exact BLT.out⟩, ⟨(by repeat (first | (with_reducible first | exact HB.out | apply below_alloc | apply pw_below_drewN | apply below_drew1) | exact HB.out))⟩⟩
      case round =>
        clear HB BLT
        obtain ⟨i_, rfl, HI_, BLT, HB⟩ := hrel
        have hi_ := HI_.out
        rcases (show i_ = 0 ∨ i_ = 1 by omega) with h_ | h_
        · subst h_
          obtain rfl : gk = 1 := by omega
          clear hi_ HI_
          have hcL_ : wr.cell? ⟨gL, 0, none⟩ = _ := (blk_cell BLT.out 0).trans rfl
          have hfL_ := blk_frozen BLT.out 0
          go_wp2_with (first | ((with_reducible refine gate_callee (f := 33) rfl ?_); refine goesL_ (some 27) rfl rfl Try.func33 (by kernel_rfl) rfl #[.slice A0 l0.length c0] rfl (by (try simp only [List.map_toArray, List.map_cons, List.map_nil]); first | done | rfl | (simp only [List.length_drop, List.length_take]; rfl)) ?_; (with_reducible refine (term_Check.calls k _ _ l0 t117 _ ?side1 ?side2 A3.out).mono ?_); (case side1 => repeat (first | exact (Kd.C_below HR0.out HB.out) | (with_reducible refine Kd.C_alloc ?_ _) | (with_reducible refine Kd.C_drewN ?_ _) | (with_reducible refine Kd.C_drew ?_))); (case side2 => exact HC0.out); rintro e w59 ⟨rfl, hb⟩; refine ⟨_, rfl, ?_⟩; have BLn := Aside0.mk (blk_below (g := gL) (o := (.cells #[.slice A0 l0.length c0, .slice A1 l1.length c1] 23 (0, 0))) (by (with_reducible repeat (first | refine blk_drewN ?_ _ | refine blk_drew ?_ | refine blk_alloc ?_ _)); exact BLT.out) hb); clear BLT; have BLT := BLn; clear BLn; have n0_ := Aside0.mk (below_step (by repeat (first | (with_reducible first | exact HB.out | apply below_alloc | apply pw_below_drewN | apply below_drew1) | exact HB.out)) hb); clear HB; have HB := n0_; clear n0_; (try clear hb); (try clear hb2); (try clear hk); (try clear hi)))
          go_roundg 0
          case measure => omega
          case rel => exact ⟨1, rfl, ⟨by omega⟩, ⟨by (with_reducible repeat (first | refine blk_drewN ?_ _ | refine blk_drew ?_ | refine blk_alloc ?_ _)); exact BLT.out⟩, ⟨(by repeat (first | (with_reducible first | exact HB.out | apply below_alloc | apply pw_below_drewN | apply below_drew1) | exact HB.out))⟩⟩
        · subst h_
          clear hi_ HI_
          have hcL_ : wr.cell? ⟨gL, 1, none⟩ = _ := (blk_cell BLT.out 1).trans rfl
          have hfL_ := blk_frozen BLT.out 1
          go_wp2_with (first | ((with_reducible refine gate_callee (f := 33) rfl ?_); refine goesL_ (some 27) rfl rfl Try.func33 (by kernel_rfl) rfl #[.slice A1 l1.length c1] rfl (by (try simp only [List.map_toArray, List.map_cons, List.map_nil]); first | done | rfl | (simp only [List.length_drop, List.length_take]; rfl)) ?_; (with_reducible refine (term_Check.calls k _ _ l1 t118 _ ?side1 ?side2 A5.out).mono ?_); (case side1 => repeat (first | exact (Kd.C_below HR1.out HB.out) | (with_reducible refine Kd.C_alloc ?_ _) | (with_reducible refine Kd.C_drewN ?_ _) | (with_reducible refine Kd.C_drew ?_))); (case side2 => exact HC1.out); rintro e w60 ⟨rfl, hb⟩; refine ⟨_, rfl, ?_⟩; have BLn := Aside0.mk (blk_below (g := gL) (o := (.cells #[.slice A0 l0.length c0, .slice A1 l1.length c1] 23 (0, 0))) (by (with_reducible repeat (first | refine blk_drewN ?_ _ | refine blk_drew ?_ | refine blk_alloc ?_ _)); exact BLT.out) hb); clear BLT; have BLT := BLn; clear BLn; have n0_ := Aside0.mk (below_step (by repeat (first | (with_reducible first | exact HB.out | apply below_alloc | apply pw_below_drewN | apply below_drew1) | exact HB.out)) hb); clear HB; have HB := n0_; clear n0_; (try clear hb); (try clear hb2); (try clear hk); (try clear hi)))
          go_ret3
          exact ⟨_, by first | rfl | (simp [errW_none, errW_some] <;> rfl) | (simp [*, errW_none, errW_some] <;> rfl), by first | exact Kd.S_nil _ _ _ _ _ | exact Kd.N_nil _ _ _ _ _ | exact Kd.V_nil _ _ _ _ _ | exact Kd.Q_nil _ _ _ _ _ | exact Kd.R_nil _ _ _ _ _, by repeat (first | (with_reducible first | exact HB.out | apply below_alloc | apply pw_below_drewN | apply below_drew1) | exact HB.out)⟩
  · rw [if_neg c4] at H
    have c4b0 : (t117 == 0) = false := beq_eq_false_iff_ne.mpr c4
    have c4b1 : (t117 != 0) = true := bne_iff_ne.mpr c4
    simp only [Option.some.injEq, Prod.mk.injEq] at H
    obtain ⟨rfl, rfl, rfl⟩ := H
    go_enter Try.func12, Try.ntmps12
    go_wp2_with (first | ((with_reducible refine gate_dst (N := 20) rfl ?_); refine lit_event ?hg (N := 20) ?hd (cs := #[.slice A0 l0.length c0, .slice A1 l1.length c1]) (t := 23) (n := 2) ?hr ?_; (case hd => rfl); (case hg => rfl); (case hr => first | (go_simp; done) | (go_simp; rfl)); intro gL hgL wL hL hbL; have HBn := Aside0.mk (below_step (by repeat (first | (with_reducible first | exact HB.out | apply below_alloc | apply pw_below_drewN | apply below_drew1) | exact HB.out)) hbL); clear HB; have HB := HBn; clear HBn; have BLT := Aside0.mk hL; clear hL hbL hgL))
    go_loopg [22] 0 (fun kq v22 w' => ∃ (i_ : Int), v22 = .int .i64 i_ ∧ Aside0 (0 ≤ i_ ∧ i_ ≤ 0 ∧ (kq : Int) + i_ = 0) ∧ Aside0 (w'.heap[gL]? = some (.cells #[.slice A0 l0.length c0, .slice A1 l1.length c1] 23 (0, 0))) ∧ Aside0 (Below w.heap.size w w'))
    case atStart => exact ⟨0, rfl, ⟨by omega⟩, ⟨by (with_reducible repeat (first | refine blk_drewN ?_ _ | refine blk_drew ?_ | refine blk_alloc ?_ _)); exact BLT.out⟩, ⟨(by repeat (first | (with_reducible first | exact HB.out | apply below_alloc | apply pw_below_drewN | apply below_drew1) | exact HB.out))⟩⟩
    case round =>
      clear HB BLT
      obtain ⟨i_, rfl, HI_, BLT, HB⟩ := hrel
      have hi_ := HI_.out
      obtain rfl : i_ = 0 := by omega
      clear hi_ HI_
      have hcL_ : wr.cell? ⟨gL, 0, none⟩ = _ := (blk_cell BLT.out 0).trans rfl
      have hfL_ := blk_frozen BLT.out 0
      go_wp2_with (first | ((with_reducible refine gate_callee (f := 33) rfl ?_); refine goesL_ (some 27) rfl rfl Try.func33 (by kernel_rfl) rfl #[.slice A0 l0.length c0] rfl (by (try simp only [List.map_toArray, List.map_cons, List.map_nil]); first | done | rfl | (simp only [List.length_drop, List.length_take]; rfl)) ?_; (with_reducible refine (term_Check.calls k _ _ l0 t117 _ ?side1 ?side2 A3.out).mono ?_); (case side1 => repeat (first | exact (Kd.C_below HR0.out HB.out) | (with_reducible refine Kd.C_alloc ?_ _) | (with_reducible refine Kd.C_drewN ?_ _) | (with_reducible refine Kd.C_drew ?_))); (case side2 => exact HC0.out); rintro e w61 ⟨rfl, hb⟩; refine ⟨_, rfl, ?_⟩; have BLn := Aside0.mk (blk_below (g := gL) (o := (.cells #[.slice A0 l0.length c0, .slice A1 l1.length c1] 23 (0, 0))) (by (with_reducible repeat (first | refine blk_drewN ?_ _ | refine blk_drew ?_ | refine blk_alloc ?_ _)); exact BLT.out) hb); clear BLT; have BLT := BLn; clear BLn; have n0_ := Aside0.mk (below_step (by repeat (first | (with_reducible first | exact HB.out | apply below_alloc | apply pw_below_drewN | apply below_drew1) | exact HB.out)) hb); clear HB; have HB := n0_; clear n0_; (try clear hb); (try clear hb2); (try clear hk); (try clear hi)))
      go_ret3
      exact ⟨_, by first | rfl | (simp [errW_none, errW_some] <;> rfl) | (simp [*, errW_none, errW_some] <;> rfl), by first | exact Kd.S_nil _ _ _ _ _ | exact Kd.N_nil _ _ _ _ _ | exact Kd.V_nil _ _ _ _ _ | exact Kd.Q_nil _ _ _ _ _ | exact Kd.R_nil _ _ _ _ _, by repeat (first | (with_reducible first | exact HB.out | apply below_alloc | apply pw_below_drewN | apply below_drew1) | exact HB.out)⟩

end Go.Proofs.Ytnkpcnnbeaomnaa.C
end
