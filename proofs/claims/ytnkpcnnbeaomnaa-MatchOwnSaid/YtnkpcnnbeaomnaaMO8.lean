import Derived.Test.YtnkpcnnbeaomnaaMO6
import Derived.Test.YtnkpcnnbeaomnaaMO7

section
-- Written by a program of this session (a scratch print over hand-made contracts), out of the translation. Not trusted: Lean checks it.
namespace Go.Proofs.Ytnkpcnnbeaomnaa.C
open Go.RowKit Go.Proofs.YtnkpcnnbeaomnaaW.PrintWords Go.Proofs.YtnkpcnnbeaomnaaW.PrintLast Go.Proofs.YtnkpcnnbeaomnaaW.PrintMore
attribute [local go_sem] max2_int min2_int max_two min_two max_three min_three max_four min_four   -- for this text's walks alone
set_option linter.unusedVariables false
set_option linter.unusedSimpArgs false

/-! ### match_Fill: function 13 -/
mutual
def match_Fill.l0 : Nat → List (S28) → List (S36) → List (S36) → Int → Int → Option ((List (S28)) × Int)
  | 0, _, _, _, _, _ => none
  | k + 1, x0, x1, x24, x25, x26 => if x26 < x25 then (if 0 ≤ x26 then (if x26 < (x24.length : Int) then ((name_Kind.f k ((rd_T36 x24 x26).f0)).bind fun t139 => (if t139 = 2 then (if ((rd_T36 x24 x26).f0).size ≤ 8 then (if bhas (List.take (Int.toNat x26) x1) ((rd_T36 x24 x26).f0) = true then (some (([] : List (S28)), 9)) else ((term_Check.f k ((rd_T36 x24 x26).f1)).bind fun t140 => (if t140 = 0 then (if x26 < 3518437208883 then (match_Fill.l0 k x0 x1 x24 x25 (wrap64 (x26 + 1))) else (none)) else (some (([] : List (S28)), t140))))) else (none)) else (some (([] : List (S28)), 4)))) else (none)) else (none)) else (match_Fill.l1 k x1 ([] : List (S28)) x0 (x0.length : Int) 0)
def match_Fill.l1 : Nat → List (S36) → List (S28) → List (S28) → Int → Int → Option ((List (S28)) × Int)
  | 0, _, _, _, _, _ => none
  | k + 1, x1, x13, x54, x55, x56 => if x56 < x55 then (if 0 ≤ x56 then (if x56 < (x54.length : Int) then (if ((rd_T28 x54 x56).f0).size ≤ 8 then ((match_variable.f k ((rd_T28 x54 x56).f0) ((rd_T28 x54 x56).f1)).bind fun t143 => (if t143 = true then (if (bhas x1 ((rd_T28 x54 x56).f0) = true) then (if 0 ≤ (bfind x1 ((rd_T28 x54 x56).f0)) then (if (bfind x1 ((rd_T28 x54 x56).f0)) < (x1.length : Int) then (if x13.length + ((rd_T36 x1 (bfind x1 ((rd_T28 x54 x56).f0))).f1).length < 5864062014805 then (match_Fill.l1 k x1 (x13 ++ ((rd_T36 x1 (bfind x1 ((rd_T28 x54 x56).f0))).f1)) x54 x55 (wrap64 (x56 + 1))) else (none)) else (none)) else (none)) else (some (([] : List (S28)), 7))) else (if x13.length < 5864062014805 then (match_Fill.l1 k x1 (x13 ++ [(⟨(rd_T28 x54 x56).f0, (rd_T28 x54 x56).f1⟩ : S28)]) x54 x55 (wrap64 (x56 + 1))) else (none)))) else (none)) else (none)) else (none)) else (if (x13.length : Int) > 64 then (some (([] : List (S28)), 6)) else (some (x13, 0)))
end
def match_Fill.f (k : Nat) (l0 : List (S28)) (l1 : List (S36)) : Option ((List (S28)) × Int) := (term_Check.f k l0).bind fun t136 => (if t136 = 0 then (match_Fill.l0 k l0 l1 l1 (l1.length : Int) 0) else (some (([] : List (S28)), t136)))
theorem match_Fill.mono_l : ∀ k, (∀ y0 y1 y2 y3 y4, LeO (match_Fill.l0 k y0 y1 y2 y3 y4) (match_Fill.l0 (k + 1) y0 y1 y2 y3 y4)) ∧ (∀ y0 y1 y2 y3 y4, LeO (match_Fill.l1 k y0 y1 y2 y3 y4) (match_Fill.l1 (k + 1) y0 y1 y2 y3 y4))
  | 0 => ⟨fun _ _ _ _ _ r h => by simp [match_Fill.l0] at h, fun _ _ _ _ _ r h => by simp [match_Fill.l1] at h⟩
  | k + 1 => by
    obtain ⟨ih0, ih1⟩ := match_Fill.mono_l k
    refine ⟨?_, ?_⟩
    · intro y0 y1 y2 y3 y4
      unfold match_Fill.l0
      repeat' first
      | (with_reducible exact ih0 _ _ _ _ _)
      | (with_reducible exact ih1 _ _ _ _ _)
      | (with_reducible exact match_variable.mono _ _ _)
      | (with_reducible exact name_Kind.mono _ _)
      | (with_reducible exact term_Check.mono _ _)
      | (with_reducible exact LeO.refl _)
      | (with_reducible exact LeO.none _)
      | (with_reducible refine LeO.ite ?_ ?_)
      | (with_reducible refine LeO.bind ?_ (fun _ => ?_))
      | exact ih0 _ _ _ _ _
      | exact ih1 _ _ _ _ _
      | exact match_variable.mono _ _ _
      | exact name_Kind.mono _ _
      | exact term_Check.mono _ _
      | exact LeO.none _
      | refine LeO.ite ?_ ?_
      | refine LeO.bind ?_ (fun _ => ?_)
    · intro y0 y1 y2 y3 y4
      unfold match_Fill.l1
      repeat' first
      | (with_reducible exact ih0 _ _ _ _ _)
      | (with_reducible exact ih1 _ _ _ _ _)
      | (with_reducible exact match_variable.mono _ _ _)
      | (with_reducible exact name_Kind.mono _ _)
      | (with_reducible exact term_Check.mono _ _)
      | (with_reducible exact LeO.refl _)
      | (with_reducible exact LeO.none _)
      | (with_reducible refine LeO.ite ?_ ?_)
      | (with_reducible refine LeO.bind ?_ (fun _ => ?_))
      | exact ih0 _ _ _ _ _
      | exact ih1 _ _ _ _ _
      | exact match_variable.mono _ _ _
      | exact name_Kind.mono _ _
      | exact term_Check.mono _ _
      | exact LeO.none _
      | refine LeO.ite ?_ ?_
      | refine LeO.bind ?_ (fun _ => ?_)
theorem match_Fill.mono : ∀ a0 a1 k, LeO (match_Fill.f k a0 a1) (match_Fill.f (k + 1) a0 a1) := by
  intro a0 a1 k
  obtain ⟨ih0, ih1⟩ := match_Fill.mono_l k
  unfold match_Fill.f
  repeat' first
      | (with_reducible exact ih0 _ _ _ _ _)
      | (with_reducible exact ih1 _ _ _ _ _)
      | (with_reducible exact match_variable.mono _ _ _)
      | (with_reducible exact name_Kind.mono _ _)
      | (with_reducible exact term_Check.mono _ _)
      | (with_reducible exact LeO.refl _)
      | (with_reducible exact LeO.none _)
      | (with_reducible refine LeO.ite ?_ ?_)
      | (with_reducible refine LeO.bind ?_ (fun _ => ?_))
      | exact ih0 _ _ _ _ _
      | exact ih1 _ _ _ _ _
      | exact match_variable.mono _ _ _
      | exact name_Kind.mono _ _
      | exact term_Check.mono _ _
      | exact LeO.none _
      | refine LeO.ite ?_ ?_
      | refine LeO.bind ?_ (fun _ => ?_)
set_option maxHeartbeats 8000000 in
set_option maxRecDepth 100000 in
theorem match_Fill.calls (k : Nat) (A0 : Option Addr) (c0 : Nat) (l0 : List (S28)) (A1 : Option Addr) (c1 : Nat) (l1 : List (S36)) (r1 : List (S28)) (r2 : Int) (w : World) (hr0 : Kd.C k28 w A0 l0.length l0) (hc0 : l0.length ≤ c0) (hr1 : Kd.C k36 w A1 l1.length l1) (hc1 : l1.length ≤ c1) (h : match_Fill.f k l0 l1 = some (r1, r2)) :
    Calls Try.prog 13 #[.slice A0 l0.length c0, .slice A1 l1.length c1] w fun e w' => ∃ v0_ : Value, e = .returned (.tuple #[v0_, .int .i64 r2]) ∧ Kd.R k28 28 w' w.heap.size (fun _ => True) v0_ r1 ∧ Below w.heap.size w w' := by
  have hu36 := Try.underlying36
  have hu28 := Try.underlying28
  have HR0 := Aside0.mk hr0
  have HC0 := Aside0.mk hc0
  clear hr0 hc0
  have HR1 := Aside0.mk hr1
  have HC1 := Aside0.mk hc1
  clear hr1 hc1
  have HB := Aside0.mk (Below.refl w.heap.size w)
  have H : ((term_Check.f k l0).bind fun t136 => (if t136 = 0 then (match_Fill.l0 k l0 l1 l1 (l1.length : Int) 0) else (some (([] : List (S28)), t136)))) = some (r1, r2) := h
  clear h
  replace H := Option.bind_eq_some_iff.mp H
  obtain ⟨t136, A30, H⟩ := H
  replace H : (if t136 = 0 then (match_Fill.l0 k l0 l1 l1 (l1.length : Int) 0) else (some (([] : List (S28)), t136))) = some (r1, r2) := H
  have A3 := Aside0.mk A30
  clear A30
  by_cases c4 : t136 = 0
  · rw [if_pos c4] at H
    have c4b0 : (t136 == 0) = true := beq_iff_eq.mpr c4
    have c4b1 : (t136 != 0) = false := bne_eq_false_iff_eq.mpr c4
    clear c4
    have H' := Aside0.mk H
    clear H
    go_enter Try.func13, Try.ntmps13
    go_wp2_with (first | ((with_reducible refine gate_callee (f := 33) rfl ?_); refine goesL_ (some 19) rfl rfl Try.func33 (by kernel_rfl) rfl #[.slice A0 l0.length c0] rfl (by (try simp only [List.map_toArray, List.map_cons, List.map_nil]); first | done | rfl | (simp only [List.length_drop, List.length_take]; rfl)) ?_; (with_reducible refine (term_Check.calls k _ _ l0 t136 _ ?side1 ?side2 A3.out).mono ?_); (case side1 => repeat (first | exact HR0.out | (with_reducible refine Kd.C_alloc ?_ _) | (with_reducible refine Kd.C_drewN ?_ _) | (with_reducible refine Kd.C_drew ?_))); (case side2 => exact HC0.out); rintro e w5 ⟨rfl, hb⟩; refine ⟨_, rfl, ?_⟩; have n0_ := Aside0.mk (below_step (by repeat (first | (with_reducible first | exact HB.out | apply below_alloc | apply pw_below_drewN | apply below_drew1) | exact HB.out)) hb); clear HB; have HB := n0_; clear n0_; (try clear hb); (try clear hb2); (try clear hk); (try clear hi)) | ((with_reducible refine gate_dst (N := 23) rfl ?_); refine map_made rfl rfl ?_; intro gB hgB wM hM hbM; have GM := Aside0.mk (show w.heap.size ≤ gB by rw [hgB]; exact below_size (by repeat (first | (with_reducible first | exact HB.out | apply below_alloc | apply pw_below_drewN | apply below_drew1) | exact HB.out))); have HBn := Aside0.mk (below_step (by repeat (first | (with_reducible first | exact HB.out | apply below_alloc | apply pw_below_drewN | apply below_drew1) | exact HB.out)) hbM); clear HB; have HB := HBn; clear HBn; have HM := Aside0.mk hM; clear hM hbM hgB))
    go_loopg [26] k (fun kq v26 w' => ∃ (x26_1 : Int), v26 = .int .i64 x26_1 ∧ Aside0 (match_Fill.l0 kq l0 l1 l1 (l1.length : Int) x26_1 = some (r1, r2)) ∧ Aside0 (kq ≤ k) ∧ Aside0 (Below w.heap.size w w') ∧ Aside0 (IsM w' gB (List.take (Int.toNat x26_1) l1)))
    case atStart => exact ⟨(0), (by first | rfl | (simp; done) | (simp [*]; done)), H', ⟨Nat.le_refl _⟩, ⟨by repeat (first | (with_reducible first | exact HB.out | apply below_alloc | apply pw_below_drewN | apply below_drew1) | exact HB.out)⟩, ⟨show IsM _ gB [] from (by repeat (first | (with_reducible exact HM.out) | (with_reducible apply IsM.alloc) | (with_reducible apply IsM.drewN) | (with_reducible apply IsM.drew) | refine IsM.set ?_ NM.out _))⟩⟩
    case round =>
      clear H'
      try clear c1
      try clear p2
      try clear c3
      try clear c4
      try clear c4b0
      try clear c4b1
      obtain ⟨x26_1, rfl, HA, HK1, HB, HM⟩ := hrel
      cases gk with
      | zero => exact absurd HA.out (by simp [match_Fill.l0])
      | succ k1 =>
        have H := HA.out
        clear HA
        simp only [match_Fill.l0] at H
        by_cases c6 : x26_1 < (l1.length : Int)
        · rw [if_pos c6] at H
          have c6b0 : decide (x26_1 < (l1.length : Int)) = true := decide_eq_true c6
          clear c6
          by_cases c7 : 0 ≤ x26_1
          · rw [if_pos c7] at H
            have c7b0 : decide (0 ≤ x26_1) = true := decide_eq_true c7
            clear c7
            by_cases c8 : x26_1 < (l1.length : Int)
            · rw [if_pos c8] at H
              have c8b0 : decide (x26_1 < (l1.length : Int)) = true := decide_eq_true c8
              clear c8
              replace H := Option.bind_eq_some_iff.mp H
              obtain ⟨t139, A90, H⟩ := H
              replace H : (if t139 = 2 then (if ((rd_T36 l1 x26_1).f0).size ≤ 8 then (if bhas (List.take (Int.toNat x26_1) l1) ((rd_T36 l1 x26_1).f0) = true then (some (([] : List (S28)), 9)) else ((term_Check.f k1 ((rd_T36 l1 x26_1).f1)).bind fun t140 => (if t140 = 0 then (if x26_1 < 3518437208883 then (match_Fill.l0 k1 l0 l1 l1 (l1.length : Int) (wrap64 (x26_1 + 1))) else (none)) else (some (([] : List (S28)), t140))))) else (none)) else (some (([] : List (S28)), 4))) = some (r1, r2) := H
              have A9 := Aside0.mk A90
              clear A90
              by_cases c10 : t139 = 2
              · rw [if_pos c10] at H
                have c10b0 : (t139 == 2) = true := beq_iff_eq.mpr c10
                have c10b1 : (t139 != 2) = false := bne_eq_false_iff_eq.mpr c10
                clear c10
                by_cases c11 : ((rd_T36 l1 x26_1).f0).size ≤ 8
                · rw [if_pos c11] at H
                  have c11b0 := eq_true c11
                  have c11b1 : decide (((rd_T36 l1 x26_1).f0).size ≤ 8) = true := decide_eq_true c11
                  clear c11
                  by_cases c12 : bhas (List.take (Int.toNat x26_1) l1) ((rd_T36 l1 x26_1).f0) = true
                  · rw [if_pos c12] at H
                    have c12b0 : bhas (List.take (Int.toNat x26_1) l1) ((rd_T36 l1 x26_1).f0) = true := c12
                    clear c12
                    simp only [Option.some.injEq, Prod.mk.injEq] at H
                    obtain ⟨rfl, rfl⟩ := H
                    have p137 : 0 ≤ (x26_1 : Int) := of_decide_eq_true (by first | (with_reducible assumption) | assumption)
                    have q137 : x26_1 < (l1.length : Int) := of_decide_eq_true (by first | (with_reducible assumption) | assumption)
                    obtain ⟨ad137, A137_1, c137_1, e137, hx137_0, hx137_1, hl137_1, hi137_1⟩ := at_T36 HR1.out x26_1 p137 q137
                    cases e137
                    replace hx137_0 := (HB.out.cell (World.block_lt_of_cell? w _ hx137_0)).trans hx137_0
                    replace hx137_1 := (HB.out.cell (World.block_lt_of_cell? w _ hx137_1)).trans hx137_1
                    have HR137_1 := Aside0.mk hi137_1
                    have HC137_1 := Aside0.mk hl137_1
                    clear hi137_1 hl137_1
                    replace p137 := eq_true p137
                    replace q137 := eq_true q137
                    go_wp2_with (first | ((with_reducible refine gate_dst (N := 9) rfl ?_); refine box_event ?hg (N := 9) ?hd (cs := #[.string (⟨#[]⟩ : ByteArray), .slice none 0 0]) (t := 36) ?hr ?_; (case hd => rfl); (case hg => rfl); (case hr => first | (go_simp; done) | (go_simp; rfl)); intro gb138 hg w13 hbox hb; have HMn := Aside0.mk (IsM.below (B := gB) (l := (List.take (Int.toNat x26_1) l1)) (by repeat (first | (with_reducible exact HM.out) | (with_reducible apply IsM.alloc) | (with_reducible apply IsM.drewN) | (with_reducible apply IsM.drew) | refine IsM.set ?_ NM.out _)) hb); clear HM; have HM := HMn; clear HMn; have NM := Aside0.mk (IsM.ne_cells HM.out hbox); have n0_ := Aside0.mk (below_step (by repeat (first | (with_reducible first | exact HB.out | apply below_alloc | apply pw_below_drewN | apply below_drew1) | exact HB.out)) hb); have n1_ := Aside0.mk (hbox); have n2_ := Aside0.mk ((by rw [hg]; exact (below_size (by repeat (first | (with_reducible first | exact HB.out | apply below_alloc | apply pw_below_drewN | apply below_drew1) | exact HB.out))) : w.heap.size ≤ gb138)); have n3_ := Aside0.mk ((by rw [hg]; exact (below_size (by repeat (first | (with_reducible first | exact HB.out | apply below_alloc | apply pw_below_drewN | apply below_drew1) | exact HB.out))) : w.heap.size ≤ gb138)); clear HB; have HB := n0_; have BK138 := n1_; have GW138 := n2_; have GE138 := n3_; clear n0_ n1_ n2_ n3_; clear hb hbox hg; have hcz14_0 : w13.cell? ⟨gb138, 0, none⟩ = some (.string (⟨#[]⟩ : ByteArray)) := (blk_cell BK138.out 0).trans rfl; have hcz14_1 : w13.cell? ⟨gb138, 1, none⟩ = some (.slice none 0 0) := (blk_cell BK138.out 1).trans rfl; have hfz14_0 := blk_frozen BK138.out 0; have hfz14_1 := blk_frozen BK138.out 1) | ((with_reducible refine gate_callee (f := 38) rfl ?_); refine goesL_ (some 33) rfl rfl Try.func38 (by kernel_rfl) rfl #[.string ((rd_T36 l1 x26_1).f0)] rfl (by (try simp only [List.map_toArray, List.map_cons, List.map_nil]); first | done | rfl | (simp only [List.length_drop, List.length_take]; rfl)) ?_; (with_reducible refine (name_Kind.calls k1 ((rd_T36 l1 x26_1).f0) t139 _ A9.out).mono ?_); rintro e w' ⟨rfl, ⟨nd, rfl⟩⟩; refine ⟨_, rfl, ?_⟩) | ((with_reducible refine gate_dst (N := 39) rfl ?_); refine map_look rfl _ _ rfl gB (List.take (Int.toNat x26_1) l1) ((rd_T36 l1 x26_1).f0) rfl (by repeat (first | (with_reducible exact HM.out) | (with_reducible apply IsM.alloc) | (with_reducible apply IsM.drewN) | (with_reducible apply IsM.drew) | refine IsM.set ?_ NM.out _)) (of_decide_eq_true (by first | (with_reducible assumption) | assumption)) rfl ?_))
                    go_ret2
                    exact ⟨_, by first | rfl | (simp [errW_none, errW_some] <;> rfl) | (simp [*, errW_none, errW_some] <;> rfl), by first | exact Kd.R_nil _ _ _ _ _ | exact Kd.N_nil _ _ _ _ _ | exact Kd.V_nil _ _ _ _ _ | exact Kd.Q_nil _ _ _ _ _ | exact Kd.S_nil _ _ _ _ _, by repeat (first | (with_reducible first | exact HB.out | apply below_alloc | apply pw_below_drewN | apply below_drew1 | refine below_set ?_ GE138.out) | exact HB.out)⟩
                  · rw [if_neg c12] at H
                    have c12b0 : bhas (List.take (Int.toNat x26_1) l1) ((rd_T36 l1 x26_1).f0) = false := by simpa using c12
                    clear c12
                    replace H := Option.bind_eq_some_iff.mp H
                    obtain ⟨t140, A150, H⟩ := H
                    replace H : (if t140 = 0 then (if x26_1 < 3518437208883 then (match_Fill.l0 k1 l0 l1 l1 (l1.length : Int) (wrap64 (x26_1 + 1))) else (none)) else (some (([] : List (S28)), t140))) = some (r1, r2) := H
                    have A15 := Aside0.mk A150
                    clear A150
                    by_cases c16 : t140 = 0
                    · rw [if_pos c16] at H
                      have c16b0 : (t140 == 0) = true := beq_iff_eq.mpr c16
                      have c16b1 : (t140 != 0) = false := bne_eq_false_iff_eq.mpr c16
                      clear c16
                      by_cases c17 : x26_1 < 3518437208883
                      · rw [if_pos c17] at H
                        have c17b0 := eq_true c17
                        have c17b1 : decide (x26_1 < 3518437208883) = true := decide_eq_true c17
                        clear c17
                        have H' := Aside0.mk H
                        clear H
                        have p137 : 0 ≤ (x26_1 : Int) := of_decide_eq_true (by first | (with_reducible assumption) | assumption)
                        have q137 : x26_1 < (l1.length : Int) := of_decide_eq_true (by first | (with_reducible assumption) | assumption)
                        obtain ⟨ad137, A137_1, c137_1, e137, hx137_0, hx137_1, hl137_1, hi137_1⟩ := at_T36 HR1.out x26_1 p137 q137
                        cases e137
                        replace hx137_0 := (HB.out.cell (World.block_lt_of_cell? w _ hx137_0)).trans hx137_0
                        replace hx137_1 := (HB.out.cell (World.block_lt_of_cell? w _ hx137_1)).trans hx137_1
                        have HR137_1 := Aside0.mk hi137_1
                        have HC137_1 := Aside0.mk hl137_1
                        clear hi137_1 hl137_1
                        replace p137 := eq_true p137
                        replace q137 := eq_true q137
                        go_wp2_with (first | ((with_reducible refine gate_dst (N := 9) rfl ?_); refine box_event ?hg (N := 9) ?hd (cs := #[.string (⟨#[]⟩ : ByteArray), .slice none 0 0]) (t := 36) ?hr ?_; (case hd => rfl); (case hg => rfl); (case hr => first | (go_simp; done) | (go_simp; rfl)); intro gb138 hg w18 hbox hb; have HMn := Aside0.mk (IsM.below (B := gB) (l := (List.take (Int.toNat x26_1) l1)) (by repeat (first | (with_reducible exact HM.out) | (with_reducible apply IsM.alloc) | (with_reducible apply IsM.drewN) | (with_reducible apply IsM.drew) | refine IsM.set ?_ NM.out _)) hb); clear HM; have HM := HMn; clear HMn; have NM := Aside0.mk (IsM.ne_cells HM.out hbox); have n0_ := Aside0.mk (below_step (by repeat (first | (with_reducible first | exact HB.out | apply below_alloc | apply pw_below_drewN | apply below_drew1) | exact HB.out)) hb); have n1_ := Aside0.mk (hbox); have n2_ := Aside0.mk ((by rw [hg]; exact (below_size (by repeat (first | (with_reducible first | exact HB.out | apply below_alloc | apply pw_below_drewN | apply below_drew1) | exact HB.out))) : w.heap.size ≤ gb138)); have n3_ := Aside0.mk ((by rw [hg]; exact (below_size (by repeat (first | (with_reducible first | exact HB.out | apply below_alloc | apply pw_below_drewN | apply below_drew1) | exact HB.out))) : w.heap.size ≤ gb138)); clear HB; have HB := n0_; have BK138 := n1_; have GW138 := n2_; have GE138 := n3_; clear n0_ n1_ n2_ n3_; clear hb hbox hg; have hcz19_0 : w18.cell? ⟨gb138, 0, none⟩ = some (.string (⟨#[]⟩ : ByteArray)) := (blk_cell BK138.out 0).trans rfl; have hcz19_1 : w18.cell? ⟨gb138, 1, none⟩ = some (.slice none 0 0) := (blk_cell BK138.out 1).trans rfl; have hfz19_0 := blk_frozen BK138.out 0; have hfz19_1 := blk_frozen BK138.out 1) | ((with_reducible refine gate_callee (f := 38) rfl ?_); refine goesL_ (some 33) rfl rfl Try.func38 (by kernel_rfl) rfl #[.string ((rd_T36 l1 x26_1).f0)] rfl (by (try simp only [List.map_toArray, List.map_cons, List.map_nil]); first | done | rfl | (simp only [List.length_drop, List.length_take]; rfl)) ?_; (with_reducible refine (name_Kind.calls k1 ((rd_T36 l1 x26_1).f0) t139 _ A9.out).mono ?_); rintro e w' ⟨rfl, ⟨nd, rfl⟩⟩; refine ⟨_, rfl, ?_⟩) | ((with_reducible refine gate_callee (f := 33) rfl ?_); refine goesL_ (some 45) rfl rfl Try.func33 (by kernel_rfl) rfl #[.slice A137_1 ((rd_T36 l1 x26_1).f1).length c137_1] rfl (by (try simp only [List.map_toArray, List.map_cons, List.map_nil]); first | done | rfl | (simp only [List.length_drop, List.length_take]; rfl)) ?_; (with_reducible refine (term_Check.calls k1 _ _ ((rd_T36 l1 x26_1).f1) t140 _ ?side1 ?side2 A15.out).mono ?_); (case side1 => exact Kd.C_below HR137_1.out (by repeat (first | (with_reducible first | exact HB.out | apply below_alloc | apply pw_below_drewN | apply below_drew1 | refine below_set ?_ GE138.out) | exact HB.out))); (case side2 => exact HC137_1.out); rintro e w20 ⟨rfl, hb⟩; refine ⟨_, rfl, ?_⟩; have HMn := Aside0.mk (IsM.below (B := gB) (l := (List.take (Int.toNat x26_1) l1)) (by repeat (first | (with_reducible exact HM.out) | (with_reducible apply IsM.alloc) | (with_reducible apply IsM.drewN) | (with_reducible apply IsM.drew) | refine IsM.set ?_ NM.out _)) hb); clear HM; have HM := HMn; clear HMn; have n0_ := Aside0.mk (blk_below (g := gb138) (o := .cells #[.string ((rd_T36 l1 x26_1).f0), .slice A137_1 ((rd_T36 l1 x26_1).f1).length c137_1] 36 (0, 0)) (by (with_reducible repeat (first | refine blk_drewN ?_ _ | refine blk_drew ?_ | refine blk_alloc ?_ _)); refine blk_put (cs := #[.string ((rd_T36 l1 x26_1).f0), .slice none 0 0]) ?_ 1 _ rfl; (with_reducible repeat (first | refine blk_drewN ?_ _ | refine blk_drew ?_ | refine blk_alloc ?_ _)); refine blk_put (cs := #[.string (⟨#[]⟩ : ByteArray), .slice none 0 0]) ?_ 0 _ rfl; (with_reducible repeat (first | refine blk_drewN ?_ _ | refine blk_drew ?_ | refine blk_alloc ?_ _)); exact BK138.out) hb); have n1_ := Aside0.mk (below_step (by repeat (first | (with_reducible first | exact HB.out | apply below_alloc | apply pw_below_drewN | apply below_drew1 | refine below_set ?_ GE138.out) | exact HB.out)) hb); clear BK138; clear HB; have BK138 := n0_; have HB := n1_; clear n0_ n1_; (try clear hb); (try clear hb2); (try clear hk); (try clear hi); have hcz21_0 : w20.cell? ⟨gb138, 0, none⟩ = some (.string ((rd_T36 l1 x26_1).f0)) := (blk_cell BK138.out 0).trans rfl; have hcz21_1 : w20.cell? ⟨gb138, 1, none⟩ = some (.slice A137_1 ((rd_T36 l1 x26_1).f1).length c137_1) := (blk_cell BK138.out 1).trans rfl; have hfz21_0 := blk_frozen BK138.out 0; have hfz21_1 := blk_frozen BK138.out 1) | ((with_reducible refine gate_dst (N := 39) rfl ?_); refine map_look rfl _ _ rfl gB (List.take (Int.toNat x26_1) l1) ((rd_T36 l1 x26_1).f0) rfl (by repeat (first | (with_reducible exact HM.out) | (with_reducible apply IsM.alloc) | (with_reducible apply IsM.drewN) | (with_reducible apply IsM.drew) | refine IsM.set ?_ NM.out _)) (of_decide_eq_true (by first | (with_reducible assumption) | assumption)) rfl ?_) | (at_mapUpdate; refine map_put rfl _ _ _ rfl gB (List.take (Int.toNat x26_1) l1) (rd_T36 l1 x26_1) x26_1 (take_len l1 x26_1 (of_decide_eq_true (by first | (with_reducible assumption) | assumption)) (of_decide_eq_true (by first | (with_reducible assumption) | assumption))) (by have h_ := (show x26_1 < 3518437208883 from (of_decide_eq_true (by first | (with_reducible assumption) | assumption))); have e_ := take_len l1 x26_1 (of_decide_eq_true (by first | (with_reducible assumption) | assumption)) (of_decide_eq_true (by first | (with_reducible assumption) | assumption)); omega) rfl (by repeat (first | (with_reducible exact HM.out) | (with_reducible apply IsM.alloc) | (with_reducible apply IsM.drewN) | (with_reducible apply IsM.drew) | refine IsM.set ?_ NM.out _)) (of_decide_eq_true (by first | (with_reducible assumption) | assumption)) rfl rfl ?_; intro w1 hM1 hg1; have HBn := Aside0.mk (below_map (by repeat (first | (with_reducible first | exact HB.out | apply below_alloc | apply pw_below_drewN | apply below_drew1 | refine below_set ?_ GE138.out) | exact HB.out)) hg1 GM.out); clear HB; have HB := HBn; clear HBn; have HMn := Aside0.mk hM1; clear HM; have HM := HMn; clear HMn hM1 hg1))
                        go_roundg k1
                        case measure => have := HK1.out; omega
                        case rel => exact ⟨(wrap64 (x26_1 + 1)), (by first | rfl | (simp; done) | (simp [*]; done)), H', ⟨by have := HK1.out; omega⟩, ⟨by repeat (first | (with_reducible first | exact HB.out | apply below_alloc | apply pw_below_drewN | apply below_drew1 | refine below_set ?_ GE138.out) | exact HB.out)⟩, ⟨by rw [take_next _ _ (of_decide_eq_true (by first | (with_reducible assumption) | assumption)) (of_decide_eq_true (by first | (with_reducible assumption) | assumption)) (of_decide_eq_true (by first | (with_reducible assumption) | assumption))]; exact (by repeat (first | (with_reducible exact HM.out) | (with_reducible apply IsM.alloc) | (with_reducible apply IsM.drewN) | (with_reducible apply IsM.drew) | refine IsM.set ?_ NM.out _))⟩⟩
                      · rw [if_neg c17] at H
                        exact absurd H (by simp)
                    · rw [if_neg c16] at H
                      have c16b0 : (t140 == 0) = false := beq_eq_false_iff_ne.mpr c16
                      have c16b1 : (t140 != 0) = true := bne_iff_ne.mpr c16
                      simp only [Option.some.injEq, Prod.mk.injEq] at H
                      obtain ⟨rfl, rfl⟩ := H
                      have p137 : 0 ≤ (x26_1 : Int) := of_decide_eq_true (by first | (with_reducible assumption) | assumption)
                      have q137 : x26_1 < (l1.length : Int) := of_decide_eq_true (by first | (with_reducible assumption) | assumption)
                      obtain ⟨ad137, A137_1, c137_1, e137, hx137_0, hx137_1, hl137_1, hi137_1⟩ := at_T36 HR1.out x26_1 p137 q137
                      cases e137
                      replace hx137_0 := (HB.out.cell (World.block_lt_of_cell? w _ hx137_0)).trans hx137_0
                      replace hx137_1 := (HB.out.cell (World.block_lt_of_cell? w _ hx137_1)).trans hx137_1
                      have HR137_1 := Aside0.mk hi137_1
                      have HC137_1 := Aside0.mk hl137_1
                      clear hi137_1 hl137_1
                      replace p137 := eq_true p137
                      replace q137 := eq_true q137
                      go_wp2_with (first | ((with_reducible refine gate_dst (N := 9) rfl ?_); refine box_event ?hg (N := 9) ?hd (cs := #[.string (⟨#[]⟩ : ByteArray), .slice none 0 0]) (t := 36) ?hr ?_; (case hd => rfl); (case hg => rfl); (case hr => first | (go_simp; done) | (go_simp; rfl)); intro gb138 hg w22 hbox hb; have HMn := Aside0.mk (IsM.below (B := gB) (l := (List.take (Int.toNat x26_1) l1)) (by repeat (first | (with_reducible exact HM.out) | (with_reducible apply IsM.alloc) | (with_reducible apply IsM.drewN) | (with_reducible apply IsM.drew) | refine IsM.set ?_ NM.out _)) hb); clear HM; have HM := HMn; clear HMn; have NM := Aside0.mk (IsM.ne_cells HM.out hbox); have n0_ := Aside0.mk (below_step (by repeat (first | (with_reducible first | exact HB.out | apply below_alloc | apply pw_below_drewN | apply below_drew1) | exact HB.out)) hb); have n1_ := Aside0.mk (hbox); have n2_ := Aside0.mk ((by rw [hg]; exact (below_size (by repeat (first | (with_reducible first | exact HB.out | apply below_alloc | apply pw_below_drewN | apply below_drew1) | exact HB.out))) : w.heap.size ≤ gb138)); have n3_ := Aside0.mk ((by rw [hg]; exact (below_size (by repeat (first | (with_reducible first | exact HB.out | apply below_alloc | apply pw_below_drewN | apply below_drew1) | exact HB.out))) : w.heap.size ≤ gb138)); clear HB; have HB := n0_; have BK138 := n1_; have GW138 := n2_; have GE138 := n3_; clear n0_ n1_ n2_ n3_; clear hb hbox hg; have hcz23_0 : w22.cell? ⟨gb138, 0, none⟩ = some (.string (⟨#[]⟩ : ByteArray)) := (blk_cell BK138.out 0).trans rfl; have hcz23_1 : w22.cell? ⟨gb138, 1, none⟩ = some (.slice none 0 0) := (blk_cell BK138.out 1).trans rfl; have hfz23_0 := blk_frozen BK138.out 0; have hfz23_1 := blk_frozen BK138.out 1) | ((with_reducible refine gate_callee (f := 38) rfl ?_); refine goesL_ (some 33) rfl rfl Try.func38 (by kernel_rfl) rfl #[.string ((rd_T36 l1 x26_1).f0)] rfl (by (try simp only [List.map_toArray, List.map_cons, List.map_nil]); first | done | rfl | (simp only [List.length_drop, List.length_take]; rfl)) ?_; (with_reducible refine (name_Kind.calls k1 ((rd_T36 l1 x26_1).f0) t139 _ A9.out).mono ?_); rintro e w' ⟨rfl, ⟨nd, rfl⟩⟩; refine ⟨_, rfl, ?_⟩) | ((with_reducible refine gate_callee (f := 33) rfl ?_); refine goesL_ (some 45) rfl rfl Try.func33 (by kernel_rfl) rfl #[.slice A137_1 ((rd_T36 l1 x26_1).f1).length c137_1] rfl (by (try simp only [List.map_toArray, List.map_cons, List.map_nil]); first | done | rfl | (simp only [List.length_drop, List.length_take]; rfl)) ?_; (with_reducible refine (term_Check.calls k1 _ _ ((rd_T36 l1 x26_1).f1) t140 _ ?side1 ?side2 A15.out).mono ?_); (case side1 => exact Kd.C_below HR137_1.out (by repeat (first | (with_reducible first | exact HB.out | apply below_alloc | apply pw_below_drewN | apply below_drew1 | refine below_set ?_ GE138.out) | exact HB.out))); (case side2 => exact HC137_1.out); rintro e w24 ⟨rfl, hb⟩; refine ⟨_, rfl, ?_⟩; have HMn := Aside0.mk (IsM.below (B := gB) (l := (List.take (Int.toNat x26_1) l1)) (by repeat (first | (with_reducible exact HM.out) | (with_reducible apply IsM.alloc) | (with_reducible apply IsM.drewN) | (with_reducible apply IsM.drew) | refine IsM.set ?_ NM.out _)) hb); clear HM; have HM := HMn; clear HMn; have n0_ := Aside0.mk (blk_below (g := gb138) (o := .cells #[.string ((rd_T36 l1 x26_1).f0), .slice A137_1 ((rd_T36 l1 x26_1).f1).length c137_1] 36 (0, 0)) (by (with_reducible repeat (first | refine blk_drewN ?_ _ | refine blk_drew ?_ | refine blk_alloc ?_ _)); refine blk_put (cs := #[.string ((rd_T36 l1 x26_1).f0), .slice none 0 0]) ?_ 1 _ rfl; (with_reducible repeat (first | refine blk_drewN ?_ _ | refine blk_drew ?_ | refine blk_alloc ?_ _)); refine blk_put (cs := #[.string (⟨#[]⟩ : ByteArray), .slice none 0 0]) ?_ 0 _ rfl; (with_reducible repeat (first | refine blk_drewN ?_ _ | refine blk_drew ?_ | refine blk_alloc ?_ _)); exact BK138.out) hb); have n1_ := Aside0.mk (below_step (by repeat (first | (with_reducible first | exact HB.out | apply below_alloc | apply pw_below_drewN | apply below_drew1 | refine below_set ?_ GE138.out) | exact HB.out)) hb); clear BK138; clear HB; have BK138 := n0_; have HB := n1_; clear n0_ n1_; (try clear hb); (try clear hb2); (try clear hk); (try clear hi)) | ((with_reducible refine gate_dst (N := 39) rfl ?_); refine map_look rfl _ _ rfl gB (List.take (Int.toNat x26_1) l1) ((rd_T36 l1 x26_1).f0) rfl (by repeat (first | (with_reducible exact HM.out) | (with_reducible apply IsM.alloc) | (with_reducible apply IsM.drewN) | (with_reducible apply IsM.drew) | refine IsM.set ?_ NM.out _)) (of_decide_eq_true (by first | (with_reducible assumption) | assumption)) rfl ?_))
                      go_ret2
                      exact ⟨_, by first | rfl | (simp [errW_none, errW_some] <;> rfl) | (simp [*, errW_none, errW_some] <;> rfl), by first | exact Kd.R_nil _ _ _ _ _ | exact Kd.N_nil _ _ _ _ _ | exact Kd.V_nil _ _ _ _ _ | exact Kd.Q_nil _ _ _ _ _ | exact Kd.S_nil _ _ _ _ _, by repeat (first | (with_reducible first | exact HB.out | apply below_alloc | apply pw_below_drewN | apply below_drew1 | refine below_set ?_ GE138.out) | exact HB.out)⟩
                · rw [if_neg c11] at H
                  exact absurd H (by simp)
              · rw [if_neg c10] at H
                have c10b0 : (t139 == 2) = false := beq_eq_false_iff_ne.mpr c10
                have c10b1 : (t139 != 2) = true := bne_iff_ne.mpr c10
                simp only [Option.some.injEq, Prod.mk.injEq] at H
                obtain ⟨rfl, rfl⟩ := H
                have p137 : 0 ≤ (x26_1 : Int) := of_decide_eq_true (by first | (with_reducible assumption) | assumption)
                have q137 : x26_1 < (l1.length : Int) := of_decide_eq_true (by first | (with_reducible assumption) | assumption)
                obtain ⟨ad137, A137_1, c137_1, e137, hx137_0, hx137_1, hl137_1, hi137_1⟩ := at_T36 HR1.out x26_1 p137 q137
                cases e137
                replace hx137_0 := (HB.out.cell (World.block_lt_of_cell? w _ hx137_0)).trans hx137_0
                replace hx137_1 := (HB.out.cell (World.block_lt_of_cell? w _ hx137_1)).trans hx137_1
                have HR137_1 := Aside0.mk hi137_1
                have HC137_1 := Aside0.mk hl137_1
                clear hi137_1 hl137_1
                replace p137 := eq_true p137
                replace q137 := eq_true q137
                go_wp2_with (first | ((with_reducible refine gate_dst (N := 9) rfl ?_); refine box_event ?hg (N := 9) ?hd (cs := #[.string (⟨#[]⟩ : ByteArray), .slice none 0 0]) (t := 36) ?hr ?_; (case hd => rfl); (case hg => rfl); (case hr => first | (go_simp; done) | (go_simp; rfl)); intro gb138 hg w25 hbox hb; have HMn := Aside0.mk (IsM.below (B := gB) (l := (List.take (Int.toNat x26_1) l1)) (by repeat (first | (with_reducible exact HM.out) | (with_reducible apply IsM.alloc) | (with_reducible apply IsM.drewN) | (with_reducible apply IsM.drew) | refine IsM.set ?_ NM.out _)) hb); clear HM; have HM := HMn; clear HMn; have NM := Aside0.mk (IsM.ne_cells HM.out hbox); have n0_ := Aside0.mk (below_step (by repeat (first | (with_reducible first | exact HB.out | apply below_alloc | apply pw_below_drewN | apply below_drew1) | exact HB.out)) hb); have n1_ := Aside0.mk (hbox); have n2_ := Aside0.mk ((by rw [hg]; exact (below_size (by repeat (first | (with_reducible first | exact HB.out | apply below_alloc | apply pw_below_drewN | apply below_drew1) | exact HB.out))) : w.heap.size ≤ gb138)); have n3_ := Aside0.mk ((by rw [hg]; exact (below_size (by repeat (first | (with_reducible first | exact HB.out | apply below_alloc | apply pw_below_drewN | apply below_drew1) | exact HB.out))) : w.heap.size ≤ gb138)); clear HB; have HB := n0_; have BK138 := n1_; have GW138 := n2_; have GE138 := n3_; clear n0_ n1_ n2_ n3_; clear hb hbox hg; have hcz26_0 : w25.cell? ⟨gb138, 0, none⟩ = some (.string (⟨#[]⟩ : ByteArray)) := (blk_cell BK138.out 0).trans rfl; have hcz26_1 : w25.cell? ⟨gb138, 1, none⟩ = some (.slice none 0 0) := (blk_cell BK138.out 1).trans rfl; have hfz26_0 := blk_frozen BK138.out 0; have hfz26_1 := blk_frozen BK138.out 1) | ((with_reducible refine gate_callee (f := 38) rfl ?_); refine goesL_ (some 33) rfl rfl Try.func38 (by kernel_rfl) rfl #[.string ((rd_T36 l1 x26_1).f0)] rfl (by (try simp only [List.map_toArray, List.map_cons, List.map_nil]); first | done | rfl | (simp only [List.length_drop, List.length_take]; rfl)) ?_; (with_reducible refine (name_Kind.calls k1 ((rd_T36 l1 x26_1).f0) t139 _ A9.out).mono ?_); rintro e w' ⟨rfl, ⟨nd, rfl⟩⟩; refine ⟨_, rfl, ?_⟩) | ((with_reducible refine gate_dst (N := 39) rfl ?_); refine map_look rfl _ _ rfl gB (List.take (Int.toNat x26_1) l1) ((rd_T36 l1 x26_1).f0) rfl (by repeat (first | (with_reducible exact HM.out) | (with_reducible apply IsM.alloc) | (with_reducible apply IsM.drewN) | (with_reducible apply IsM.drew) | refine IsM.set ?_ NM.out _)) (of_decide_eq_true (by first | (with_reducible assumption) | assumption)) rfl ?_))
                go_ret2
                exact ⟨_, by first | rfl | (simp [errW_none, errW_some] <;> rfl) | (simp [*, errW_none, errW_some] <;> rfl), by first | exact Kd.R_nil _ _ _ _ _ | exact Kd.N_nil _ _ _ _ _ | exact Kd.V_nil _ _ _ _ _ | exact Kd.Q_nil _ _ _ _ _ | exact Kd.S_nil _ _ _ _ _, by repeat (first | (with_reducible first | exact HB.out | apply below_alloc | apply pw_below_drewN | apply below_drew1 | refine below_set ?_ GE138.out) | exact HB.out)⟩
            · rw [if_neg c8] at H
              exact absurd H (by simp)
          · rw [if_neg c7] at H
            exact absurd H (by simp)
        · rw [if_neg c6] at H
          have c6b0 : decide (x26_1 < (l1.length : Int)) = false := decide_eq_false c6
          clear c6
          have H' := Aside0.mk H
          clear H
          go_wp2
          have HMall := Aside0.mk (show IsM _ gB l1 from by have h_ := HM.out; rwa [take_all _ _ (of_decide_eq_false (by first | (with_reducible assumption) | assumption))] at h_)
          clear HM
          have HM := HMall
          go_loopg [13, 56] k1 (fun kq v13 v56 w' => ∃ (x13_2 : List (S28)) (x56_2 : Int), v56 = .int .i64 x56_2 ∧ Aside0 (match_Fill.l1 kq l1 x13_2 l0 (l0.length : Int) x56_2 = some (r1, r2)) ∧ Aside0 (kq ≤ k1) ∧ Aside0 (Kd.R k28 28 w' w.heap.size (fun _ => True) v13 x13_2) ∧ Aside0 (Below w.heap.size w w') ∧ Aside0 (IsM w' gB l1))
          case atStart => exact ⟨(([] : List (S28))), (0), (by first | rfl | (simp; done) | (simp [*]; done)), H', ⟨Nat.le_refl _⟩, ⟨by first | exact Kd.R_nil _ _ _ _ _ | exact Kd.N_nil _ _ _ _ _ | exact Kd.V_nil _ _ _ _ _ | exact Kd.Q_nil _ _ _ _ _ | exact Kd.S_nil _ _ _ _ _⟩, ⟨by repeat (first | (with_reducible first | exact HB.out | apply below_alloc | apply pw_below_drewN | apply below_drew1) | exact HB.out)⟩, ⟨(by repeat (first | (with_reducible exact HM.out) | (with_reducible apply IsM.alloc) | (with_reducible apply IsM.drewN) | (with_reducible apply IsM.drew) | refine IsM.set ?_ NM.out _))⟩⟩
          case round =>
            clear H'
            try clear c1
            try clear p1
            try clear q1
            try clear hx1
            try clear p2
            try clear c3
            try clear c4
            try clear c4b0
            try clear c4b1
            try clear c6
            try clear c6b0
            try clear p6
            try clear c7
            try clear c7b0
            try clear c8
            try clear c8b0
            try clear c10
            try clear c10b0
            try clear c10b1
            try clear c11
            try clear c11b0
            try clear c11b1
            try clear c12
            try clear c12b0
            try clear c13
            try clear p13
            try clear q13
            try clear hx13
            try clear c16
            try clear c16b0
            try clear c16b1
            try clear c17
            try clear c17b0
            try clear c17b1
            try clear hcz14_0
            try clear hcz14_1
            try clear hcz19_0
            try clear hcz19_1
            try clear hcz21_0
            try clear hcz21_1
            try clear hcz23_0
            try clear hcz23_1
            try clear hcz26_0
            try clear hcz26_1
            try clear hfz14_0
            try clear hfz14_1
            try clear hfz19_0
            try clear hfz19_1
            try clear hfz21_0
            try clear hfz21_1
            try clear hfz23_0
            try clear hfz23_1
            try clear hfz26_0
            try clear hfz26_1
            try clear hx137_0
            try clear hx137_1
            try clear p137
            try clear p2
            try clear q137
            obtain ⟨x13_2, x56_2, rfl, HA, HK2, HO_13, HB, HM⟩ := hrel
            cases gk with
            | zero => exact absurd HA.out (by simp [match_Fill.l1])
            | succ k2 =>
              have H := HA.out
              clear HA
              simp only [match_Fill.l1] at H
              by_cases c27 : x56_2 < (l0.length : Int)
              · rw [if_pos c27] at H
                have c27b0 : decide (x56_2 < (l0.length : Int)) = true := decide_eq_true c27
                clear c27
                by_cases c28 : 0 ≤ x56_2
                · rw [if_pos c28] at H
                  have c28b0 : decide (0 ≤ x56_2) = true := decide_eq_true c28
                  clear c28
                  by_cases c29 : x56_2 < (l0.length : Int)
                  · rw [if_pos c29] at H
                    have c29b0 : decide (x56_2 < (l0.length : Int)) = true := decide_eq_true c29
                    clear c29
                    by_cases c30 : ((rd_T28 l0 x56_2).f0).size ≤ 8
                    · rw [if_pos c30] at H
                      have c30b0 := eq_true c30
                      have c30b1 : decide (((rd_T28 l0 x56_2).f0).size ≤ 8) = true := decide_eq_true c30
                      clear c30
                      replace H := Option.bind_eq_some_iff.mp H
                      obtain ⟨t143, A310, H⟩ := H
                      replace H : (if t143 = true then (if (bhas l1 ((rd_T28 l0 x56_2).f0) = true) then (if 0 ≤ (bfind l1 ((rd_T28 l0 x56_2).f0)) then (if (bfind l1 ((rd_T28 l0 x56_2).f0)) < (l1.length : Int) then (if x13_2.length + ((rd_T36 l1 (bfind l1 ((rd_T28 l0 x56_2).f0))).f1).length < 5864062014805 then (match_Fill.l1 k2 l1 (x13_2 ++ ((rd_T36 l1 (bfind l1 ((rd_T28 l0 x56_2).f0))).f1)) l0 (l0.length : Int) (wrap64 (x56_2 + 1))) else (none)) else (none)) else (none)) else (some (([] : List (S28)), 7))) else (if x13_2.length < 5864062014805 then (match_Fill.l1 k2 l1 (x13_2 ++ [(⟨(rd_T28 l0 x56_2).f0, (rd_T28 l0 x56_2).f1⟩ : S28)]) l0 (l0.length : Int) (wrap64 (x56_2 + 1))) else (none))) = some (r1, r2) := H
                      have A31 := Aside0.mk A310
                      clear A310
                      by_cases c32 : t143 = true
                      · subst c32
                        have H1 : (if (bhas l1 ((rd_T28 l0 x56_2).f0) = true) then (if 0 ≤ (bfind l1 ((rd_T28 l0 x56_2).f0)) then (if (bfind l1 ((rd_T28 l0 x56_2).f0)) < (l1.length : Int) then (if x13_2.length + ((rd_T36 l1 (bfind l1 ((rd_T28 l0 x56_2).f0))).f1).length < 5864062014805 then (match_Fill.l1 k2 l1 (x13_2 ++ ((rd_T36 l1 (bfind l1 ((rd_T28 l0 x56_2).f0))).f1)) l0 (l0.length : Int) (wrap64 (x56_2 + 1))) else (none)) else (none)) else (none)) else (some (([] : List (S28)), 7))) = some (r1, r2) := by rw [if_pos rfl] at H; exact H
                        clear H
                        have H := H1
                        clear H1
                        by_cases c33 : (bhas l1 ((rd_T28 l0 x56_2).f0) = true)
                        · rw [if_pos c33] at H
                          have c33b0 : bhas l1 ((rd_T28 l0 x56_2).f0) = true := c33
                          clear c33
                          by_cases c34 : 0 ≤ (bfind l1 ((rd_T28 l0 x56_2).f0))
                          · rw [if_pos c34] at H
                            have c34b0 : decide (0 ≤ (bfind l1 ((rd_T28 l0 x56_2).f0))) = true := decide_eq_true c34
                            clear c34
                            by_cases c35 : (bfind l1 ((rd_T28 l0 x56_2).f0)) < (l1.length : Int)
                            · rw [if_pos c35] at H
                              have c35b0 : decide ((bfind l1 ((rd_T28 l0 x56_2).f0)) < (l1.length : Int)) = true := decide_eq_true c35
                              clear c35
                              by_cases c36 : x13_2.length + ((rd_T36 l1 (bfind l1 ((rd_T28 l0 x56_2).f0))).f1).length < 5864062014805
                              · rw [if_pos c36] at H
                                have LMc36 := Aside0.mk c36
                                clear c36
                                obtain ⟨y145, hy145⟩ : ∃ y_ : List (S28), y_ = (x13_2 ++ ((rd_T36 l1 (bfind l1 ((rd_T28 l0 x56_2).f0))).f1)) := ⟨_, rfl⟩
                                replace H : (match_Fill.l1 k2 l1 y145 l0 (l0.length : Int) (wrap64 (x56_2 + 1))) = some (r1, r2) := by first | (rw [hy145]; with_reducible exact H) | (have H2_ := (Option.bind_some _ _).symm.trans H; rw [hy145]; with_reducible exact H2_) | (have H2_ := (Option.bind_some _ _).symm.trans H; with_reducible exact H2_) | with_reducible exact H | (rw [hy145]; exact H) | exact H
                                have Ny145 := Aside0.mk hy145
                                clear hy145
                                have H' := Aside0.mk H
                                clear H
                                have p141 : 0 ≤ (x56_2 : Int) := of_decide_eq_true (by first | (with_reducible assumption) | assumption)
                                have q141 : x56_2 < (l0.length : Int) := of_decide_eq_true (by first | (with_reducible assumption) | assumption)
                                obtain ⟨ad141, e141, hx141_0, hx141_1⟩ := at_T28 HR0.out x56_2 p141 q141
                                cases e141
                                replace hx141_0 := (HB.out.cell (World.block_lt_of_cell? w _ hx141_0)).trans hx141_0
                                replace hx141_1 := (HB.out.cell (World.block_lt_of_cell? w _ hx141_1)).trans hx141_1
                                replace p141 := eq_true p141
                                replace q141 := eq_true q141
                                go_wp2_with (first | ((with_reducible refine gate_dst (N := 15) rfl ?_); refine box_event ?hg (N := 15) ?hd (cs := #[.string (⟨#[]⟩ : ByteArray), .int .i64 0]) (t := 28) ?hr ?_; (case hd => rfl); (case hg => rfl); (case hr => first | (go_simp; done) | (go_simp; rfl)); intro gb142 hg w37 hbox hb; have HMn := Aside0.mk (IsM.below (B := gB) (l := l1) (by repeat (first | (with_reducible exact HM.out) | (with_reducible apply IsM.alloc) | (with_reducible apply IsM.drewN) | (with_reducible apply IsM.drew) | refine IsM.set ?_ NM.out _)) hb); clear HM; have HM := HMn; clear HMn; have NM := Aside0.mk (IsM.ne_cells HM.out hbox); have n0_ := Aside0.mk (Kd.R_below (Kd.R_elderB (by (with_reducible repeat (first | apply Kd.R_alloc | apply Kd.R_drewN | apply Kd.R_drew)); exact HO_13.out) gb142 (Nat.le_of_eq hg.symm)) hb); have n1_ := Aside0.mk (below_step (by repeat (first | (with_reducible first | exact HB.out | apply below_alloc | apply pw_below_drewN | apply below_drew1) | exact HB.out)) hb); have n2_ := Aside0.mk (hbox); have n3_ := Aside0.mk ((by rw [hg]; exact (below_size (by repeat (first | (with_reducible first | exact HB.out | apply below_alloc | apply pw_below_drewN | apply below_drew1) | exact HB.out))) : w.heap.size ≤ gb142)); have n4_ := Aside0.mk ((by rw [hg]; exact (below_size (by repeat (first | (with_reducible first | exact HB.out | apply below_alloc | apply pw_below_drewN | apply below_drew1) | exact HB.out))) : w.heap.size ≤ gb142)); clear HO_13; clear HB; have HO_13 := n0_; have HB := n1_; have BK142 := n2_; have GW142 := n3_; have GE142 := n4_; clear n0_ n1_ n2_ n3_ n4_; clear hb hbox hg; have hcz38_0 : w37.cell? ⟨gb142, 0, none⟩ = some (.string (⟨#[]⟩ : ByteArray)) := (blk_cell BK142.out 0).trans rfl; have hcz38_1 : w37.cell? ⟨gb142, 1, none⟩ = some (.int .i64 0) := (blk_cell BK142.out 1).trans rfl; have hfz38_0 := blk_frozen BK142.out 0; have hfz38_1 := blk_frozen BK142.out 1) | ((with_reducible refine gate_callee (f := 34) rfl ?_); refine goesL_ (some 76) rfl rfl Try.func34 (by kernel_rfl) rfl #[.agg #[.string ((rd_T28 l0 x56_2).f0), .int .i64 ((rd_T28 l0 x56_2).f1)]] rfl (by (try simp only [List.map_toArray, List.map_cons, List.map_nil]); first | done | rfl | (simp only [List.length_drop, List.length_take]; rfl)) ?_; (with_reducible refine (match_variable.calls k2 ((rd_T28 l0 x56_2).f0) ((rd_T28 l0 x56_2).f1) true _ A31.out).mono ?_); rintro e w39 ⟨rfl, hb⟩; refine ⟨_, rfl, ?_⟩; have HMn := Aside0.mk (IsM.below (B := gB) (l := l1) (by repeat (first | (with_reducible exact HM.out) | (with_reducible apply IsM.alloc) | (with_reducible apply IsM.drewN) | (with_reducible apply IsM.drew) | refine IsM.set ?_ NM.out _)) hb); clear HM; have HM := HMn; clear HMn; have n0_ := Aside0.mk (Kd.R_below (by (with_reducible repeat (first | apply Kd.R_alloc | apply Kd.R_drewN | apply Kd.R_drew)); exact (Kd.R_mono (Kd.R_far (p := ⟨gb142, 1, none⟩) (Kd.R_far (p := ⟨gb142, 0, none⟩) (Kd.R_mono HO_13.out (fun k_ hk => (⟨hk, hk.2⟩ : _ ∧ k_ ≠ gb142))) (fun _ hk => hk.2) (.string ((rd_T28 l0 x56_2).f0))) (fun _ hk => hk.2) (.int .i64 ((rd_T28 l0 x56_2).f1))) (fun _ h_ => h_.1))) hb); have n1_ := Aside0.mk (blk_below (g := gb142) (o := .cells #[.string ((rd_T28 l0 x56_2).f0), .int .i64 ((rd_T28 l0 x56_2).f1)] 28 (0, 0)) (by (with_reducible repeat (first | refine blk_drewN ?_ _ | refine blk_drew ?_ | refine blk_alloc ?_ _)); refine blk_put (cs := #[.string ((rd_T28 l0 x56_2).f0), .int .i64 0]) ?_ 1 _ rfl; (with_reducible repeat (first | refine blk_drewN ?_ _ | refine blk_drew ?_ | refine blk_alloc ?_ _)); refine blk_put (cs := #[.string (⟨#[]⟩ : ByteArray), .int .i64 0]) ?_ 0 _ rfl; (with_reducible repeat (first | refine blk_drewN ?_ _ | refine blk_drew ?_ | refine blk_alloc ?_ _)); exact BK142.out) hb); have n2_ := Aside0.mk (below_step (by repeat (first | (with_reducible first | exact HB.out | apply below_alloc | apply pw_below_drewN | apply below_drew1 | refine below_set ?_ GE142.out) | exact HB.out)) hb); clear HO_13; clear BK142; clear HB; have HO_13 := n0_; have BK142 := n1_; have HB := n2_; clear n0_ n1_ n2_; (try clear hb); (try clear hb2); (try clear hk); (try clear hi); have p144 : 0 ≤ ((bfind l1 ((rd_T28 l0 x56_2).f0)) : Int) := of_decide_eq_true (by first | (with_reducible assumption) | assumption); have q144 : (bfind l1 ((rd_T28 l0 x56_2).f0)) < (l1.length : Int) := of_decide_eq_true (by first | (with_reducible assumption) | assumption); obtain ⟨ad144, A144_1, c144_1, e144, hx144_0, hx144_1, hl144_1, hi144_1⟩ := at_T36 HR1.out (bfind l1 ((rd_T28 l0 x56_2).f0)) p144 q144; cases e144; replace hx144_0 := (HB.out.cell (World.block_lt_of_cell? w _ hx144_0)).trans hx144_0; replace hx144_1 := (HB.out.cell (World.block_lt_of_cell? w _ hx144_1)).trans hx144_1; have HR144_1 := Aside0.mk hi144_1; have HC144_1 := Aside0.mk hl144_1; clear hi144_1 hl144_1; replace p144 := eq_true p144; replace q144 := eq_true q144) | ((with_reducible refine gate_builtin (b := .append) (xs := #[.tmp 67, .tmp 72]) rfl ?_); at_builtin; refine Kd.R_append_rows k28 (w0 := w) w.heap.size rfl (.tmp 67) (.tmp 72) 23 28 (.agg #[(.string ⟨#[]⟩), (.int .i64 0)]) 24 rfl Try.underlying23 info28 rfl (by decide) (by omega) u13 x13_2 ((rd_T36 l1 (bfind l1 ((rd_T28 l0 x56_2).f0))).f1) _ _ _ (fun k_ => k_ ≠ gb142) (fun _ => False) rfl rfl ?aO ?aR (fun _ _ h => h) (fun _ h => h.elim) ?aF ?aB ?aS ?aL ?_; (case aR => repeat (first | exact (Kd.C_below HR144_1.out HB.out) | (with_reducible refine Kd.C_alloc ?_ _) | (with_reducible refine Kd.C_drewN ?_ _) | (with_reducible refine Kd.C_drew ?_))); (case aB => exact (by repeat (first | (with_reducible first | exact HB.out | apply below_alloc | apply pw_below_drewN | apply below_drew1 | refine below_set ?_ GE142.out) | exact HB.out))); (case aF => exact (fun k_ hk => Kd.freshB (g := gb142) (o := .cells #[.string ((rd_T28 l0 x56_2).f0), .int .i64 ((rd_T28 l0 x56_2).f1)] 28 (0, 0)) (by (with_reducible repeat (first | refine blk_drewN ?_ _ | refine blk_drew ?_ | refine blk_alloc ?_ _)); exact BK142.out) k_ hk)); (case aO => exact (by (with_reducible repeat (first | apply Kd.R_alloc | apply Kd.R_drewN | apply Kd.R_drew)); exact Kd.R_mono HO_13.out (fun _ hk => hk.2))); (case aS => exact (below_size (by repeat (first | (with_reducible first | exact HB.out | apply below_alloc | apply pw_below_drewN | apply below_drew1 | refine below_set ?_ GE142.out) | exact HB.out)))); (case aL => have := LMc36.out; omega); intro v146 w40 ho hb hg hat; have HMn := Aside0.mk (IsM.grown (B := gB) (l := l1) (by repeat (first | (with_reducible exact HM.out) | (with_reducible apply IsM.alloc) | (with_reducible apply IsM.drewN) | (with_reducible apply IsM.drew) | refine IsM.set ?_ NM.out _)) hg (by first | exact IsM.away HM.out HO_13.out | exact IsM.aways HM.out HO_13.out)); clear HM; have HM := HMn; clear HMn; rw [← Ny145.out] at ho; have n0_ := Aside0.mk (blk_grown (g := gb142) (o := .cells #[.string ((rd_T28 l0 x56_2).f0), .int .i64 ((rd_T28 l0 x56_2).f1)] 28 (0, 0)) (by (with_reducible repeat (first | refine blk_drewN ?_ _ | refine blk_drew ?_ | refine blk_alloc ?_ _)); exact BK142.out) hg (Kd.R_away HO_13.out (fun _ hk => hk.2))); have n1_ := Aside0.mk (hb); have n2_ := Aside0.mk (ho); clear BK142; clear HB; clear HO_13; have BK142 := n0_; have HB := n1_; have HO147 := n2_; clear n0_ n1_ n2_; clear ho hb hg hat) | ((with_reducible refine gate_dst (N := 64) rfl ?_); refine map_look rfl _ _ rfl gB l1 ((rd_T28 l0 x56_2).f0) rfl (by repeat (first | (with_reducible exact HM.out) | (with_reducible apply IsM.alloc) | (with_reducible apply IsM.drewN) | (with_reducible apply IsM.drew) | refine IsM.set ?_ NM.out _)) (of_decide_eq_true (by first | (with_reducible assumption) | assumption)) rfl ?_))
                                go_roundg k2
                                case measure => have := HK1.out; have := HK2.out; omega
                                case rel => exact ⟨(y145), (wrap64 (x56_2 + 1)), (by first | rfl | (simp; done) | (simp [*]; done)), H', ⟨by have := HK1.out; have := HK2.out; omega⟩, ⟨by (with_reducible repeat (first | apply Kd.R_alloc | apply Kd.R_drewN | apply Kd.R_drew)); exact Kd.R_mono HO147.out (fun _ hk => trivial)⟩, ⟨by repeat (first | (with_reducible first | exact HB.out | apply below_alloc | apply pw_below_drewN | apply below_drew1 | refine below_set ?_ GE142.out) | exact HB.out)⟩, ⟨(by repeat (first | (with_reducible exact HM.out) | (with_reducible apply IsM.alloc) | (with_reducible apply IsM.drewN) | (with_reducible apply IsM.drew) | refine IsM.set ?_ NM.out _))⟩⟩
                              · rw [if_neg c36] at H
                                exact absurd H (by simp)
                            · rw [if_neg c35] at H
                              exact absurd H (by simp)
                          · rw [if_neg c34] at H
                            exact absurd H (by simp)
                        · rw [if_neg c33] at H
                          have c33b0 : bhas l1 ((rd_T28 l0 x56_2).f0) = false := by simpa using c33
                          clear c33
                          simp only [Option.some.injEq, Prod.mk.injEq] at H
                          obtain ⟨rfl, rfl⟩ := H
                          have p141 : 0 ≤ (x56_2 : Int) := of_decide_eq_true (by first | (with_reducible assumption) | assumption)
                          have q141 : x56_2 < (l0.length : Int) := of_decide_eq_true (by first | (with_reducible assumption) | assumption)
                          obtain ⟨ad141, e141, hx141_0, hx141_1⟩ := at_T28 HR0.out x56_2 p141 q141
                          cases e141
                          replace hx141_0 := (HB.out.cell (World.block_lt_of_cell? w _ hx141_0)).trans hx141_0
                          replace hx141_1 := (HB.out.cell (World.block_lt_of_cell? w _ hx141_1)).trans hx141_1
                          replace p141 := eq_true p141
                          replace q141 := eq_true q141
                          go_wp2_with (first | ((with_reducible refine gate_dst (N := 15) rfl ?_); refine box_event ?hg (N := 15) ?hd (cs := #[.string (⟨#[]⟩ : ByteArray), .int .i64 0]) (t := 28) ?hr ?_; (case hd => rfl); (case hg => rfl); (case hr => first | (go_simp; done) | (go_simp; rfl)); intro gb142 hg w41 hbox hb; have HMn := Aside0.mk (IsM.below (B := gB) (l := l1) (by repeat (first | (with_reducible exact HM.out) | (with_reducible apply IsM.alloc) | (with_reducible apply IsM.drewN) | (with_reducible apply IsM.drew) | refine IsM.set ?_ NM.out _)) hb); clear HM; have HM := HMn; clear HMn; have NM := Aside0.mk (IsM.ne_cells HM.out hbox); have n0_ := Aside0.mk (Kd.R_below (Kd.R_elderB (by (with_reducible repeat (first | apply Kd.R_alloc | apply Kd.R_drewN | apply Kd.R_drew)); exact HO_13.out) gb142 (Nat.le_of_eq hg.symm)) hb); have n1_ := Aside0.mk (below_step (by repeat (first | (with_reducible first | exact HB.out | apply below_alloc | apply pw_below_drewN | apply below_drew1) | exact HB.out)) hb); have n2_ := Aside0.mk (hbox); have n3_ := Aside0.mk ((by rw [hg]; exact (below_size (by repeat (first | (with_reducible first | exact HB.out | apply below_alloc | apply pw_below_drewN | apply below_drew1) | exact HB.out))) : w.heap.size ≤ gb142)); have n4_ := Aside0.mk ((by rw [hg]; exact (below_size (by repeat (first | (with_reducible first | exact HB.out | apply below_alloc | apply pw_below_drewN | apply below_drew1) | exact HB.out))) : w.heap.size ≤ gb142)); clear HO_13; clear HB; have HO_13 := n0_; have HB := n1_; have BK142 := n2_; have GW142 := n3_; have GE142 := n4_; clear n0_ n1_ n2_ n3_ n4_; clear hb hbox hg; have hcz42_0 : w41.cell? ⟨gb142, 0, none⟩ = some (.string (⟨#[]⟩ : ByteArray)) := (blk_cell BK142.out 0).trans rfl; have hcz42_1 : w41.cell? ⟨gb142, 1, none⟩ = some (.int .i64 0) := (blk_cell BK142.out 1).trans rfl; have hfz42_0 := blk_frozen BK142.out 0; have hfz42_1 := blk_frozen BK142.out 1) | ((with_reducible refine gate_callee (f := 34) rfl ?_); refine goesL_ (some 76) rfl rfl Try.func34 (by kernel_rfl) rfl #[.agg #[.string ((rd_T28 l0 x56_2).f0), .int .i64 ((rd_T28 l0 x56_2).f1)]] rfl (by (try simp only [List.map_toArray, List.map_cons, List.map_nil]); first | done | rfl | (simp only [List.length_drop, List.length_take]; rfl)) ?_; (with_reducible refine (match_variable.calls k2 ((rd_T28 l0 x56_2).f0) ((rd_T28 l0 x56_2).f1) true _ A31.out).mono ?_); rintro e w43 ⟨rfl, hb⟩; refine ⟨_, rfl, ?_⟩; have HMn := Aside0.mk (IsM.below (B := gB) (l := l1) (by repeat (first | (with_reducible exact HM.out) | (with_reducible apply IsM.alloc) | (with_reducible apply IsM.drewN) | (with_reducible apply IsM.drew) | refine IsM.set ?_ NM.out _)) hb); clear HM; have HM := HMn; clear HMn; have n0_ := Aside0.mk (Kd.R_below (by (with_reducible repeat (first | apply Kd.R_alloc | apply Kd.R_drewN | apply Kd.R_drew)); exact (Kd.R_mono (Kd.R_far (p := ⟨gb142, 1, none⟩) (Kd.R_far (p := ⟨gb142, 0, none⟩) (Kd.R_mono HO_13.out (fun k_ hk => (⟨hk, hk.2⟩ : _ ∧ k_ ≠ gb142))) (fun _ hk => hk.2) (.string ((rd_T28 l0 x56_2).f0))) (fun _ hk => hk.2) (.int .i64 ((rd_T28 l0 x56_2).f1))) (fun _ h_ => h_.1))) hb); have n1_ := Aside0.mk (blk_below (g := gb142) (o := .cells #[.string ((rd_T28 l0 x56_2).f0), .int .i64 ((rd_T28 l0 x56_2).f1)] 28 (0, 0)) (by (with_reducible repeat (first | refine blk_drewN ?_ _ | refine blk_drew ?_ | refine blk_alloc ?_ _)); refine blk_put (cs := #[.string ((rd_T28 l0 x56_2).f0), .int .i64 0]) ?_ 1 _ rfl; (with_reducible repeat (first | refine blk_drewN ?_ _ | refine blk_drew ?_ | refine blk_alloc ?_ _)); refine blk_put (cs := #[.string (⟨#[]⟩ : ByteArray), .int .i64 0]) ?_ 0 _ rfl; (with_reducible repeat (first | refine blk_drewN ?_ _ | refine blk_drew ?_ | refine blk_alloc ?_ _)); exact BK142.out) hb); have n2_ := Aside0.mk (below_step (by repeat (first | (with_reducible first | exact HB.out | apply below_alloc | apply pw_below_drewN | apply below_drew1 | refine below_set ?_ GE142.out) | exact HB.out)) hb); clear HO_13; clear BK142; clear HB; have HO_13 := n0_; have BK142 := n1_; have HB := n2_; clear n0_ n1_ n2_; (try clear hb); (try clear hb2); (try clear hk); (try clear hi)) | ((with_reducible refine gate_dst (N := 64) rfl ?_); refine map_look rfl _ _ rfl gB l1 ((rd_T28 l0 x56_2).f0) rfl (by repeat (first | (with_reducible exact HM.out) | (with_reducible apply IsM.alloc) | (with_reducible apply IsM.drewN) | (with_reducible apply IsM.drew) | refine IsM.set ?_ NM.out _)) (of_decide_eq_true (by first | (with_reducible assumption) | assumption)) rfl ?_))
                          go_ret2
                          exact ⟨_, by first | rfl | (simp [errW_none, errW_some] <;> rfl) | (simp [*, errW_none, errW_some] <;> rfl), by first | exact Kd.R_nil _ _ _ _ _ | exact Kd.N_nil _ _ _ _ _ | exact Kd.V_nil _ _ _ _ _ | exact Kd.Q_nil _ _ _ _ _ | exact Kd.S_nil _ _ _ _ _, by repeat (first | (with_reducible first | exact HB.out | apply below_alloc | apply pw_below_drewN | apply below_drew1 | refine below_set ?_ GE142.out) | exact HB.out)⟩
                      · replace c32 := Bool.eq_false_iff.mpr c32
                        subst c32
                        have H1 : (if x13_2.length < 5864062014805 then (match_Fill.l1 k2 l1 (x13_2 ++ [(⟨(rd_T28 l0 x56_2).f0, (rd_T28 l0 x56_2).f1⟩ : S28)]) l0 (l0.length : Int) (wrap64 (x56_2 + 1))) else (none)) = some (r1, r2) := by rw [if_neg (show ¬ (false = true) by decide)] at H; exact H
                        clear H
                        have H := H1
                        clear H1
                        by_cases c44 : x13_2.length < 5864062014805
                        · rw [if_pos c44] at H
                          have LMc44 := Aside0.mk c44
                          clear c44
                          obtain ⟨y148, hy148⟩ : ∃ y_ : List (S28), y_ = (x13_2 ++ [(⟨(rd_T28 l0 x56_2).f0, (rd_T28 l0 x56_2).f1⟩ : S28)]) := ⟨_, rfl⟩
                          replace H : (match_Fill.l1 k2 l1 y148 l0 (l0.length : Int) (wrap64 (x56_2 + 1))) = some (r1, r2) := by first | (rw [hy148]; with_reducible exact H) | (have H2_ := (Option.bind_some _ _).symm.trans H; rw [hy148]; with_reducible exact H2_) | (have H2_ := (Option.bind_some _ _).symm.trans H; with_reducible exact H2_) | with_reducible exact H | (rw [hy148]; exact H) | exact H
                          have Ny148 := Aside0.mk hy148
                          clear hy148
                          have H' := Aside0.mk H
                          clear H
                          have p141 : 0 ≤ (x56_2 : Int) := of_decide_eq_true (by first | (with_reducible assumption) | assumption)
                          have q141 : x56_2 < (l0.length : Int) := of_decide_eq_true (by first | (with_reducible assumption) | assumption)
                          obtain ⟨ad141, e141, hx141_0, hx141_1⟩ := at_T28 HR0.out x56_2 p141 q141
                          cases e141
                          replace hx141_0 := (HB.out.cell (World.block_lt_of_cell? w _ hx141_0)).trans hx141_0
                          replace hx141_1 := (HB.out.cell (World.block_lt_of_cell? w _ hx141_1)).trans hx141_1
                          replace p141 := eq_true p141
                          replace q141 := eq_true q141
                          go_wp2_with (first | ((with_reducible refine gate_dst (N := 15) rfl ?_); refine box_event ?hg (N := 15) ?hd (cs := #[.string (⟨#[]⟩ : ByteArray), .int .i64 0]) (t := 28) ?hr ?_; (case hd => rfl); (case hg => rfl); (case hr => first | (go_simp; done) | (go_simp; rfl)); intro gb142 hg w45 hbox hb; have HMn := Aside0.mk (IsM.below (B := gB) (l := l1) (by repeat (first | (with_reducible exact HM.out) | (with_reducible apply IsM.alloc) | (with_reducible apply IsM.drewN) | (with_reducible apply IsM.drew) | refine IsM.set ?_ NM.out _)) hb); clear HM; have HM := HMn; clear HMn; have NM := Aside0.mk (IsM.ne_cells HM.out hbox); have n0_ := Aside0.mk (Kd.R_below (Kd.R_elderB (by (with_reducible repeat (first | apply Kd.R_alloc | apply Kd.R_drewN | apply Kd.R_drew)); exact HO_13.out) gb142 (Nat.le_of_eq hg.symm)) hb); have n1_ := Aside0.mk (below_step (by repeat (first | (with_reducible first | exact HB.out | apply below_alloc | apply pw_below_drewN | apply below_drew1) | exact HB.out)) hb); have n2_ := Aside0.mk (hbox); have n3_ := Aside0.mk ((by rw [hg]; exact (below_size (by repeat (first | (with_reducible first | exact HB.out | apply below_alloc | apply pw_below_drewN | apply below_drew1) | exact HB.out))) : w.heap.size ≤ gb142)); have n4_ := Aside0.mk ((by rw [hg]; exact (below_size (by repeat (first | (with_reducible first | exact HB.out | apply below_alloc | apply pw_below_drewN | apply below_drew1) | exact HB.out))) : w.heap.size ≤ gb142)); clear HO_13; clear HB; have HO_13 := n0_; have HB := n1_; have BK142 := n2_; have GW142 := n3_; have GE142 := n4_; clear n0_ n1_ n2_ n3_ n4_; clear hb hbox hg; have hcz46_0 : w45.cell? ⟨gb142, 0, none⟩ = some (.string (⟨#[]⟩ : ByteArray)) := (blk_cell BK142.out 0).trans rfl; have hcz46_1 : w45.cell? ⟨gb142, 1, none⟩ = some (.int .i64 0) := (blk_cell BK142.out 1).trans rfl; have hfz46_0 := blk_frozen BK142.out 0; have hfz46_1 := blk_frozen BK142.out 1) | ((with_reducible refine gate_callee (f := 34) rfl ?_); refine goesL_ (some 76) rfl rfl Try.func34 (by kernel_rfl) rfl #[.agg #[.string ((rd_T28 l0 x56_2).f0), .int .i64 ((rd_T28 l0 x56_2).f1)]] rfl (by (try simp only [List.map_toArray, List.map_cons, List.map_nil]); first | done | rfl | (simp only [List.length_drop, List.length_take]; rfl)) ?_; (with_reducible refine (match_variable.calls k2 ((rd_T28 l0 x56_2).f0) ((rd_T28 l0 x56_2).f1) false _ A31.out).mono ?_); rintro e w47 ⟨rfl, hb⟩; refine ⟨_, rfl, ?_⟩; have HMn := Aside0.mk (IsM.below (B := gB) (l := l1) (by repeat (first | (with_reducible exact HM.out) | (with_reducible apply IsM.alloc) | (with_reducible apply IsM.drewN) | (with_reducible apply IsM.drew) | refine IsM.set ?_ NM.out _)) hb); clear HM; have HM := HMn; clear HMn; have n0_ := Aside0.mk (Kd.R_below (by (with_reducible repeat (first | apply Kd.R_alloc | apply Kd.R_drewN | apply Kd.R_drew)); exact (Kd.R_mono (Kd.R_far (p := ⟨gb142, 1, none⟩) (Kd.R_far (p := ⟨gb142, 0, none⟩) (Kd.R_mono HO_13.out (fun k_ hk => (⟨hk, hk.2⟩ : _ ∧ k_ ≠ gb142))) (fun _ hk => hk.2) (.string ((rd_T28 l0 x56_2).f0))) (fun _ hk => hk.2) (.int .i64 ((rd_T28 l0 x56_2).f1))) (fun _ h_ => h_.1))) hb); have n1_ := Aside0.mk (blk_below (g := gb142) (o := .cells #[.string ((rd_T28 l0 x56_2).f0), .int .i64 ((rd_T28 l0 x56_2).f1)] 28 (0, 0)) (by (with_reducible repeat (first | refine blk_drewN ?_ _ | refine blk_drew ?_ | refine blk_alloc ?_ _)); refine blk_put (cs := #[.string ((rd_T28 l0 x56_2).f0), .int .i64 0]) ?_ 1 _ rfl; (with_reducible repeat (first | refine blk_drewN ?_ _ | refine blk_drew ?_ | refine blk_alloc ?_ _)); refine blk_put (cs := #[.string (⟨#[]⟩ : ByteArray), .int .i64 0]) ?_ 0 _ rfl; (with_reducible repeat (first | refine blk_drewN ?_ _ | refine blk_drew ?_ | refine blk_alloc ?_ _)); exact BK142.out) hb); have n2_ := Aside0.mk (below_step (by repeat (first | (with_reducible first | exact HB.out | apply below_alloc | apply pw_below_drewN | apply below_drew1 | refine below_set ?_ GE142.out) | exact HB.out)) hb); clear HO_13; clear BK142; clear HB; have HO_13 := n0_; have BK142 := n1_; have HB := n2_; clear n0_ n1_ n2_; (try clear hb); (try clear hb2); (try clear hk); (try clear hi); have hcz48_0 : w47.cell? ⟨gb142, 0, none⟩ = some (.string ((rd_T28 l0 x56_2).f0)) := (blk_cell BK142.out 0).trans rfl; have hcz48_1 : w47.cell? ⟨gb142, 1, none⟩ = some (.int .i64 ((rd_T28 l0 x56_2).f1)) := (blk_cell BK142.out 1).trans rfl; have hfz48_0 := blk_frozen BK142.out 0; have hfz48_1 := blk_frozen BK142.out 1) | ((with_reducible refine gate_builtin (b := .append) (xs := #[.tmp 78, .tmp 80]) rfl ?_); at_builtin; refine Kd.R_append k28 (w0 := w) w.heap.size rfl (.tmp 78) (.tmp 80) 23 28 (.agg #[(.string ⟨#[]⟩), (.int .i64 0)]) 24 rfl Try.underlying23 info28 rfl (by decide) (by omega) u13 x13_2 (⟨(rd_T28 l0 x56_2).f0, (rd_T28 l0 x56_2).f1⟩ : S28) [.string ((rd_T28 l0 x56_2).f0), .int .i64 ((rd_T28 l0 x56_2).f1)] (fun k_ => k_ ≠ gb142) (fun _ => False) rfl rfl ?aP (fun _ hk => hk.elim) ?aF ?aO ?aB ?aS ?aL ?_; (case aP => exact k28_mkM _ _ _ (⟨(rd_T28 l0 x56_2).f0, (rd_T28 l0 x56_2).f1⟩ : S28)); (case aB => exact (by repeat (first | (with_reducible first | exact HB.out | apply below_alloc | apply pw_below_drewN | apply below_drew1 | refine below_set ?_ GE142.out) | exact HB.out))); (case aF => exact (fun k_ hk => Kd.freshB (g := gb142) (o := .cells #[.string ((rd_T28 l0 x56_2).f0), .int .i64 ((rd_T28 l0 x56_2).f1)] 28 (0, 0)) (by (with_reducible repeat (first | refine blk_drewN ?_ _ | refine blk_drew ?_ | refine blk_alloc ?_ _)); exact BK142.out) k_ hk)); (case aO => exact (by (with_reducible repeat (first | apply Kd.R_alloc | apply Kd.R_drewN | apply Kd.R_drew)); exact Kd.R_mono HO_13.out (fun _ hk => hk.2))); (case aS => exact (below_size (by repeat (first | (with_reducible first | exact HB.out | apply below_alloc | apply pw_below_drewN | apply below_drew1 | refine below_set ?_ GE142.out) | exact HB.out)))); (case aL => have := LMc44.out; omega); intro v149 w49 ho hb hg hat; have HMn := Aside0.mk (IsM.grown (B := gB) (l := l1) (by repeat (first | (with_reducible exact HM.out) | (with_reducible apply IsM.alloc) | (with_reducible apply IsM.drewN) | (with_reducible apply IsM.drew) | refine IsM.set ?_ NM.out _)) hg (by first | exact IsM.away HM.out HO_13.out | exact IsM.aways HM.out HO_13.out)); clear HM; have HM := HMn; clear HMn; rw [← Ny148.out] at ho; have n0_ := Aside0.mk (blk_grown (g := gb142) (o := .cells #[.string ((rd_T28 l0 x56_2).f0), .int .i64 ((rd_T28 l0 x56_2).f1)] 28 (0, 0)) (by (with_reducible repeat (first | refine blk_drewN ?_ _ | refine blk_drew ?_ | refine blk_alloc ?_ _)); exact BK142.out) hg (Kd.R_away HO_13.out (fun _ hk => hk.2))); have n1_ := Aside0.mk (hb); have n2_ := Aside0.mk (ho); clear BK142; clear HB; clear HO_13; have BK142 := n0_; have HB := n1_; have HO150 := n2_; clear n0_ n1_ n2_; clear ho hb hg hat) | ((with_reducible refine gate_dst (N := 64) rfl ?_); refine map_look rfl _ _ rfl gB l1 ((rd_T28 l0 x56_2).f0) rfl (by repeat (first | (with_reducible exact HM.out) | (with_reducible apply IsM.alloc) | (with_reducible apply IsM.drewN) | (with_reducible apply IsM.drew) | refine IsM.set ?_ NM.out _)) (of_decide_eq_true (by first | (with_reducible assumption) | assumption)) rfl ?_))
                          go_roundg k2
                          case measure => have := HK1.out; have := HK2.out; omega
                          case rel => exact ⟨(y148), (wrap64 (x56_2 + 1)), (by first | rfl | (simp; done) | (simp [*]; done)), H', ⟨by have := HK1.out; have := HK2.out; omega⟩, ⟨by (with_reducible repeat (first | apply Kd.R_alloc | apply Kd.R_drewN | apply Kd.R_drew)); exact Kd.R_mono HO150.out (fun _ hk => trivial)⟩, ⟨by repeat (first | (with_reducible first | exact HB.out | apply below_alloc | apply pw_below_drewN | apply below_drew1 | refine below_set ?_ GE142.out) | exact HB.out)⟩, ⟨(by repeat (first | (with_reducible exact HM.out) | (with_reducible apply IsM.alloc) | (with_reducible apply IsM.drewN) | (with_reducible apply IsM.drew) | refine IsM.set ?_ NM.out _))⟩⟩
                        · rw [if_neg c44] at H
                          exact absurd H (by simp)
                    · rw [if_neg c30] at H
                      exact absurd H (by simp)
                  · rw [if_neg c29] at H
                    exact absurd H (by simp)
                · rw [if_neg c28] at H
                  exact absurd H (by simp)
              · rw [if_neg c27] at H
                have c27b0 : decide (x56_2 < (l0.length : Int)) = false := decide_eq_false c27
                clear c27
                by_cases c50 : (x13_2.length : Int) > 64
                · rw [if_pos c50] at H
                  have c50b0 : decide (64 < (x13_2.length : Int)) = true := decide_eq_true c50
                  have c50b1 : decide (64 < x13_2.length) = true := decide_eq_true (by omega)
                  clear c50
                  simp only [Option.some.injEq, Prod.mk.injEq] at H
                  obtain ⟨rfl, rfl⟩ := H
                  obtain ⟨Ao51, co51, eo51⟩ := Kd.R_slice HO_13.out
                  subst eo51
                  go_wp2
                  go_ret2
                  exact ⟨_, by first | rfl | (simp [errW_none, errW_some] <;> rfl) | (simp [*, errW_none, errW_some] <;> rfl), by first | exact Kd.R_nil _ _ _ _ _ | exact Kd.N_nil _ _ _ _ _ | exact Kd.V_nil _ _ _ _ _ | exact Kd.Q_nil _ _ _ _ _ | exact Kd.S_nil _ _ _ _ _, by repeat (first | (with_reducible first | exact HB.out | apply below_alloc | apply pw_below_drewN | apply below_drew1) | exact HB.out)⟩
                · rw [if_neg c50] at H
                  have c50b0 : decide (64 < (x13_2.length : Int)) = false := decide_eq_false c50
                  have c50b1 : decide (64 < x13_2.length) = false := decide_eq_false (by omega)
                  clear c50
                  simp only [Option.some.injEq, Prod.mk.injEq] at H
                  obtain ⟨rfl, rfl⟩ := H
                  obtain ⟨Ao52, co52, eo52⟩ := Kd.R_slice HO_13.out
                  subst eo52
                  go_wp2
                  go_ret2
                  exact ⟨_, by first | rfl | (simp [errW_none, errW_some] <;> rfl) | (simp [*, errW_none, errW_some] <;> rfl), by (with_reducible repeat (first | apply Kd.R_alloc | apply Kd.R_drewN | apply Kd.R_drew)); exact HO_13.out, by repeat (first | (with_reducible first | exact HB.out | apply below_alloc | apply pw_below_drewN | apply below_drew1) | exact HB.out)⟩
  · rw [if_neg c4] at H
    have c4b0 : (t136 == 0) = false := beq_eq_false_iff_ne.mpr c4
    have c4b1 : (t136 != 0) = true := bne_iff_ne.mpr c4
    simp only [Option.some.injEq, Prod.mk.injEq] at H
    obtain ⟨rfl, rfl⟩ := H
    go_enter Try.func13, Try.ntmps13
    go_wp2_with (first | ((with_reducible refine gate_callee (f := 33) rfl ?_); refine goesL_ (some 19) rfl rfl Try.func33 (by kernel_rfl) rfl #[.slice A0 l0.length c0] rfl (by (try simp only [List.map_toArray, List.map_cons, List.map_nil]); first | done | rfl | (simp only [List.length_drop, List.length_take]; rfl)) ?_; (with_reducible refine (term_Check.calls k _ _ l0 t136 _ ?side1 ?side2 A3.out).mono ?_); (case side1 => repeat (first | exact HR0.out | (with_reducible refine Kd.C_alloc ?_ _) | (with_reducible refine Kd.C_drewN ?_ _) | (with_reducible refine Kd.C_drew ?_))); (case side2 => exact HC0.out); rintro e w53 ⟨rfl, hb⟩; refine ⟨_, rfl, ?_⟩; have n0_ := Aside0.mk (below_step (by repeat (first | (with_reducible first | exact HB.out | apply below_alloc | apply pw_below_drewN | apply below_drew1) | exact HB.out)) hb); clear HB; have HB := n0_; clear n0_; (try clear hb); (try clear hb2); (try clear hk); (try clear hi)))
    go_ret2
    exact ⟨_, by first | rfl | (simp [errW_none, errW_some] <;> rfl) | (simp [*, errW_none, errW_some] <;> rfl), by first | exact Kd.R_nil _ _ _ _ _ | exact Kd.N_nil _ _ _ _ _ | exact Kd.V_nil _ _ _ _ _ | exact Kd.Q_nil _ _ _ _ _ | exact Kd.S_nil _ _ _ _ _, by repeat (first | (with_reducible first | exact HB.out | apply below_alloc | apply pw_below_drewN | apply below_drew1) | exact HB.out)⟩

end Go.Proofs.Ytnkpcnnbeaomnaa.C
end
