import Derived.Test.YtnkpcnnbeaomnaaDoorRR2
import Derived.Test.YtnkpcnnbeaomnaaDoorRR5

section
-- Written by a program of this session (a scratch print over hand-made contracts), out of the translation. Not trusted: Lean checks it.
namespace Go.Proofs.YtnkpcnnbeaomnaaDoor.C
open Go.RowKit Go.Proofs.YtnkpcnnbeaomnaaDoorW.PrintWords Go.Proofs.YtnkpcnnbeaomnaaDoorW.PrintLast Go.Proofs.YtnkpcnnbeaomnaaDoorW.PrintMore
attribute [local go_sem] max2_int min2_int max_two min_two max_three min_three max_four min_four   -- for this text's walks alone
set_option linter.unusedVariables false
set_option linter.unusedSimpArgs false

/-! ### term_Vars: function 44 -/
def term_Vars.l0 : Nat → List ByteArray → List (S33) → Int → Int → Option (List ByteArray × Int)
  | 0, _, _, _, _ => none
  | k + 1, x5, x13, x14, x15 => if x15 < x14 then (if 0 ≤ x15 then (if x15 < (x13.length : Int) then ((name_Kind.f k ((rd_T33 x13 x15).f0)).bind fun t163 => (if t163 = 2 then ((slices_Contains_string_string.f k x5 ((rd_T33 x13 x15).f0)).bind fun t164 => (if t164 = true then (term_Vars.l0 k x5 x13 x14 (wrap64 (x15 + 1))) else (if x5.length < 8796093022208 then (term_Vars.l0 k (x5 ++ [(rd_T33 x13 x15).f0]) x13 x14 (wrap64 (x15 + 1))) else (none)))) else (term_Vars.l0 k x5 x13 x14 (wrap64 (x15 + 1))))) else (none)) else (none)) else (some (x5, 0))
def term_Vars.f (k : Nat) (l0 : List (S33)) : Option (List ByteArray × Int) := (term_Check.f k l0).bind fun t160 => (if t160 = 0 then (term_Vars.l0 k ([] : List ByteArray) l0 (l0.length : Int) 0) else (some (([] : List ByteArray), t160)))
theorem term_Vars.mono_l : ∀ k, (∀ y0 y1 y2 y3, LeO (term_Vars.l0 k y0 y1 y2 y3) (term_Vars.l0 (k + 1) y0 y1 y2 y3))
  | 0 => fun _ _ _ _ r h => by simp [term_Vars.l0] at h
  | k + 1 => by
    have ih0 := term_Vars.mono_l k
    · intro y0 y1 y2 y3
      unfold term_Vars.l0
      repeat' first
      | (with_reducible exact ih0 _ _ _ _)
      | (with_reducible exact name_Kind.mono _ _)
      | (with_reducible exact slices_Contains_string_string.mono _ _ _)
      | (with_reducible exact term_Check.mono _ _)
      | (with_reducible exact LeO.refl _)
      | (with_reducible exact LeO.none _)
      | (with_reducible refine LeO.ite ?_ ?_)
      | (with_reducible refine LeO.bind ?_ (fun _ => ?_))
      | exact ih0 _ _ _ _
      | exact name_Kind.mono _ _
      | exact slices_Contains_string_string.mono _ _ _
      | exact term_Check.mono _ _
      | exact LeO.none _
      | refine LeO.ite ?_ ?_
      | refine LeO.bind ?_ (fun _ => ?_)
theorem term_Vars.mono : ∀ a0 k, LeO (term_Vars.f k a0) (term_Vars.f (k + 1) a0) := by
  intro a0 k
  have ih0 := term_Vars.mono_l k
  unfold term_Vars.f
  repeat' first
      | (with_reducible exact ih0 _ _ _ _)
      | (with_reducible exact name_Kind.mono _ _)
      | (with_reducible exact slices_Contains_string_string.mono _ _ _)
      | (with_reducible exact term_Check.mono _ _)
      | (with_reducible exact LeO.refl _)
      | (with_reducible exact LeO.none _)
      | (with_reducible refine LeO.ite ?_ ?_)
      | (with_reducible refine LeO.bind ?_ (fun _ => ?_))
      | exact ih0 _ _ _ _
      | exact name_Kind.mono _ _
      | exact slices_Contains_string_string.mono _ _ _
      | exact term_Check.mono _ _
      | exact LeO.none _
      | refine LeO.ite ?_ ?_
      | refine LeO.bind ?_ (fun _ => ?_)
set_option maxHeartbeats 8000000 in
set_option maxRecDepth 100000 in
theorem term_Vars.calls (k : Nat) (A0 : Option Addr) (c0 : Nat) (l0 : List (S33)) (r1 : List ByteArray) (r2 : Int) (w : World) (hr0 : Kd.C k33 w A0 l0.length l0) (hc0 : l0.length ≤ c0) (h : term_Vars.f k l0 = some (r1, r2)) :
    Calls Tryd.prog 44 #[.slice A0 l0.length c0] w fun e w' => ∃ v0_ : Value, e = .returned (.tuple #[v0_, .int .i64 r2]) ∧ Kd.R Kd.string 9 w' w.heap.size (fun _ => True) v0_ r1 ∧ Below w.heap.size w w' := by
  have hu33 := Tryd.underlying33
  have HR0 := Aside0.mk hr0
  have HC0 := Aside0.mk hc0
  clear hr0 hc0
  have HB := Aside0.mk (Below.refl w.heap.size w)
  have H : ((term_Check.f k l0).bind fun t160 => (if t160 = 0 then (term_Vars.l0 k ([] : List ByteArray) l0 (l0.length : Int) 0) else (some (([] : List ByteArray), t160)))) = some (r1, r2) := h
  clear h
  replace H := Option.bind_eq_some_iff.mp H
  obtain ⟨t160, A20, H⟩ := H
  replace H : (if t160 = 0 then (term_Vars.l0 k ([] : List ByteArray) l0 (l0.length : Int) 0) else (some (([] : List ByteArray), t160))) = some (r1, r2) := H
  have A2 := Aside0.mk A20
  clear A20
  by_cases c3 : t160 = 0
  · rw [if_pos c3] at H
    have c3b0 : (t160 == 0) = true := beq_iff_eq.mpr c3
    have c3b1 : (t160 != 0) = false := bne_eq_false_iff_eq.mpr c3
    clear c3
    have H' := Aside0.mk H
    clear H
    go_enter Tryd.func44, Tryd.ntmps44
    go_wp2_with (first | ((with_reducible refine gate_callee (f := 28) rfl ?_); refine goesL_ (some 9) rfl rfl Tryd.func28 (by kernel_rfl) rfl #[.slice A0 l0.length c0] rfl (by (try simp only [List.map_toArray, List.map_cons, List.map_nil]); first | done | rfl | (simp only [List.length_drop, List.length_take]; rfl)) ?_; (with_reducible refine (term_Check.calls k _ _ l0 t160 _ ?side1 ?side2 A2.out).mono ?_); (case side1 => repeat (first | exact HR0.out | (with_reducible refine Kd.C_alloc ?_ _) | (with_reducible refine Kd.C_drewN ?_ _) | (with_reducible refine Kd.C_drew ?_))); (case side2 => exact HC0.out); rintro e w4 ⟨rfl, hb⟩; refine ⟨_, rfl, ?_⟩; have n0_ := Aside0.mk (below_step (by repeat (first | (with_reducible first | exact HB.out | apply below_alloc | apply pw_below_drewN | apply below_drew1) | exact HB.out)) hb); clear HB; have HB := n0_; clear n0_; (try clear hb); (try clear hb2); (try clear hk); (try clear hi)))
    go_loopg [5, 15] k (fun kq v5 v15 w' => ∃ (x5_1 : List ByteArray) (x15_1 : Int), v15 = .int .i64 x15_1 ∧ Aside0 (term_Vars.l0 kq x5_1 l0 (l0.length : Int) x15_1 = some (r1, r2)) ∧ Aside0 (kq ≤ k) ∧ Aside0 (Kd.R Kd.string 9 w' w.heap.size (fun _ => True) v5 x5_1) ∧ Aside0 (Below w.heap.size w w'))
    case atStart => exact ⟨(([] : List ByteArray)), (0), (by first | rfl | (simp; done) | (simp [*]; done)), H', ⟨Nat.le_refl _⟩, ⟨by first | exact Kd.R_nil _ _ _ _ _ | exact Kd.N_nil _ _ _ _ _ | exact Kd.V_nil _ _ _ _ _ | exact Kd.Q_nil _ _ _ _ _ | exact Kd.S_nil _ _ _ _ _⟩, ⟨by repeat (first | (with_reducible first | exact HB.out | apply below_alloc | apply pw_below_drewN | apply below_drew1) | exact HB.out)⟩⟩
    case round =>
      clear H'
      try clear c2
      try clear p2
      try clear c3
      try clear c3b0
      try clear c3b1
      try clear c4
      obtain ⟨x5_1, x15_1, rfl, HA, HK1, HO_5, HB⟩ := hrel
      cases gk with
      | zero => exact absurd HA.out (by simp [term_Vars.l0])
      | succ k1 =>
        have H := HA.out
        clear HA
        simp only [term_Vars.l0] at H
        by_cases c5 : x15_1 < (l0.length : Int)
        · rw [if_pos c5] at H
          have c5b0 : decide (x15_1 < (l0.length : Int)) = true := decide_eq_true c5
          clear c5
          by_cases c6 : 0 ≤ x15_1
          · rw [if_pos c6] at H
            have c6b0 : decide (0 ≤ x15_1) = true := decide_eq_true c6
            clear c6
            by_cases c7 : x15_1 < (l0.length : Int)
            · rw [if_pos c7] at H
              have c7b0 : decide (x15_1 < (l0.length : Int)) = true := decide_eq_true c7
              clear c7
              replace H := Option.bind_eq_some_iff.mp H
              obtain ⟨t163, A80, H⟩ := H
              replace H : (if t163 = 2 then ((slices_Contains_string_string.f k1 x5_1 ((rd_T33 l0 x15_1).f0)).bind fun t164 => (if t164 = true then (term_Vars.l0 k1 x5_1 l0 (l0.length : Int) (wrap64 (x15_1 + 1))) else (if x5_1.length < 8796093022208 then (term_Vars.l0 k1 (x5_1 ++ [(rd_T33 l0 x15_1).f0]) l0 (l0.length : Int) (wrap64 (x15_1 + 1))) else (none)))) else (term_Vars.l0 k1 x5_1 l0 (l0.length : Int) (wrap64 (x15_1 + 1)))) = some (r1, r2) := H
              have A8 := Aside0.mk A80
              clear A80
              by_cases c9 : t163 = 2
              · rw [if_pos c9] at H
                have c9b0 : (t163 == 2) = true := beq_iff_eq.mpr c9
                have c9b1 : (t163 != 2) = false := bne_eq_false_iff_eq.mpr c9
                clear c9
                replace H := Option.bind_eq_some_iff.mp H
                obtain ⟨t164, A100, H⟩ := H
                replace H : (if t164 = true then (term_Vars.l0 k1 x5_1 l0 (l0.length : Int) (wrap64 (x15_1 + 1))) else (if x5_1.length < 8796093022208 then (term_Vars.l0 k1 (x5_1 ++ [(rd_T33 l0 x15_1).f0]) l0 (l0.length : Int) (wrap64 (x15_1 + 1))) else (none))) = some (r1, r2) := H
                have A10 := Aside0.mk A100
                clear A100
                by_cases c11 : t164 = true
                · subst c11
                  have H1 : (term_Vars.l0 k1 x5_1 l0 (l0.length : Int) (wrap64 (x15_1 + 1))) = some (r1, r2) := by rw [if_pos rfl] at H; exact H
                  clear H
                  have H := H1
                  clear H1
                  have H' := Aside0.mk H
                  clear H
                  have p161 : 0 ≤ (x15_1 : Int) := of_decide_eq_true (by first | (with_reducible assumption) | assumption)
                  have q161 : x15_1 < (l0.length : Int) := of_decide_eq_true (by first | (with_reducible assumption) | assumption)
                  obtain ⟨ad161, e161, hx161_0, hx161_1⟩ := at_T33 HR0.out x15_1 p161 q161
                  cases e161
                  replace hx161_0 := (HB.out.cell (World.block_lt_of_cell? w _ hx161_0)).trans hx161_0
                  replace hx161_1 := (HB.out.cell (World.block_lt_of_cell? w _ hx161_1)).trans hx161_1
                  replace p161 := eq_true p161
                  replace q161 := eq_true q161
                  go_wp2_with (first | ((with_reducible refine gate_dst (N := 7) rfl ?_); refine box_event ?hg (N := 7) ?hd (cs := #[.string (⟨#[]⟩ : ByteArray), .int .i64 0]) (t := 33) ?hr ?_; (case hd => rfl); (case hg => rfl); (case hr => first | (go_simp; done) | (go_simp; rfl)); intro gb162 hg w12 hbox hb; have n0_ := Aside0.mk (Kd.R_below (by (with_reducible repeat (first | apply Kd.R_alloc | apply Kd.R_drewN | apply Kd.R_drew)); exact HO_5.out) hb); have n1_ := Aside0.mk (below_step (by repeat (first | (with_reducible first | exact HB.out | apply below_alloc | apply pw_below_drewN | apply below_drew1) | exact HB.out)) hb); have n2_ := Aside0.mk (hbox); have n3_ := Aside0.mk ((by rw [hg]; exact (below_size (by repeat (first | (with_reducible first | exact HB.out | apply below_alloc | apply pw_below_drewN | apply below_drew1) | exact HB.out))) : w.heap.size ≤ gb162)); have n4_ := Aside0.mk ((by rw [hg]; exact (below_size (by repeat (first | (with_reducible first | exact HB.out | apply below_alloc | apply pw_below_drewN | apply below_drew1) | exact HB.out))) : w.heap.size ≤ gb162)); clear HO_5; clear HB; have HO_5 := n0_; have HB := n1_; have BK162 := n2_; have GW162 := n3_; have GE162 := n4_; clear n0_ n1_ n2_ n3_ n4_; clear hb hbox hg; have hcz13_0 : w12.cell? ⟨gb162, 0, none⟩ = some (.string (⟨#[]⟩ : ByteArray)) := (blk_cell BK162.out 0).trans rfl; have hcz13_1 : w12.cell? ⟨gb162, 1, none⟩ = some (.int .i64 0) := (blk_cell BK162.out 1).trans rfl; have hfz13_0 := blk_frozen BK162.out 0; have hfz13_1 := blk_frozen BK162.out 1) | ((with_reducible refine gate_callee (f := 32) rfl ?_); refine goesL_ (some 21) rfl rfl Tryd.func32 (by kernel_rfl) rfl #[.string ((rd_T33 l0 x15_1).f0)] rfl (by (try simp only [List.map_toArray, List.map_cons, List.map_nil]); first | done | rfl | (simp only [List.length_drop, List.length_take]; rfl)) ?_; (with_reducible refine (name_Kind.calls k1 ((rd_T33 l0 x15_1).f0) t163 _ A8.out).mono ?_); rintro e w' ⟨rfl, ⟨nd, rfl⟩⟩; refine ⟨_, rfl, ?_⟩; obtain ⟨Ao14, co14, eo14⟩ := Kd.R_slice HO_5.out; subst eo14) | (go_at_call 59; (with_reducible refine (slices_Contains_string_string.calls k1 _ _ x5_1 ((rd_T33 l0 x15_1).f0) true _ ?side1 ?side2 A10.out).mono ?_); (case side1 => refine (Kd.R_reads' (e := 9) (base := w.heap.size) (ok := fun k_ => True) (n := x5_1.length) (c := co14) ?_).2.2; exact (by (with_reducible repeat (first | apply Kd.R_alloc | apply Kd.R_drewN | apply Kd.R_drew)); exact (Kd.R_mono (Kd.R_far (p := ⟨gb162, 1, none⟩) (Kd.R_far (p := ⟨gb162, 0, none⟩) (Kd.R_types HO_5.out BK162.out (by decide)) (fun _ hk => hk.2) (.string ((rd_T33 l0 x15_1).f0))) (fun _ hk => hk.2) (.int .i64 ((rd_T33 l0 x15_1).f1))) (fun _ h_ => h_.1)))); (case side2 => exact (Kd.R_reads' HO_5.out).2.1); rintro e w' ⟨rfl, ⟨nd, rfl⟩⟩))
                  go_roundg k1
                  case measure => have := HK1.out; omega
                  case rel => exact ⟨(x5_1), (wrap64 (x15_1 + 1)), (by first | rfl | (simp; done) | (simp [*]; done)), H', ⟨by have := HK1.out; omega⟩, ⟨by (with_reducible repeat (first | apply Kd.R_alloc | apply Kd.R_drewN | apply Kd.R_drew)); exact Kd.R_mono (Kd.R_far (p := ⟨gb162, 1, none⟩) (Kd.R_far (p := ⟨gb162, 0, none⟩) (Kd.R_types HO_5.out BK162.out (by decide)) (fun _ hk => hk.2) (.string ((rd_T33 l0 x15_1).f0))) (fun _ hk => hk.2) (.int .i64 ((rd_T33 l0 x15_1).f1))) (fun _ hk => trivial)⟩, ⟨by repeat (first | (with_reducible first | exact HB.out | apply below_alloc | apply pw_below_drewN | apply below_drew1 | refine below_set ?_ GE162.out) | exact HB.out)⟩⟩
                · replace c11 := Bool.eq_false_iff.mpr c11
                  subst c11
                  have H1 : (if x5_1.length < 8796093022208 then (term_Vars.l0 k1 (x5_1 ++ [(rd_T33 l0 x15_1).f0]) l0 (l0.length : Int) (wrap64 (x15_1 + 1))) else (none)) = some (r1, r2) := by rw [if_neg (show ¬ (false = true) by decide)] at H; exact H
                  clear H
                  have H := H1
                  clear H1
                  by_cases c15 : x5_1.length < 8796093022208
                  · rw [if_pos c15] at H
                    have LMc15 := Aside0.mk c15
                    clear c15
                    obtain ⟨y165, hy165⟩ : ∃ y_ : List ByteArray, y_ = (x5_1 ++ [(rd_T33 l0 x15_1).f0]) := ⟨_, rfl⟩
                    replace H : (term_Vars.l0 k1 y165 l0 (l0.length : Int) (wrap64 (x15_1 + 1))) = some (r1, r2) := by first | (rw [hy165]; with_reducible exact H) | (have H2_ := (Option.bind_some _ _).symm.trans H; rw [hy165]; with_reducible exact H2_) | (have H2_ := (Option.bind_some _ _).symm.trans H; with_reducible exact H2_) | with_reducible exact H | (rw [hy165]; exact H) | exact H
                    have Ny165 := Aside0.mk hy165
                    clear hy165
                    have H' := Aside0.mk H
                    clear H
                    have p161 : 0 ≤ (x15_1 : Int) := of_decide_eq_true (by first | (with_reducible assumption) | assumption)
                    have q161 : x15_1 < (l0.length : Int) := of_decide_eq_true (by first | (with_reducible assumption) | assumption)
                    obtain ⟨ad161, e161, hx161_0, hx161_1⟩ := at_T33 HR0.out x15_1 p161 q161
                    cases e161
                    replace hx161_0 := (HB.out.cell (World.block_lt_of_cell? w _ hx161_0)).trans hx161_0
                    replace hx161_1 := (HB.out.cell (World.block_lt_of_cell? w _ hx161_1)).trans hx161_1
                    replace p161 := eq_true p161
                    replace q161 := eq_true q161
                    go_wp2_with (first | ((with_reducible refine gate_dst (N := 7) rfl ?_); refine box_event ?hg (N := 7) ?hd (cs := #[.string (⟨#[]⟩ : ByteArray), .int .i64 0]) (t := 33) ?hr ?_; (case hd => rfl); (case hg => rfl); (case hr => first | (go_simp; done) | (go_simp; rfl)); intro gb162 hg w16 hbox hb; have n0_ := Aside0.mk (Kd.R_below (by (with_reducible repeat (first | apply Kd.R_alloc | apply Kd.R_drewN | apply Kd.R_drew)); exact HO_5.out) hb); have n1_ := Aside0.mk (below_step (by repeat (first | (with_reducible first | exact HB.out | apply below_alloc | apply pw_below_drewN | apply below_drew1) | exact HB.out)) hb); have n2_ := Aside0.mk (hbox); have n3_ := Aside0.mk ((by rw [hg]; exact (below_size (by repeat (first | (with_reducible first | exact HB.out | apply below_alloc | apply pw_below_drewN | apply below_drew1) | exact HB.out))) : w.heap.size ≤ gb162)); have n4_ := Aside0.mk ((by rw [hg]; exact (below_size (by repeat (first | (with_reducible first | exact HB.out | apply below_alloc | apply pw_below_drewN | apply below_drew1) | exact HB.out))) : w.heap.size ≤ gb162)); clear HO_5; clear HB; have HO_5 := n0_; have HB := n1_; have BK162 := n2_; have GW162 := n3_; have GE162 := n4_; clear n0_ n1_ n2_ n3_ n4_; clear hb hbox hg; have hcz17_0 : w16.cell? ⟨gb162, 0, none⟩ = some (.string (⟨#[]⟩ : ByteArray)) := (blk_cell BK162.out 0).trans rfl; have hcz17_1 : w16.cell? ⟨gb162, 1, none⟩ = some (.int .i64 0) := (blk_cell BK162.out 1).trans rfl; have hfz17_0 := blk_frozen BK162.out 0; have hfz17_1 := blk_frozen BK162.out 1) | ((with_reducible refine gate_callee (f := 32) rfl ?_); refine goesL_ (some 21) rfl rfl Tryd.func32 (by kernel_rfl) rfl #[.string ((rd_T33 l0 x15_1).f0)] rfl (by (try simp only [List.map_toArray, List.map_cons, List.map_nil]); first | done | rfl | (simp only [List.length_drop, List.length_take]; rfl)) ?_; (with_reducible refine (name_Kind.calls k1 ((rd_T33 l0 x15_1).f0) t163 _ A8.out).mono ?_); rintro e w' ⟨rfl, ⟨nd, rfl⟩⟩; refine ⟨_, rfl, ?_⟩; obtain ⟨Ao18, co18, eo18⟩ := Kd.R_slice HO_5.out; subst eo18) | (go_at_call 59; (with_reducible refine (slices_Contains_string_string.calls k1 _ _ x5_1 ((rd_T33 l0 x15_1).f0) false _ ?side1 ?side2 A10.out).mono ?_); (case side1 => refine (Kd.R_reads' (e := 9) (base := w.heap.size) (ok := fun k_ => True) (n := x5_1.length) (c := co18) ?_).2.2; exact (by (with_reducible repeat (first | apply Kd.R_alloc | apply Kd.R_drewN | apply Kd.R_drew)); exact (Kd.R_mono (Kd.R_far (p := ⟨gb162, 1, none⟩) (Kd.R_far (p := ⟨gb162, 0, none⟩) (Kd.R_types HO_5.out BK162.out (by decide)) (fun _ hk => hk.2) (.string ((rd_T33 l0 x15_1).f0))) (fun _ hk => hk.2) (.int .i64 ((rd_T33 l0 x15_1).f1))) (fun _ h_ => h_.1)))); (case side2 => exact (Kd.R_reads' HO_5.out).2.1); rintro e w' ⟨rfl, ⟨nd, rfl⟩⟩) | ((with_reducible refine gate_builtin (b := .append) (xs := #[.tmp 30, .tmp 33]) rfl ?_); at_builtin; refine Kd.R_append Kd.string (w0 := w) w.heap.size rfl (.tmp 30) (.tmp 33) 45 9 (.string ⟨#[]⟩) 16 rfl Tryd.underlying45 info9 rfl (by decide) (by omega) (.slice Ao18 x5_1.length co18) x5_1 ((rd_T33 l0 x15_1).f0) [.string ((rd_T33 l0 x15_1).f0)] (fun _ => True) (fun _ => False) rfl (by first | (go_simp; done) | (go_simp; rfl)) ?aP (fun _ hk => hk.elim) ?aF ?aO ?aB ?aS ?aL ?_; (case aP => exact rfl); (case aB => exact (by repeat (first | (with_reducible first | exact HB.out | apply below_alloc | apply pw_below_drewN | apply below_drew1 | refine below_set ?_ GE162.out) | exact HB.out))); (case aF => exact (fun _ _ => trivial)); (case aO => exact (by (with_reducible repeat (first | apply Kd.R_alloc | apply Kd.R_drewN | apply Kd.R_drew)); exact Kd.R_mono (Kd.R_far (p := ⟨gb162, 1, none⟩) (Kd.R_far (p := ⟨gb162, 0, none⟩) (Kd.R_types HO_5.out BK162.out (by decide)) (fun _ hk => hk.2) (.string ((rd_T33 l0 x15_1).f0))) (fun _ hk => hk.2) (.int .i64 ((rd_T33 l0 x15_1).f1))) (fun _ hk => trivial))); (case aS => exact (below_size (by repeat (first | (with_reducible first | exact HB.out | apply below_alloc | apply pw_below_drewN | apply below_drew1 | refine below_set ?_ GE162.out) | exact HB.out)))); (case aL => have := LMc15.out; omega); intro v166 w19 ho hb hg hat; rw [← Ny165.out] at ho; have n0_ := Aside0.mk (blk_grown (g := gb162) (o := .cells #[.string ((rd_T33 l0 x15_1).f0), .int .i64 ((rd_T33 l0 x15_1).f1)] 33 (0, 0)) (by (with_reducible repeat (first | refine blk_drewN ?_ _ | refine blk_drew ?_ | refine blk_alloc ?_ _)); refine blk_put (cs := #[.string ((rd_T33 l0 x15_1).f0), .int .i64 0]) ?_ 1 _ rfl; (with_reducible repeat (first | refine blk_drewN ?_ _ | refine blk_drew ?_ | refine blk_alloc ?_ _)); refine blk_put (cs := #[.string (⟨#[]⟩ : ByteArray), .int .i64 0]) ?_ 0 _ rfl; (with_reducible repeat (first | refine blk_drewN ?_ _ | refine blk_drew ?_ | refine blk_alloc ?_ _)); exact BK162.out) hg (Kd.R_ne HO_5.out BK162.out (by decide))); have n1_ := Aside0.mk (hb); have n2_ := Aside0.mk (ho); clear BK162; clear HB; clear HO_5; have BK162 := n0_; have HB := n1_; have HO167 := n2_; clear n0_ n1_ n2_; clear ho hb hg hat))
                    go_roundg k1
                    case measure => have := HK1.out; omega
                    case rel => exact ⟨(y165), (wrap64 (x15_1 + 1)), (by first | rfl | (simp; done) | (simp [*]; done)), H', ⟨by have := HK1.out; omega⟩, ⟨by (with_reducible repeat (first | apply Kd.R_alloc | apply Kd.R_drewN | apply Kd.R_drew)); exact HO167.out⟩, ⟨by repeat (first | (with_reducible first | exact HB.out | apply below_alloc | apply pw_below_drewN | apply below_drew1 | refine below_set ?_ GE162.out) | exact HB.out)⟩⟩
                  · rw [if_neg c15] at H
                    exact absurd H (by simp)
              · rw [if_neg c9] at H
                have c9b0 : (t163 == 2) = false := beq_eq_false_iff_ne.mpr c9
                have c9b1 : (t163 != 2) = true := bne_iff_ne.mpr c9
                have H' := Aside0.mk H
                clear H
                have p161 : 0 ≤ (x15_1 : Int) := of_decide_eq_true (by first | (with_reducible assumption) | assumption)
                have q161 : x15_1 < (l0.length : Int) := of_decide_eq_true (by first | (with_reducible assumption) | assumption)
                obtain ⟨ad161, e161, hx161_0, hx161_1⟩ := at_T33 HR0.out x15_1 p161 q161
                cases e161
                replace hx161_0 := (HB.out.cell (World.block_lt_of_cell? w _ hx161_0)).trans hx161_0
                replace hx161_1 := (HB.out.cell (World.block_lt_of_cell? w _ hx161_1)).trans hx161_1
                replace p161 := eq_true p161
                replace q161 := eq_true q161
                go_wp2_with (first | ((with_reducible refine gate_dst (N := 7) rfl ?_); refine box_event ?hg (N := 7) ?hd (cs := #[.string (⟨#[]⟩ : ByteArray), .int .i64 0]) (t := 33) ?hr ?_; (case hd => rfl); (case hg => rfl); (case hr => first | (go_simp; done) | (go_simp; rfl)); intro gb162 hg w20 hbox hb; have n0_ := Aside0.mk (Kd.R_below (by (with_reducible repeat (first | apply Kd.R_alloc | apply Kd.R_drewN | apply Kd.R_drew)); exact HO_5.out) hb); have n1_ := Aside0.mk (below_step (by repeat (first | (with_reducible first | exact HB.out | apply below_alloc | apply pw_below_drewN | apply below_drew1) | exact HB.out)) hb); have n2_ := Aside0.mk (hbox); have n3_ := Aside0.mk ((by rw [hg]; exact (below_size (by repeat (first | (with_reducible first | exact HB.out | apply below_alloc | apply pw_below_drewN | apply below_drew1) | exact HB.out))) : w.heap.size ≤ gb162)); have n4_ := Aside0.mk ((by rw [hg]; exact (below_size (by repeat (first | (with_reducible first | exact HB.out | apply below_alloc | apply pw_below_drewN | apply below_drew1) | exact HB.out))) : w.heap.size ≤ gb162)); clear HO_5; clear HB; have HO_5 := n0_; have HB := n1_; have BK162 := n2_; have GW162 := n3_; have GE162 := n4_; clear n0_ n1_ n2_ n3_ n4_; clear hb hbox hg; have hcz21_0 : w20.cell? ⟨gb162, 0, none⟩ = some (.string (⟨#[]⟩ : ByteArray)) := (blk_cell BK162.out 0).trans rfl; have hcz21_1 : w20.cell? ⟨gb162, 1, none⟩ = some (.int .i64 0) := (blk_cell BK162.out 1).trans rfl; have hfz21_0 := blk_frozen BK162.out 0; have hfz21_1 := blk_frozen BK162.out 1) | ((with_reducible refine gate_callee (f := 32) rfl ?_); refine goesL_ (some 21) rfl rfl Tryd.func32 (by kernel_rfl) rfl #[.string ((rd_T33 l0 x15_1).f0)] rfl (by (try simp only [List.map_toArray, List.map_cons, List.map_nil]); first | done | rfl | (simp only [List.length_drop, List.length_take]; rfl)) ?_; (with_reducible refine (name_Kind.calls k1 ((rd_T33 l0 x15_1).f0) t163 _ A8.out).mono ?_); rintro e w' ⟨rfl, ⟨nd, rfl⟩⟩; refine ⟨_, rfl, ?_⟩))
                go_roundg k1
                case measure => have := HK1.out; omega
                case rel => exact ⟨(x5_1), (wrap64 (x15_1 + 1)), (by first | rfl | (simp; done) | (simp [*]; done)), H', ⟨by have := HK1.out; omega⟩, ⟨by (with_reducible repeat (first | apply Kd.R_alloc | apply Kd.R_drewN | apply Kd.R_drew)); exact Kd.R_mono (Kd.R_far (p := ⟨gb162, 1, none⟩) (Kd.R_far (p := ⟨gb162, 0, none⟩) (Kd.R_types HO_5.out BK162.out (by decide)) (fun _ hk => hk.2) (.string ((rd_T33 l0 x15_1).f0))) (fun _ hk => hk.2) (.int .i64 ((rd_T33 l0 x15_1).f1))) (fun _ hk => trivial)⟩, ⟨by repeat (first | (with_reducible first | exact HB.out | apply below_alloc | apply pw_below_drewN | apply below_drew1 | refine below_set ?_ GE162.out) | exact HB.out)⟩⟩
            · rw [if_neg c7] at H
              exact absurd H (by simp)
          · rw [if_neg c6] at H
            exact absurd H (by simp)
        · rw [if_neg c5] at H
          have c5b0 : decide (x15_1 < (l0.length : Int)) = false := decide_eq_false c5
          clear c5
          simp only [Option.some.injEq, Prod.mk.injEq] at H
          obtain ⟨rfl, rfl⟩ := H
          go_wp2
          go_ret2
          exact ⟨_, by first | rfl | (simp [errW_none, errW_some] <;> rfl) | (simp [*, errW_none, errW_some] <;> rfl), by (with_reducible repeat (first | apply Kd.R_alloc | apply Kd.R_drewN | apply Kd.R_drew)); exact HO_5.out, by repeat (first | (with_reducible first | exact HB.out | apply below_alloc | apply pw_below_drewN | apply below_drew1) | exact HB.out)⟩
  · rw [if_neg c3] at H
    have c3b0 : (t160 == 0) = false := beq_eq_false_iff_ne.mpr c3
    have c3b1 : (t160 != 0) = true := bne_iff_ne.mpr c3
    simp only [Option.some.injEq, Prod.mk.injEq] at H
    obtain ⟨rfl, rfl⟩ := H
    go_enter Tryd.func44, Tryd.ntmps44
    go_wp2_with (first | ((with_reducible refine gate_callee (f := 28) rfl ?_); refine goesL_ (some 9) rfl rfl Tryd.func28 (by kernel_rfl) rfl #[.slice A0 l0.length c0] rfl (by (try simp only [List.map_toArray, List.map_cons, List.map_nil]); first | done | rfl | (simp only [List.length_drop, List.length_take]; rfl)) ?_; (with_reducible refine (term_Check.calls k _ _ l0 t160 _ ?side1 ?side2 A2.out).mono ?_); (case side1 => repeat (first | exact HR0.out | (with_reducible refine Kd.C_alloc ?_ _) | (with_reducible refine Kd.C_drewN ?_ _) | (with_reducible refine Kd.C_drew ?_))); (case side2 => exact HC0.out); rintro e w22 ⟨rfl, hb⟩; refine ⟨_, rfl, ?_⟩; have n0_ := Aside0.mk (below_step (by repeat (first | (with_reducible first | exact HB.out | apply below_alloc | apply pw_below_drewN | apply below_drew1) | exact HB.out)) hb); clear HB; have HB := n0_; clear n0_; (try clear hb); (try clear hb2); (try clear hk); (try clear hi)))
    go_ret2
    exact ⟨_, by first | rfl | (simp [errW_none, errW_some] <;> rfl) | (simp [*, errW_none, errW_some] <;> rfl), by first | exact Kd.R_nil _ _ _ _ _ | exact Kd.N_nil _ _ _ _ _ | exact Kd.V_nil _ _ _ _ _ | exact Kd.Q_nil _ _ _ _ _ | exact Kd.S_nil _ _ _ _ _, by repeat (first | (with_reducible first | exact HB.out | apply below_alloc | apply pw_below_drewN | apply below_drew1) | exact HB.out)⟩

end Go.Proofs.YtnkpcnnbeaomnaaDoor.C
end

section
/- rule.Check at this dump (function 9): its six questions (25, 27, 29, 30, 31, 33), asked in turn by rule.first (24). -/
namespace Go.Proofs.YtnkpcnnbeaomnaaDoor.C
open Go.RowKit Go.Proofs.YtnkpcnnbeaomnaaDoorW.PrintWords Go.Proofs.YtnkpcnnbeaomnaaDoorW.PrintLast Go.Proofs.YtnkpcnnbeaomnaaDoorW.PrintMore
attribute [local go_sem] max2_int min2_int max_two min_two max_three min_three max_four min_four   -- for this text's walks alone
set_option linter.unusedVariables false
set_option linter.unusedSimpArgs false

/-- The first of 'right' from i on that is not in 'left'. -/
def ruleIdx.l0 : Nat → List ByteArray → List ByteArray → Int → Option Int
  | 0, _, _, _ => none
  | k + 1, left, right, i => if i < (right.length : Int) then (if 0 ≤ i then (if i < (right.length : Int) then ((slices_Contains_string_string.f k left (rdOf ByteArray.empty right i)).bind fun t => if t = true then ruleIdx.l0 k left right (wrap64 (i + 1)) else some i) else none) else none) else some (-1)
def ruleStrange.f (k : Nat) (l r : List S33) : Option Bool := (term_Vars.f k l).bind fun a => (term_Vars.f k r).bind fun b => (ruleIdx.l0 k a.1 b.1 0).bind fun t => some (decide (t ≥ 0))
def ruleCheck5.f (k : Nat) (l : List S33) : Option Int := if 0 < (l.length : Int) then (name_Kind.f k (rd_T33 l 0).f0).bind fun n => some (if n = 2 then 20 else 0) else none
def rule_Check.f (k : Nat) (id : Int) (l r : List S33) : Option Int :=
  if id < 0 ∨ id > 65535 then some 1 else
  (term_Check.f k l).bind fun e2 => if e2 = 0 then
  (term_Check.f k r).bind fun e3 => if e3 = 0 then
  if (l.length : Int) > 8 ∨ (r.length : Int) > 8 then some 6 else
  (ruleCheck5.f k l).bind fun e5 => if e5 = 0 then
  (ruleStrange.f k l r).bind fun b => some (if b = true then 7 else 0)
  else some e5 else some e3 else some e2

theorem ruleIdx.mono_l : ∀ k, (∀ y0 y1 y2, LeO (ruleIdx.l0 k y0 y1 y2) (ruleIdx.l0 (k + 1) y0 y1 y2))
  | 0 => fun _ _ _ r h => by simp [ruleIdx.l0] at h
  | k + 1 => by
    have ih0 := ruleIdx.mono_l k
    intro y0 y1 y2
    unfold ruleIdx.l0
    repeat' first
      | (with_reducible exact ih0 _ _ _)
      | (with_reducible exact slices_Contains_string_string.mono _ _ _)
      | (with_reducible exact LeO.refl _)
      | (with_reducible exact LeO.none _)
      | (with_reducible refine LeO.ite ?_ ?_)
      | (with_reducible refine LeO.bind ?_ (fun _ => ?_))
theorem ruleStrange.mono : ∀ a0 a1 k, LeO (ruleStrange.f k a0 a1) (ruleStrange.f (k + 1) a0 a1) := by
  intro a0 a1 k
  have ih0 := ruleIdx.mono_l k
  unfold ruleStrange.f
  repeat' first
      | (with_reducible exact ih0 _ _ _)
      | (with_reducible exact term_Vars.mono _ _)
      | (with_reducible exact LeO.refl _)
      | (with_reducible refine LeO.bind ?_ (fun _ => ?_))
theorem ruleCheck5.mono : ∀ a0 k, LeO (ruleCheck5.f k a0) (ruleCheck5.f (k + 1) a0) := by
  intro a0 k
  unfold ruleCheck5.f
  repeat' first
      | (with_reducible exact name_Kind.mono _ _)
      | (with_reducible exact LeO.refl _)
      | (with_reducible refine LeO.ite ?_ ?_)
      | (with_reducible refine LeO.bind ?_ (fun _ => ?_))
theorem rule_Check.mono : ∀ a0 a1 a2 k, LeO (rule_Check.f k a0 a1 a2) (rule_Check.f (k + 1) a0 a1 a2) := by
  intro a0 a1 a2 k
  unfold rule_Check.f
  repeat' first
      | (with_reducible exact term_Check.mono _ _)
      | (with_reducible exact ruleCheck5.mono _ _)
      | (with_reducible exact ruleStrange.mono _ _ _)
      | (with_reducible exact LeO.refl _)
      | (with_reducible refine LeO.ite ?_ ?_)
      | (with_reducible refine LeO.bind ?_ (fun _ => ?_))

theorem hmf : ∀ (fn : Fn) (first cap : Array Value) (w : World), (Instr.makeFunc fn first cap).run Tryd.prog w = .ok (.func fn first cap) w := fun _ _ _ _ => rfl

set_option maxHeartbeats 1000000 in
set_option maxRecDepth 100000 in
theorem when_calls (b : Bool) (e : Int) (w : World) : Calls Tryd.prog 26 #[.bool b, .int .i64 e] w fun x w' => x = .returned (.int .i64 (if b = true then e else 0)) ∧ w' = w := by
  cases b
  · go_enter Tryd.func26, Tryd.ntmps26
    go_wp2
    go_ret
    exact ⟨rfl, rfl⟩
  · go_enter Tryd.func26, Tryd.ntmps26
    go_wp2
    go_ret
    exact ⟨rfl, rfl⟩

/-- The rule that the questions look at: a block of its own. -/
def RuleAt (w : World) (g : Nat) (id : Int) (A : Option Addr) (c : Nat) (l : List S33) (B : Option Addr) (d : Nat) (r : List S33) : Prop :=
  w.heap[g]? = some (.cells #[.int .i64 id, .slice A l.length c, .slice B r.length d] 25 (0, 0)) ∧ Kd.C k33 w A l.length l ∧ l.length ≤ c ∧ Kd.C k33 w B r.length r ∧ r.length ≤ d
theorem RuleAt.below {w w1 : World} {g : Nat} {id : Int} {A : Option Addr} {c : Nat} {l : List S33} {B : Option Addr} {d : Nat} {r : List S33} (h : RuleAt w g id A c l B d r) (hb : Below w.heap.size w w1) : RuleAt w1 g id A c l B d r :=
  ⟨blk_below h.1 hb, Kd.C_below h.2.1 hb, h.2.2.1, Kd.C_below h.2.2.2.1 hb, h.2.2.2.2⟩

section
variable {w : World} {g : Nat} {id : Int} {A : Option Addr} {c : Nat} {l : List S33} {B : Option Addr} {d : Nat} {r : List S33}
set_option maxHeartbeats 1000000 in
set_option maxRecDepth 100000 in
theorem check1_calls (h : RuleAt w g id A c l B d r) : Calls Tryd.prog 25 #[.pointer (some ⟨g, 0, none⟩)] w fun x w' => x = .returned (.int .i64 (if id < 0 ∨ id > 65535 then 1 else 0)) ∧ Below w.heap.size w w' := by
  have c0 : w.cell? ⟨g, 0, none⟩ = some (.int .i64 id) := (blk_cell h.1 0).trans rfl
  by_cases h0 : id < 0
  · have h0b : decide (id < 0) = true := decide_eq_true h0
    rw [if_pos (Or.inl h0)]
    clear h0 h
    go_enter Tryd.func25, Tryd.ntmps25
    go_wp2_with (go_at_call 26; refine (when_calls true 1 w).mono ?_; rintro e w1 ⟨rfl, rfl⟩)
    go_ret
    exact ⟨rfl, Below.refl _ _⟩
  · have h0b : decide (id < 0) = false := decide_eq_false h0
    by_cases h1 : id > 65535
    · have h1b : decide (65535 < id) = true := decide_eq_true h1
      rw [if_pos (Or.inr h1)]
      clear h0 h1 h
      go_enter Tryd.func25, Tryd.ntmps25
      go_wp2_with (go_at_call 26; refine (when_calls true 1 w).mono ?_; rintro e w1 ⟨rfl, rfl⟩)
      go_ret
      exact ⟨rfl, Below.refl _ _⟩
    · have h1b : decide (65535 < id) = false := decide_eq_false h1
      rw [if_neg (by omega)]
      clear h0 h1 h
      go_enter Tryd.func25, Tryd.ntmps25
      go_wp2_with (go_at_call 26; refine (when_calls false 1 w).mono ?_; rintro e w1 ⟨rfl, rfl⟩)
      go_ret
      exact ⟨rfl, Below.refl _ _⟩

set_option maxHeartbeats 1000000 in
set_option maxRecDepth 100000 in
theorem check2_calls (k : Nat) (e : Int) (h : RuleAt w g id A c l B d r) (hf : term_Check.f k l = some e) : Calls Tryd.prog 27 #[.pointer (some ⟨g, 0, none⟩)] w fun x w' => x = .returned (.int .i64 e) ∧ Below w.heap.size w w' := by
  have c1 : w.cell? ⟨g, 1, none⟩ = some (.slice A l.length c) := (blk_cell h.1 1).trans rfl
  have hl := Aside0.mk h.2.1
  have hc := Aside0.mk h.2.2.1
  clear h
  go_enter Tryd.func27, Tryd.ntmps27
  go_wp2_with (go_at_call 28; refine (term_Check.calls k A c l e w hl.out hc.out hf).mono ?_; rintro x w1 ⟨rfl, hb1⟩)
  go_ret
  exact ⟨rfl, hb1⟩
set_option maxHeartbeats 1000000 in
set_option maxRecDepth 100000 in
theorem check3_calls (k : Nat) (e : Int) (h : RuleAt w g id A c l B d r) (hf : term_Check.f k r = some e) : Calls Tryd.prog 29 #[.pointer (some ⟨g, 0, none⟩)] w fun x w' => x = .returned (.int .i64 e) ∧ Below w.heap.size w w' := by
  have c1 : w.cell? ⟨g, 2, none⟩ = some (.slice B r.length d) := (blk_cell h.1 2).trans rfl
  have hl := Aside0.mk h.2.2.2.1
  have hc := Aside0.mk h.2.2.2.2
  clear h
  go_enter Tryd.func29, Tryd.ntmps29
  go_wp2_with (go_at_call 28; refine (term_Check.calls k B d r e w hl.out hc.out hf).mono ?_; rintro x w1 ⟨rfl, hb1⟩)
  go_ret
  exact ⟨rfl, hb1⟩
set_option maxHeartbeats 1000000 in
set_option maxRecDepth 100000 in
theorem check4_calls (h : RuleAt w g id A c l B d r) : Calls Tryd.prog 30 #[.pointer (some ⟨g, 0, none⟩)] w fun x w' => x = .returned (.int .i64 (if (l.length : Int) > 8 ∨ (r.length : Int) > 8 then 6 else 0)) ∧ Below w.heap.size w w' := by
  have c1 : w.cell? ⟨g, 1, none⟩ = some (.slice A l.length c) := (blk_cell h.1 1).trans rfl
  have c2 : w.cell? ⟨g, 2, none⟩ = some (.slice B r.length d) := (blk_cell h.1 2).trans rfl
  clear h
  by_cases hlt : l.length < r.length
  · have hl1 : decide (l.length < r.length) = true := decide_eq_true hlt
    have hl2 : decide ((l.length : Int) < (r.length : Int)) = true := decide_eq_true (by omega)
    have hl3 := eq_true hlt
    by_cases h8 : 8 < (r.length : Int)
    · have h8b : decide (8 < (r.length : Int)) = true := decide_eq_true h8
      have h8c : decide (8 < r.length) = true := decide_eq_true (by omega)
      rw [if_pos (by omega)]
      clear hlt h8
      go_enter Tryd.func30, Tryd.ntmps30
      go_wp2_with (go_at_call 26; refine (when_calls true 6 w).mono ?_; rintro e w1 ⟨rfl, rfl⟩)
      go_ret
      exact ⟨rfl, Below.refl _ _⟩
    · have h8b : decide (8 < (r.length : Int)) = false := decide_eq_false h8
      have h8c : decide (8 < r.length) = false := decide_eq_false (by omega)
      rw [if_neg (by omega)]
      clear hlt h8
      go_enter Tryd.func30, Tryd.ntmps30
      go_wp2_with (go_at_call 26; refine (when_calls false 6 w).mono ?_; rintro e w1 ⟨rfl, rfl⟩)
      go_ret
      exact ⟨rfl, Below.refl _ _⟩
  · have hl1 : decide (l.length < r.length) = false := decide_eq_false hlt
    have hl2 : decide ((l.length : Int) < (r.length : Int)) = false := decide_eq_false (by omega)
    have hl3 := eq_false hlt
    by_cases h8 : 8 < (l.length : Int)
    · have h8b : decide (8 < (l.length : Int)) = true := decide_eq_true h8
      have h8c : decide (8 < l.length) = true := decide_eq_true (by omega)
      rw [if_pos (by omega)]
      clear hlt h8
      go_enter Tryd.func30, Tryd.ntmps30
      go_wp2_with (go_at_call 26; refine (when_calls true 6 w).mono ?_; rintro e w1 ⟨rfl, rfl⟩)
      go_ret
      exact ⟨rfl, Below.refl _ _⟩
    · have h8b : decide (8 < (l.length : Int)) = false := decide_eq_false h8
      have h8c : decide (8 < l.length) = false := decide_eq_false (by omega)
      rw [if_neg (by omega)]
      clear hlt h8
      go_enter Tryd.func30, Tryd.ntmps30
      go_wp2_with (go_at_call 26; refine (when_calls false 6 w).mono ?_; rintro e w1 ⟨rfl, rfl⟩)
      go_ret
      exact ⟨rfl, Below.refl _ _⟩
set_option maxHeartbeats 1000000 in
set_option maxRecDepth 100000 in
theorem check5_calls (k : Nat) (e : Int) (h : RuleAt w g id A c l B d r) (hf : ruleCheck5.f k l = some e) : Calls Tryd.prog 31 #[.pointer (some ⟨g, 0, none⟩)] w fun x w' => x = .returned (.int .i64 e) ∧ Below w.heap.size w w' := by
  have c1 : w.cell? ⟨g, 1, none⟩ = some (.slice A l.length c) := (blk_cell h.1 1).trans rfl
  unfold ruleCheck5.f at hf
  split at hf
  case isFalse => cases hf
  case isTrue h0 =>
  obtain ⟨n, hn, hf⟩ := Option.bind_eq_some_iff.1 hf
  obtain rfl := Option.some.inj hf
  clear hf
  obtain ⟨ad, e0, hx0, hx1⟩ := at_T33 h.2.1 0 (by omega) h0
  subst e0
  clear h
  have hn' := Aside0.mk hn
  clear hn
  have h0b : decide (0 < (l.length : Int)) = true := decide_eq_true h0
  have h0d : decide (0 < l.length) = true := decide_eq_true (by omega)
  have h0e : (0 < l.length) = True := eq_true (by omega)
  have h0f : (0 < (l.length : Int)) = True := eq_true h0
  have hxa : w.cell? ad = some (.string (rd_T33 l 0).f0) := by
    have e_ : ad.add (Int.toNat 0 * 2) = ad := by cases ad; simp [Addr.add]
    rw [e_] at hx0; exact hx0
  by_cases h2 : n = 2
  · have h2b : (n == 2) = true := beq_iff_eq.mpr h2
    rw [if_pos h2]
    clear h2
    clear h0
    go_enter Tryd.func31, Tryd.ntmps31
    go_wp2_with (first | (go_at_call 32; refine (name_Kind.calls k (rd_T33 l 0).f0 n w hn'.out).mono ?_; rintro x w1 ⟨rfl, ⟨m1, rfl⟩⟩) | (go_at_call 26; refine (when_calls true 20 _).mono ?_; rintro e w1 ⟨rfl, rfl⟩))
    go_ret
    exact ⟨rfl, by repeat (first | exact Below.refl _ _ | apply pw_below_drewN)⟩
  · have h2b : (n == 2) = false := beq_eq_false_iff_ne.mpr h2
    rw [if_neg h2]
    clear h2
    clear h0
    go_enter Tryd.func31, Tryd.ntmps31
    go_wp2_with (first | (go_at_call 32; refine (name_Kind.calls k (rd_T33 l 0).f0 n w hn'.out).mono ?_; rintro x w1 ⟨rfl, ⟨m1, rfl⟩⟩) | (go_at_call 26; refine (when_calls false 20 _).mono ?_; rintro e w1 ⟨rfl, rfl⟩))
    go_ret
    exact ⟨rfl, by repeat (first | exact Below.refl _ _ | apply pw_below_drewN)⟩
end

/-! ### rule.strange -/
/-- A captured slice of strings, in a block of its own. -/
def StrAt (w : World) (g : Nat) (A : Option Addr) (c : Nat) (l : List ByteArray) : Prop := w.heap[g]? = some (.cells #[.slice A l.length c] 45 (0, 0)) ∧ Kd.C Kd.string w A l.length l ∧ l.length ≤ c

section
variable {w : World} {g : Nat} {A : Option Addr} {c : Nat} {l : List ByteArray}
set_option maxHeartbeats 1000000 in
set_option maxRecDepth 100000 in
theorem miss_calls (k : Nat) (s : ByteArray) (t : Bool) (h : StrAt w g A c l) (hf : slices_Contains_string_string.f k l s = some t) :
    Calls Tryd.prog 58 #[.string s, .pointer (some ⟨g, 0, none⟩)] w fun x w' => x = .returned (.bool (!t)) ∧ Drawn0 w w' := by
  have c0 : w.cell? ⟨g, 0, none⟩ = some (.slice A l.length c) := (blk_cell h.1 0).trans rfl
  have hl := Aside0.mk h.2.1
  have hc := Aside0.mk h.2.2
  clear h
  go_enter Tryd.func58, Tryd.ntmps58
  go_wp2_with (go_at_call 59; refine (slices_Contains_string_string.calls k A c l s t w hl.out hc.out hf).mono ?_; rintro x w1 ⟨rfl, ⟨m1, rfl⟩⟩)
  go_ret
  exact ⟨rfl, ⟨m1, rfl⟩⟩

theorem StrAt.drewN (h : StrAt w g A c l) (m : Nat) : StrAt (w.drewN m) g A c l := ⟨h.1, Kd.C_drewN h.2.1 m, h.2.2⟩

set_option maxHeartbeats 2000000 in
set_option maxRecDepth 100000 in
theorem ruleIdx_calls (k : Nat) (B : Option Addr) (d : Nat) (r : List ByteArray) (t : Int) (h : StrAt w g A c l) (hr : Kd.C Kd.string w B r.length r) (hd : r.length ≤ d) (hf : ruleIdx.l0 k l r 0 = some t) :
    Calls Tryd.prog 75 #[.slice B r.length d, .func (.func 58) #[] #[.pointer (some ⟨g, 0, none⟩)]] w fun x w' => x = .returned (.int .i64 t) ∧ Drawn0 w w' := by
  have HR0 := Aside0.mk hr
  have HC0 := Aside0.mk hd
  have HS := Aside0.mk h
  have H' := Aside0.mk hf
  clear hr hd h hf
  go_enter Tryd.func75, Tryd.ntmps75
  go_wp2
  go_loopg [8] k (fun kq v8 w' => ∃ (x8_1 : Int), v8 = .int .i64 x8_1 ∧ Aside0 (ruleIdx.l0 kq l r x8_1 = some t) ∧ Aside0 (kq ≤ k) ∧ Drawn0 w w')
  case atStart => exact ⟨0, rfl, H', ⟨Nat.le_refl _⟩, Drawn0.refl _⟩
  case round =>
    clear H'
    obtain ⟨x8_1, rfl, HA, HK1, ⟨m1, rfl⟩⟩ := hrel
    cases gk with
    | zero => exact absurd HA.out (by simp [ruleIdx.l0])
    | succ k1 =>
      have H := HA.out
      clear HA
      simp only [ruleIdx.l0] at H
      by_cases c3 : x8_1 < (r.length : Int)
      · rw [if_pos c3] at H
        have c3b0 : decide (x8_1 < (r.length : Int)) = true := decide_eq_true c3
        by_cases c4 : 0 ≤ x8_1
        · rw [if_pos c4, if_pos c3] at H
          have c4b0 : decide (0 ≤ x8_1) = true := decide_eq_true c4
          obtain ⟨b, A5, H⟩ := Option.bind_eq_some_iff.1 H
          obtain ⟨ad, e0, hx0⟩ := Kd.at_string HR0.out x8_1 c4 c3
          cases e0
          have p158 := eq_true c4
          have q158 := eq_true c3
          clear c3 c4
          have A5' := Aside0.mk A5
          clear A5
          have H' := Aside0.mk H
          clear H
          cases b with
          | true =>
            go_wp2_with (go_at_call 58; refine (miss_calls k1 _ true (StrAt.drewN HS.out m1) A5'.out).mono ?_; rintro x w1 ⟨rfl, ⟨m2, rfl⟩⟩)
            go_roundg k1
            case measure => have := HK1.out; omega
            case rel => exact ⟨wrap64 (x8_1 + 1), rfl, ⟨by have h_ := H'.out; first | rw [if_pos rfl] at h_ | rw [if_pos trivial] at h_; exact h_⟩, ⟨by have := HK1.out; omega⟩, by repeat (first | exact Drawn0.refl _ | apply Drawn0.step)⟩
          | false =>
            have H2 := H'.out
            rw [if_neg (by simp)] at H2
            obtain rfl := Option.some.inj H2
            clear H2 H'
            go_wp2_with (go_at_call 58; refine (miss_calls k1 _ false (StrAt.drewN HS.out m1) A5'.out).mono ?_; rintro x w1 ⟨rfl, ⟨m2, rfl⟩⟩)
            go_ret
            exact ⟨rfl, by repeat (first | exact Drawn0.refl _ | apply Drawn0.step)⟩
        · rw [if_neg c4] at H
          cases H
      · rw [if_neg c3] at H
        have c3b0 : decide (x8_1 < (r.length : Int)) = false := decide_eq_false c3
        clear c3
        obtain rfl := Option.some.inj H
        go_wp2
        go_ret
        exact ⟨rfl, by repeat (first | exact Drawn0.refl _ | apply Drawn0.step)⟩
end
/-! ### rule.strange itself -/
set_option maxHeartbeats 1000000 in
set_option maxRecDepth 100000 in
theorem anyMiss_calls (k : Nat) {w : World} {g : Nat} {A : Option Addr} {c : Nat} {l : List ByteArray} (B : Option Addr) (d : Nat) (r : List ByteArray) (t : Int) (h : StrAt w g A c l) (hr : Kd.C Kd.string w B r.length r) (hd : r.length ≤ d) (hf : ruleIdx.l0 k l r 0 = some t) :
    Calls Tryd.prog 57 #[.slice B r.length d, .func (.func 58) #[] #[.pointer (some ⟨g, 0, none⟩)]] w fun x w' => x = .returned (.bool (decide (t ≥ 0))) ∧ Drawn0 w w' := by
  go_enter Tryd.func57, Tryd.ntmps57
  go_wp2_with (go_at_call 75; refine (ruleIdx_calls k B d r t h hr hd hf).mono ?_; rintro x w1 ⟨rfl, ⟨m1, rfl⟩⟩)
  go_ret
  exact ⟨rfl, ⟨m1, rfl⟩⟩

theorem store_slice {o : Oper} {p v : Operand} (ho : o.op = Op.store 45 p v) {a : Act} {w : World} {ad : Addr} {A : Option Addr} {n c : Nat} {u : Value} (hp : a.eval p = .pointer (some ad)) (hv : a.eval v = .slice A n c)
    (h0 : w.cell? ad = some u) (hf : w.frozen? ad = false) : (execOp a.eval o).run Tryd.prog w = .ok .skip (w.setCell ad (.slice A n c)) := by
  unfold execOp
  simp only [ho, hp, hv]
  go_simp
section
variable {w w2 w3 w3s : World} {g3 gb : Nat} {Av : Option Addr} {a1 : List ByteArray} {cv : Nat} {id : Int} {A B : Option Addr} {c d : Nat} {l r : List S33}
theorem sf1 {ok : Nat → Prop} {base : Nat} (HV : Kd.R Kd.string 9 w2 base ok (.slice Av a1.length cv) a1) (HB3 : Below w2.heap.size w2 w3) (HW3 : g3 = w2.heap.size) (hw : w3s = w3.setCell ⟨g3, 0, none⟩ (.slice Av a1.length cv)) :
    Kd.C Kd.string w3s Av a1.length a1 ∧ a1.length ≤ cv := by
  subst hw
  exact ⟨Kd.C_below (Kd.R_reads' HV).2.2 (below_set HB3 (Nat.le_of_eq HW3.symm)), (Kd.R_reads' HV).2.1⟩
theorem sf2 (HB2 : Below w.heap.size w w2) (HB3 : Below w2.heap.size w2 w3) (HW3 : g3 = w2.heap.size) (hw : w3s = w3.setCell ⟨g3, 0, none⟩ (.slice Av a1.length cv)) :
    Below w.heap.size w w3s ∧ w.heap.size ≤ g3 := by
  have h : w.heap.size ≤ g3 := by rw [HW3]; exact HB2.size
  subst hw
  exact ⟨below_set (below_step HB2 HB3) h, h⟩
theorem sf3 {o : Obj} (BK2 : w2.heap[gb]? = some o) (HB3 : Below w2.heap.size w2 w3) (HW3 : g3 = w2.heap.size) (hw : w3s = w3.setCell ⟨g3, 0, none⟩ (.slice Av a1.length cv)) :
    w3s.heap[gb]? = some o := by
  have h := blk_lt BK2
  subst hw
  exact (Below.heap_setCell w3 ⟨g3, 0, none⟩ _ gb (by show gb ≠ g3; omega)).trans (blk_below BK2 HB3)
theorem sf4 (B3 : w3.heap[g3]? = some (.cells #[.slice none 0 0] 45 (0, 0))) (hw : w3s = w3.setCell ⟨g3, 0, none⟩ (.slice Av a1.length cv)) :
    w3s.heap[g3]? = some (.cells #[.slice Av a1.length cv] 45 (0, 0)) := by
  subst hw
  exact blk_put (cs := #[.slice none 0 0]) B3 0 _ rfl
end
set_option maxHeartbeats 600000 in
set_option maxRecDepth 100000 in
theorem strange_calls (k : Nat) (t : Bool) (w : World) (id : Int) (A : Option Addr) (c : Nat) (l : List S33) (B : Option Addr) (d : Nat) (r : List S33) (hl : Kd.C k33 w A l.length l) (hc : l.length ≤ c) (hr : Kd.C k33 w B r.length r) (hd : r.length ≤ d) (hf : ruleStrange.f k l r = some t) :
    Calls Tryd.prog 34 #[.agg #[.int .i64 id, .slice A l.length c, .slice B r.length d]] w fun x w' => x = .returned (.bool t) ∧ Below w.heap.size w w' := by
  unfold ruleStrange.f at hf
  obtain ⟨a, ha, hf⟩ := Option.bind_eq_some_iff.1 hf
  obtain ⟨b, hb, hf⟩ := Option.bind_eq_some_iff.1 hf
  obtain ⟨i, hi, hf⟩ := Option.bind_eq_some_iff.1 hf
  obtain rfl := Option.some.inj hf
  obtain ⟨a1, a2⟩ := a
  obtain ⟨b1, b2⟩ := b
  have hu25 := Tryd.underlying25
  have hu45 := Tryd.underlying45
  have hu23 := Tryd.underlying23
  have HL := Aside0.mk hl
  have HC := Aside0.mk hc
  have HR := Aside0.mk hr
  have HD := Aside0.mk hd
  have HA := Aside0.mk ha
  have HBb := Aside0.mk hb
  have HI := Aside0.mk hi
  clear hf hl hc hr hd ha hb hi
  have HB := Aside0.mk (Below.refl w.heap.size w)
  have hmf := hmf
  go_enter Tryd.func34, Tryd.ntmps34
  go_wp2_with (first
    | ((with_reducible refine gate_dst (N := 1) rfl ?_); refine box_event ?hg (N := 1) ?hd (cs := #[.int .i64 id, .slice A l.length c, .slice B r.length d]) (t := 25) ?hr ?_; (case hd => rfl); (case hg => rfl); (case hr => first | (go_simp; done) | (go_simp; rfl)); intro gb hg w1 hbox hb1; have HB := Aside0.mk (below_step HB.out hb1); have BK := Aside0.mk hbox; clear hbox hb1 hg; have hcz0 : w1.cell? ⟨gb, 1, none⟩ = some (.slice A l.length c) := (blk_cell BK.out 1).trans rfl)
    | (go_at_call 44; (with_reducible refine (term_Vars.calls k A c l a1 a2 _ (Kd.C_below HL.out HB.out) HC.out HA.out).mono ?_); rintro x w2 ⟨v, rfl, hR, hb2⟩; have HB2 := Aside0.mk (below_step HB.out hb2); have BK2 := Aside0.mk (blk_below BK.out hb2); obtain ⟨Av, cv, ev⟩ := Kd.R_slice hR; subst ev; have HV := Aside0.mk hR; clear hR hb2 BK HB hcz0)
    | ((with_reducible refine gate_dst (N := 3) rfl ?_); refine box_event ?hg (N := 3) ?hd (cs := #[.slice none 0 0]) (t := 45) ?hr ?_; (case hd => rfl); (case hg => rfl); (case hr => first | (go_simp; done) | (go_simp; rfl)); intro g3 hg w3 hbox hb3; have HW3 := Aside0.mk (show g3 = w2.heap.size from hg); have HB3 := Aside0.mk hb3; have B3 := Aside0.mk hbox; clear hbox hb3 hg; have hcz3 : w3.cell? ⟨g3, 0, none⟩ = some (.slice none 0 0) := (blk_cell B3.out 0).trans rfl; have hfz3 := blk_frozen B3.out 0)
    | ((with_reducible refine gate_store (t := 45) (p := 3) rfl ?_); refine store_event (t := 45) (p := 3) (v := .tmp 11) (w1 := w3.setCell ⟨g3, 0, none⟩ (.slice Av a1.length cv)) ?hg ?ho ?hn ?hr ?_; (case ho => rfl); (case hg => rfl); (case hn => rfl); (case hr => exact store_slice rfl rfl rfl hcz3 hfz3); intro w3s hw; have HB4 := Aside0.mk (sf2 HB2.out HB3.out HW3.out hw).1; have BK4 := Aside0.mk (sf3 BK2.out HB3.out HW3.out hw); have B3s := Aside0.mk (sf4 B3.out hw); have HVC := Aside0.mk (sf1 HV.out HB3.out HW3.out hw); clear hw hcz3 hfz3 B3 BK2 HB2 HB3 HV HW3; have hcz4 : w3s.cell? ⟨gb, 2, none⟩ = some (.slice B r.length d) := (blk_cell BK4.out 2).trans rfl)
    | (go_at_call 44; (with_reducible refine (term_Vars.calls k B d r b1 b2 _ (Kd.C_below HR.out HB4.out) HD.out HBb.out).mono ?_); rintro x w4 ⟨v, rfl, hR, hb4⟩; have HB5 := Aside0.mk (below_step HB4.out hb4); have HS := Aside0.mk (show StrAt w4 g3 Av cv a1 from ⟨blk_below B3s.out hb4, Kd.C_below HVC.out.1 hb4, HVC.out.2⟩); obtain ⟨Aw, cw, ew⟩ := Kd.R_slice hR; subst ew; have HW := Aside0.mk hR; clear hR hb4 B3s HB4 HVC hcz4 BK4)
    | (go_at_call 57; (with_reducible refine (anyMiss_calls k Aw cw b1 i HS.out (Kd.R_reads' HW.out).2.2 (Kd.R_reads' HW.out).2.1 HI.out).mono ?_); rintro x w5 ⟨rfl, ⟨m5, rfl⟩⟩))
  go_ret
  exact ⟨rfl, by repeat (first | (with_reducible first | exact HB5.out | apply below_alloc | apply pw_below_drewN | apply below_drew1) | exact HB5.out)⟩
/-! ### the questions in turn -/
section
variable {w : World} {g : Nat} {id : Int} {A : Option Addr} {c : Nat} {l : List S33} {B : Option Addr} {d : Nat} {r : List S33}
set_option maxHeartbeats 600000 in
set_option maxRecDepth 100000 in
theorem check6_calls (k : Nat) (b : Bool) (h : RuleAt w g id A c l B d r) (hf : ruleStrange.f k l r = some b) : Calls Tryd.prog 33 #[.pointer (some ⟨g, 0, none⟩)] w fun x w' => x = .returned (.int .i64 (if b = true then 7 else 0)) ∧ Below w.heap.size w w' := by
  have c0 : w.cell? ⟨g, 0, none⟩ = some (.int .i64 id) := (blk_cell h.1 0).trans rfl
  have c1 : w.cell? ⟨g, 1, none⟩ = some (.slice A l.length c) := (blk_cell h.1 1).trans rfl
  have c2 : w.cell? ⟨g, 2, none⟩ = some (.slice B r.length d) := (blk_cell h.1 2).trans rfl
  have HH := Aside0.mk h
  clear h
  have hu25 := Tryd.underlying25
  cases b with
  | true =>
    go_enter Tryd.func33, Tryd.ntmps33
    go_wp2_with (first
      | (go_at_call 34; refine (strange_calls k true w id A c l B d r HH.out.2.1 HH.out.2.2.1 HH.out.2.2.2.1 HH.out.2.2.2.2 hf).mono ?_; rintro x w1 ⟨rfl, hb1⟩; have HB1 := Aside0.mk hb1; clear hb1)
      | (go_at_call 26; refine (when_calls true 7 _).mono ?_; rintro x w2 ⟨rfl, rfl⟩))
    go_ret
    exact ⟨rfl, HB1.out⟩
  | false =>
    go_enter Tryd.func33, Tryd.ntmps33
    go_wp2_with (first
      | (go_at_call 34; refine (strange_calls k false w id A c l B d r HH.out.2.1 HH.out.2.2.1 HH.out.2.2.2.1 HH.out.2.2.2.2 hf).mono ?_; rintro x w1 ⟨rfl, hb1⟩; have HB1 := Aside0.mk hb1; clear hb1)
      | (go_at_call 26; refine (when_calls false 7 _).mono ?_; rintro x w2 ⟨rfl, rfl⟩))
    go_ret
    exact ⟨rfl, HB1.out⟩

def R5 (k : Nat) (l r : List S33) : Option Int := (ruleStrange.f k l r).bind fun b => some (if b = true then 7 else 0)
def R4 (k : Nat) (l r : List S33) : Option Int := (ruleCheck5.f k l).bind fun e5 => if e5 = 0 then R5 k l r else some e5
def R3 (k : Nat) (l r : List S33) : Option Int := if (l.length : Int) > 8 ∨ (r.length : Int) > 8 then some 6 else R4 k l r
def R2 (k : Nat) (l r : List S33) : Option Int := (term_Check.f k r).bind fun e3 => if e3 = 0 then R3 k l r else some e3
def R1 (k : Nat) (l r : List S33) : Option Int := (term_Check.f k l).bind fun e2 => if e2 = 0 then R2 k l r else some e2
theorem R0_eq (k : Nat) (id : Int) (l r : List S33) : rule_Check.f k id l r = if id < 0 ∨ id > 65535 then some 1 else R1 k l r := rfl
/-- What is left to be asked, from question i on. -/
def Rest (k : Nat) (id : Int) (l r : List S33) : Nat → Option Int
  | 0 => rule_Check.f k id l r
  | 1 => R1 k l r
  | 2 => R2 k l r
  | 3 => R3 k l r
  | 4 => R4 k l r
  | 5 => R5 k l r
  | _ => some 0
/-- What question i answers: then that is the answer if it isn't 0, and else the rest. -/
def Ask (k : Nat) (id : Int) (l r : List S33) : Nat → Option Int
  | 0 => some (if id < 0 ∨ id > 65535 then 1 else 0)
  | 1 => term_Check.f k l
  | 2 => term_Check.f k r
  | 3 => some (if (l.length : Int) > 8 ∨ (r.length : Int) > 8 then 6 else 0)
  | 4 => ruleCheck5.f k l
  | _ => (ruleStrange.f k l r).bind fun b => some (if b = true then 7 else 0)
theorem rest_ask (k : Nat) (id : Int) (l r : List S33) (i : Nat) (hi : i < 6) (e : Int) (h : Rest k id l r i = some e) : ∃ a, Ask k id l r i = some a ∧ (if a = 0 then Rest k id l r (i + 1) = some e else a = e) := by
  match i, hi with
  | 0, _ =>
    simp only [Rest, R0_eq] at h
    refine ⟨_, rfl, ?_⟩
    by_cases c : id < 0 ∨ id > 65535
    · rw [if_pos c] at h ⊢
      rw [if_neg (by decide)]; exact Option.some.inj h
    · rw [if_neg c] at h ⊢
      rw [if_pos rfl]; exact h
  | 1, _ =>
    simp only [Rest, R1] at h
    obtain ⟨a, ha, h⟩ := Option.bind_eq_some_iff.1 h
    refine ⟨a, ha, ?_⟩
    by_cases c : a = 0
    · rw [if_pos c] at h ⊢; exact h
    · rw [if_neg c] at h ⊢; exact Option.some.inj h
  | 2, _ =>
    simp only [Rest, R2] at h
    obtain ⟨a, ha, h⟩ := Option.bind_eq_some_iff.1 h
    refine ⟨a, ha, ?_⟩
    by_cases c : a = 0
    · rw [if_pos c] at h ⊢; exact h
    · rw [if_neg c] at h ⊢; exact Option.some.inj h
  | 3, _ =>
    simp only [Rest, R3] at h
    refine ⟨_, rfl, ?_⟩
    by_cases c : (l.length : Int) > 8 ∨ (r.length : Int) > 8
    · rw [if_pos c] at h ⊢
      rw [if_neg (by decide)]; exact Option.some.inj h
    · rw [if_neg c] at h ⊢
      rw [if_pos rfl]; exact h
  | 4, _ =>
    simp only [Rest, R4] at h
    obtain ⟨a, ha, h⟩ := Option.bind_eq_some_iff.1 h
    refine ⟨a, ha, ?_⟩
    by_cases c : a = 0
    · rw [if_pos c] at h ⊢; exact h
    · rw [if_neg c] at h ⊢; exact Option.some.inj h
  | 5, _ =>
    simp only [Rest, R5] at h
    refine ⟨e, h, ?_⟩
    by_cases c : e = 0
    · rw [if_pos c, c]; rfl
    · rw [if_neg c]

/-- Question i's function. -/
def qfn : Nat → Nat
  | 0 => 25 | 1 => 27 | 2 => 29 | 3 => 30 | 4 => 31 | _ => 33
theorem ask_calls (k : Nat) (i : Nat) (hi : i < 6) (a : Int) (h : RuleAt w g id A c l B d r) (ha : Ask k id l r i = some a) : Calls Tryd.prog (qfn i) #[.pointer (some ⟨g, 0, none⟩)] w fun x w' => x = .returned (.int .i64 a) ∧ Below w.heap.size w w' := by
  match i, hi with
  | 0, _ => obtain rfl := Option.some.inj ha; exact check1_calls h
  | 1, _ => exact check2_calls k a h ha
  | 2, _ => exact check3_calls k a h ha
  | 3, _ => obtain rfl := Option.some.inj ha; exact check4_calls h
  | 4, _ => exact check5_calls k a h ha
  | 5, _ =>
    obtain ⟨b, hb, ha⟩ := Option.bind_eq_some_iff.1 ha
    obtain rfl := Option.some.inj ha
    exact check6_calls k b h hb
/-- The six questions, as they lie. -/
def qs (g : Nat) : Array Value := #[.func (.func 25) #[] #[.pointer (some ⟨g, 0, none⟩)], .func (.func 27) #[] #[.pointer (some ⟨g, 0, none⟩)], .func (.func 29) #[] #[.pointer (some ⟨g, 0, none⟩)], .func (.func 30) #[] #[.pointer (some ⟨g, 0, none⟩)], .func (.func 31) #[] #[.pointer (some ⟨g, 0, none⟩)], .func (.func 33) #[] #[.pointer (some ⟨g, 0, none⟩)]]
end

set_option maxHeartbeats 1000000 in
set_option maxRecDepth 100000 in
theorem first_calls (k : Nat) (e : Int) {w : World} {g q : Nat} {id : Int} {A : Option Addr} {c : Nat} {l : List S33} {B : Option Addr} {d : Nat} {r : List S33} (h : RuleAt w g id A c l B d r) (hq : w.heap[q]? = some (.cells (qs g) 50 (0, 0))) (hf : rule_Check.f k id l r = some e) :
    Calls Tryd.prog 24 #[.slice (some ⟨q, 0, none⟩) 6 6] w fun x w' => x = .returned (.int .i64 e) ∧ Below w.heap.size w w' := by
  have HR := Aside0.mk h
  have HQ := Aside0.mk hq
  have HF := Aside0.mk (show Rest k id l r 0 = some e from hf)
  clear h hq hf
  go_enter Tryd.func24, Tryd.ntmps24
  go_wp2
  go_loopg [8] 6 (fun kq v8 w' => ∃ (i : Nat), v8 = .int .i64 (i : Int) ∧ Aside0 (kq + i = 6) ∧ Aside0 (Rest k id l r i = some e) ∧ Aside0 (RuleAt w' g id A c l B d r) ∧ Aside0 (w'.heap[q]? = some (.cells (qs g) 50 (0, 0))) ∧ Aside0 (Below w.heap.size w w'))
  case atStart => exact ⟨0, rfl, ⟨rfl⟩, HF, HR, HQ, ⟨Below.refl _ _⟩⟩
  case round =>
    clear HR HQ HF
    obtain ⟨i, rfl, HK, HF, HR, HQ, HB⟩ := hrel
    by_cases hi : i < 6
    · obtain ⟨a, ha, hn⟩ := rest_ask k id l r i hi e HF.out
      have HA := Aside0.mk ha
      have HN := Aside0.mk hn
      have HK' := HK.out
      clear ha hn HF
      have arm : ∀ n : Nat, n = i → True := fun _ _ => trivial
      obtain rfl | rfl | rfl | rfl | rfl | rfl : i = 0 ∨ i = 1 ∨ i = 2 ∨ i = 3 ∨ i = 4 ∨ i = 5 := by omega
      · have hcq : wr.cell? ⟨q, 0, none⟩ = some (.func (.func 25) #[] #[.pointer (some ⟨g, 0, none⟩)]) := (blk_cell HQ.out 0).trans rfl
        obtain rfl : gk = 6 := by omega
        clear hi HK HK' arm
        by_cases ca : a = 0
        · subst ca
          go_wp2_with (go_at_call 25; refine (show Calls Tryd.prog 25 #[.pointer (some ⟨g, 0, none⟩)] _ _ from ask_calls k 0 (by decide) 0 HR.out HA.out).mono ?_; rintro x w1 ⟨rfl, hb1⟩; have HRn := Aside0.mk (RuleAt.below HR.out hb1); have HQn := Aside0.mk (blk_below HQ.out hb1); have HBn := Aside0.mk (below_step HB.out hb1); clear hb1)
          go_roundg 5
          case measure => omega
          case rel => exact ⟨1, rfl, ⟨rfl⟩, ⟨by have h_ := HN.out; first | rw [if_pos rfl] at h_ | rw [if_pos trivial] at h_; exact h_⟩, HRn, HQn, HBn⟩
        · have cb : (a == 0) = false := beq_eq_false_iff_ne.mpr ca
          have cc : (a != 0) = true := bne_iff_ne.mpr ca
          have hn := HN.out
          rw [if_neg ca] at hn
          subst hn
          clear ca HN
          go_wp2_with (go_at_call 25; refine (show Calls Tryd.prog 25 #[.pointer (some ⟨g, 0, none⟩)] _ _ from ask_calls k 0 (by decide) a HR.out HA.out).mono ?_; rintro x w1 ⟨rfl, hb1⟩; have HBn := Aside0.mk (below_step HB.out hb1); clear hb1)
          go_ret
          exact ⟨rfl, HBn.out⟩
      · have hcq : wr.cell? ⟨q, 1, none⟩ = some (.func (.func 27) #[] #[.pointer (some ⟨g, 0, none⟩)]) := (blk_cell HQ.out 1).trans rfl
        obtain rfl : gk = 5 := by omega
        clear hi HK HK' arm
        by_cases ca : a = 0
        · subst ca
          go_wp2_with (go_at_call 27; refine (show Calls Tryd.prog 27 #[.pointer (some ⟨g, 0, none⟩)] _ _ from ask_calls k 1 (by decide) 0 HR.out HA.out).mono ?_; rintro x w1 ⟨rfl, hb1⟩; have HRn := Aside0.mk (RuleAt.below HR.out hb1); have HQn := Aside0.mk (blk_below HQ.out hb1); have HBn := Aside0.mk (below_step HB.out hb1); clear hb1)
          go_roundg 4
          case measure => omega
          case rel => exact ⟨2, rfl, ⟨rfl⟩, ⟨by have h_ := HN.out; first | rw [if_pos rfl] at h_ | rw [if_pos trivial] at h_; exact h_⟩, HRn, HQn, HBn⟩
        · have cb : (a == 0) = false := beq_eq_false_iff_ne.mpr ca
          have cc : (a != 0) = true := bne_iff_ne.mpr ca
          have hn := HN.out
          rw [if_neg ca] at hn
          subst hn
          clear ca HN
          go_wp2_with (go_at_call 27; refine (show Calls Tryd.prog 27 #[.pointer (some ⟨g, 0, none⟩)] _ _ from ask_calls k 1 (by decide) a HR.out HA.out).mono ?_; rintro x w1 ⟨rfl, hb1⟩; have HBn := Aside0.mk (below_step HB.out hb1); clear hb1)
          go_ret
          exact ⟨rfl, HBn.out⟩
      · have hcq : wr.cell? ⟨q, 2, none⟩ = some (.func (.func 29) #[] #[.pointer (some ⟨g, 0, none⟩)]) := (blk_cell HQ.out 2).trans rfl
        obtain rfl : gk = 4 := by omega
        clear hi HK HK' arm
        by_cases ca : a = 0
        · subst ca
          go_wp2_with (go_at_call 29; refine (show Calls Tryd.prog 29 #[.pointer (some ⟨g, 0, none⟩)] _ _ from ask_calls k 2 (by decide) 0 HR.out HA.out).mono ?_; rintro x w1 ⟨rfl, hb1⟩; have HRn := Aside0.mk (RuleAt.below HR.out hb1); have HQn := Aside0.mk (blk_below HQ.out hb1); have HBn := Aside0.mk (below_step HB.out hb1); clear hb1)
          go_roundg 3
          case measure => omega
          case rel => exact ⟨3, rfl, ⟨rfl⟩, ⟨by have h_ := HN.out; first | rw [if_pos rfl] at h_ | rw [if_pos trivial] at h_; exact h_⟩, HRn, HQn, HBn⟩
        · have cb : (a == 0) = false := beq_eq_false_iff_ne.mpr ca
          have cc : (a != 0) = true := bne_iff_ne.mpr ca
          have hn := HN.out
          rw [if_neg ca] at hn
          subst hn
          clear ca HN
          go_wp2_with (go_at_call 29; refine (show Calls Tryd.prog 29 #[.pointer (some ⟨g, 0, none⟩)] _ _ from ask_calls k 2 (by decide) a HR.out HA.out).mono ?_; rintro x w1 ⟨rfl, hb1⟩; have HBn := Aside0.mk (below_step HB.out hb1); clear hb1)
          go_ret
          exact ⟨rfl, HBn.out⟩
      · have hcq : wr.cell? ⟨q, 3, none⟩ = some (.func (.func 30) #[] #[.pointer (some ⟨g, 0, none⟩)]) := (blk_cell HQ.out 3).trans rfl
        obtain rfl : gk = 3 := by omega
        clear hi HK HK' arm
        by_cases ca : a = 0
        · subst ca
          go_wp2_with (go_at_call 30; refine (show Calls Tryd.prog 30 #[.pointer (some ⟨g, 0, none⟩)] _ _ from ask_calls k 3 (by decide) 0 HR.out HA.out).mono ?_; rintro x w1 ⟨rfl, hb1⟩; have HRn := Aside0.mk (RuleAt.below HR.out hb1); have HQn := Aside0.mk (blk_below HQ.out hb1); have HBn := Aside0.mk (below_step HB.out hb1); clear hb1)
          go_roundg 2
          case measure => omega
          case rel => exact ⟨4, rfl, ⟨rfl⟩, ⟨by have h_ := HN.out; first | rw [if_pos rfl] at h_ | rw [if_pos trivial] at h_; exact h_⟩, HRn, HQn, HBn⟩
        · have cb : (a == 0) = false := beq_eq_false_iff_ne.mpr ca
          have cc : (a != 0) = true := bne_iff_ne.mpr ca
          have hn := HN.out
          rw [if_neg ca] at hn
          subst hn
          clear ca HN
          go_wp2_with (go_at_call 30; refine (show Calls Tryd.prog 30 #[.pointer (some ⟨g, 0, none⟩)] _ _ from ask_calls k 3 (by decide) a HR.out HA.out).mono ?_; rintro x w1 ⟨rfl, hb1⟩; have HBn := Aside0.mk (below_step HB.out hb1); clear hb1)
          go_ret
          exact ⟨rfl, HBn.out⟩
      · have hcq : wr.cell? ⟨q, 4, none⟩ = some (.func (.func 31) #[] #[.pointer (some ⟨g, 0, none⟩)]) := (blk_cell HQ.out 4).trans rfl
        obtain rfl : gk = 2 := by omega
        clear hi HK HK' arm
        by_cases ca : a = 0
        · subst ca
          go_wp2_with (go_at_call 31; refine (show Calls Tryd.prog 31 #[.pointer (some ⟨g, 0, none⟩)] _ _ from ask_calls k 4 (by decide) 0 HR.out HA.out).mono ?_; rintro x w1 ⟨rfl, hb1⟩; have HRn := Aside0.mk (RuleAt.below HR.out hb1); have HQn := Aside0.mk (blk_below HQ.out hb1); have HBn := Aside0.mk (below_step HB.out hb1); clear hb1)
          go_roundg 1
          case measure => omega
          case rel => exact ⟨5, rfl, ⟨rfl⟩, ⟨by have h_ := HN.out; first | rw [if_pos rfl] at h_ | rw [if_pos trivial] at h_; exact h_⟩, HRn, HQn, HBn⟩
        · have cb : (a == 0) = false := beq_eq_false_iff_ne.mpr ca
          have cc : (a != 0) = true := bne_iff_ne.mpr ca
          have hn := HN.out
          rw [if_neg ca] at hn
          subst hn
          clear ca HN
          go_wp2_with (go_at_call 31; refine (show Calls Tryd.prog 31 #[.pointer (some ⟨g, 0, none⟩)] _ _ from ask_calls k 4 (by decide) a HR.out HA.out).mono ?_; rintro x w1 ⟨rfl, hb1⟩; have HBn := Aside0.mk (below_step HB.out hb1); clear hb1)
          go_ret
          exact ⟨rfl, HBn.out⟩
      · have hcq : wr.cell? ⟨q, 5, none⟩ = some (.func (.func 33) #[] #[.pointer (some ⟨g, 0, none⟩)]) := (blk_cell HQ.out 5).trans rfl
        obtain rfl : gk = 1 := by omega
        clear hi HK HK' arm
        by_cases ca : a = 0
        · subst ca
          go_wp2_with (go_at_call 33; refine (show Calls Tryd.prog 33 #[.pointer (some ⟨g, 0, none⟩)] _ _ from ask_calls k 5 (by decide) 0 HR.out HA.out).mono ?_; rintro x w1 ⟨rfl, hb1⟩; have HRn := Aside0.mk (RuleAt.below HR.out hb1); have HQn := Aside0.mk (blk_below HQ.out hb1); have HBn := Aside0.mk (below_step HB.out hb1); clear hb1)
          go_roundg 0
          case measure => omega
          case rel => exact ⟨6, rfl, ⟨rfl⟩, ⟨by have h_ := HN.out; first | rw [if_pos rfl] at h_ | rw [if_pos trivial] at h_; exact h_⟩, HRn, HQn, HBn⟩
        · have cb : (a == 0) = false := beq_eq_false_iff_ne.mpr ca
          have cc : (a != 0) = true := bne_iff_ne.mpr ca
          have hn := HN.out
          rw [if_neg ca] at hn
          subst hn
          clear ca HN
          go_wp2_with (go_at_call 33; refine (show Calls Tryd.prog 33 #[.pointer (some ⟨g, 0, none⟩)] _ _ from ask_calls k 5 (by decide) a HR.out HA.out).mono ?_; rintro x w1 ⟨rfl, hb1⟩; have HBn := Aside0.mk (below_step HB.out hb1); clear hb1)
          go_ret
          exact ⟨rfl, HBn.out⟩
    · have hk := HK.out
      obtain rfl : i = 6 := by omega
      have h0 : e = 0 := (Option.some.inj (show some (0 : Int) = some e from HF.out)).symm
      subst h0
      clear hi HF HK hk
      go_wp2
      go_ret
      exact ⟨rfl, HB.out⟩

set_option maxHeartbeats 1000000 in
set_option maxRecDepth 100000 in
theorem rule_Check.calls (k : Nat) (a0_0 : Int) (A0_1 : Option Addr) (c0_1 : Nat) (l0_1 : List (S33)) (A0_2 : Option Addr) (c0_2 : Nat) (l0_2 : List (S33)) (r : Int) (w : World) (hr0_1 : Kd.C k33 w A0_1 l0_1.length l0_1) (hc0_1 : l0_1.length ≤ c0_1) (hr0_2 : Kd.C k33 w A0_2 l0_2.length l0_2) (hc0_2 : l0_2.length ≤ c0_2) (h : rule_Check.f k a0_0 l0_1 l0_2 = some r) :
    Calls Tryd.prog 9 #[.agg #[.int .i64 a0_0, .slice A0_1 l0_1.length c0_1, .slice A0_2 l0_2.length c0_2]] w fun e w' => e = .returned (.int .i64 r) ∧ Below w.heap.size w w' := by
  have HL := Aside0.mk hr0_1
  have HC := Aside0.mk hc0_1
  have HR := Aside0.mk hr0_2
  have HD := Aside0.mk hc0_2
  have HF := Aside0.mk h
  clear hr0_1 hc0_1 hr0_2 hc0_2 h
  have hmf := hmf
  have hu25 := Tryd.underlying25
  go_enter Tryd.func9, Tryd.ntmps9
  go_wp2_with (first
    | ((with_reducible refine gate_dst (N := 1) rfl ?_); refine box_event ?hg (N := 1) ?hd (cs := #[.int .i64 a0_0, .slice A0_1 l0_1.length c0_1, .slice A0_2 l0_2.length c0_2]) (t := 25) ?hr ?_; (case hd => rfl); (case hg => rfl); (case hr => first | (go_simp; done) | (go_simp; rfl)); intro gb hg w1 hbox hb1; have HB1 := Aside0.mk hb1; have HRL := Aside0.mk (show RuleAt w1 gb a0_0 A0_1 c0_1 l0_1 A0_2 c0_2 l0_2 from ⟨hbox, Kd.C_below HL.out hb1, HC.out, Kd.C_below HR.out hb1, HD.out⟩); clear hbox hb1 hg)
    | (go_at_call 24; refine (first_calls k r (g := gb) (RuleAt.below HRL.out (below_alloc (Below.refl _ _) _)) (heap_alloc_new _ _) HF.out).mono ?_; rintro x w2 ⟨rfl, hb2⟩; have HB2 := Aside0.mk (below_step (below_alloc HB1.out _) hb2); clear hb2))
  go_ret
  exact ⟨rfl, HB2.out⟩
end Go.Proofs.YtnkpcnnbeaomnaaDoor.C
end
