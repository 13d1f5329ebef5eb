import Derived.Test.YtnkpcnnbeaomnaaDoorRP2
import Derived.Test.YtnkpcnnbeaomnaaDoorRP14
import Derived.Test.YtnkpcnnbeaomnaaDoorRP11
import Derived.Test.YtnkpcnnbeaomnaaDoorRP13

section
-- Written by a program of this session (a scratch print over hand-made contracts), out of the translation. Not trusted: Lean checks it.
namespace Go.Proofs.YtnkpcnnbeaomnaaDoor.C
open Go.RowKit Go.Proofs.YtnkpcnnbeaomnaaDoorW.PrintWords Go.Proofs.YtnkpcnnbeaomnaaDoorW.PrintLast Go.Proofs.YtnkpcnnbeaomnaaDoorW.PrintMore
attribute [local go_sem] max2_int min2_int max_two min_two max_three min_three max_four min_four   -- for this text's walks alone
set_option linter.unusedVariables false
set_option linter.unusedSimpArgs false

/-! ### aumbryref06_Same: function 15 -/
def aumbryref06_Same.f (k : Nat) (a0_0 : Int) (l0_1 : List (S33)) (l0_2 : List (S33)) (a1_0 : Int) (l1_1 : List (S33)) (l1_2 : List (S33)) : Option (Bool) := if a0_0 = a1_0 then ((aumbryref04_Same.f k l0_1 l1_1).bind fun t297 => (if t297 = true then ((aumbryref04_Same.f k l0_2 l1_2).bind fun t298 => (some t298)) else (some false))) else (some false)
set_option maxHeartbeats 8000000 in
set_option maxRecDepth 100000 in
theorem aumbryref06_Same.calls (k : Nat) (a0_0 : Int) (A0_1 : Option Addr) (c0_1 : Nat) (l0_1 : List (S33)) (A0_2 : Option Addr) (c0_2 : Nat) (l0_2 : List (S33)) (a1_0 : Int) (A1_1 : Option Addr) (c1_1 : Nat) (l1_1 : List (S33)) (A1_2 : Option Addr) (c1_2 : Nat) (l1_2 : List (S33)) (r : Bool) (w : World) (hr0_1 : Kd.C k33 w A0_1 l0_1.length l0_1) (hc0_1 : l0_1.length ≤ c0_1) (hr0_2 : Kd.C k33 w A0_2 l0_2.length l0_2) (hc0_2 : l0_2.length ≤ c0_2) (hr1_1 : Kd.C k33 w A1_1 l1_1.length l1_1) (hc1_1 : l1_1.length ≤ c1_1) (hr1_2 : Kd.C k33 w A1_2 l1_2.length l1_2) (hc1_2 : l1_2.length ≤ c1_2) (h : aumbryref06_Same.f k a0_0 l0_1 l0_2 a1_0 l1_1 l1_2 = some r) :
    Calls Tryd.prog 15 #[.agg #[.int .i64 a0_0, .slice A0_1 l0_1.length c0_1, .slice A0_2 l0_2.length c0_2], .agg #[.int .i64 a1_0, .slice A1_1 l1_1.length c1_1, .slice A1_2 l1_2.length c1_2]] w fun e w' => e = .returned (.bool r) ∧ Below w.heap.size w w' := by
  have hu25 := Tryd.underlying25
  have HR0_1 := Aside0.mk hr0_1
  have HC0_1 := Aside0.mk hc0_1
  clear hr0_1 hc0_1
  have HR0_2 := Aside0.mk hr0_2
  have HC0_2 := Aside0.mk hc0_2
  clear hr0_2 hc0_2
  have HR1_1 := Aside0.mk hr1_1
  have HC1_1 := Aside0.mk hc1_1
  clear hr1_1 hc1_1
  have HR1_2 := Aside0.mk hr1_2
  have HC1_2 := Aside0.mk hc1_2
  clear hr1_2 hc1_2
  have HB := Aside0.mk (Below.refl w.heap.size w)
  have H : (if a0_0 = a1_0 then ((aumbryref04_Same.f k l0_1 l1_1).bind fun t297 => (if t297 = true then ((aumbryref04_Same.f k l0_2 l1_2).bind fun t298 => (some t298)) else (some false))) else (some false)) = some r := h
  clear h
  by_cases c3 : a0_0 = a1_0
  · rw [if_pos c3] at H
    have c3b0 : (a0_0 == a1_0) = true := beq_iff_eq.mpr c3
    have c3b1 : (a0_0 != a1_0) = false := bne_eq_false_iff_eq.mpr c3
    clear c3
    replace H := Option.bind_eq_some_iff.mp H
    obtain ⟨t297, A40, H⟩ := H
    replace H : (if t297 = true then ((aumbryref04_Same.f k l0_2 l1_2).bind fun t298 => (some t298)) else (some false)) = some r := H
    have A4 := Aside0.mk A40
    clear A40
    by_cases c5 : t297 = true
    · subst c5
      have H1 : ((aumbryref04_Same.f k l0_2 l1_2).bind fun t298 => (some t298)) = some r := by rw [if_pos rfl] at H; exact H
      clear H
      have H := H1
      clear H1
      replace H := Option.bind_eq_some_iff.mp H
      obtain ⟨t298, A60, H⟩ := H
      replace H : (some t298) = some r := H
      have A6 := Aside0.mk A60
      clear A60
      obtain rfl := Option.some.inj H
      go_enter Tryd.func15, Tryd.ntmps15
      go_wp2_with (first | ((with_reducible refine gate_dst (N := 2) rfl ?_); refine box_event ?hg (N := 2) ?hd (cs := #[.int .i64 a0_0, .slice A0_1 l0_1.length c0_1, .slice A0_2 l0_2.length c0_2]) (t := 25) ?hr ?_; (case hd => rfl); (case hg => rfl); (case hr => first | (go_simp; done) | (go_simp; rfl)); intro gb295 hg w7 hbox hb; have n0_ := Aside0.mk (below_step (by repeat (first | (with_reducible first | exact HB.out | apply below_alloc | apply pw_below_drewN | apply below_drew1) | exact HB.out)) hb); have n1_ := Aside0.mk (hbox); have n2_ := Aside0.mk ((by rw [hg]; exact (below_size (by repeat (first | (with_reducible first | exact HB.out | apply below_alloc | apply pw_below_drewN | apply below_drew1) | exact HB.out))) : w.heap.size ≤ gb295)); have n3_ := Aside0.mk ((by rw [hg]; exact (below_size (by repeat (first | (with_reducible first | exact HB.out | apply below_alloc | apply pw_below_drewN | apply below_drew1) | exact HB.out))) : w.heap.size ≤ gb295)); clear HB; have HB := n0_; have BK295 := n1_; have GW295 := n2_; have GE295 := n3_; clear n0_ n1_ n2_ n3_; clear hb hbox hg) | ((with_reducible refine gate_dst (N := 3) rfl ?_); refine box_event ?hg (N := 3) ?hd (cs := #[.int .i64 a1_0, .slice A1_1 l1_1.length c1_1, .slice A1_2 l1_2.length c1_2]) (t := 25) ?hr ?_; (case hd => rfl); (case hg => rfl); (case hr => first | (go_simp; done) | (go_simp; rfl)); intro gb296 hg w8 hbox hb; have n0_ := Aside0.mk (blk_below (g := gb295) (o := .cells #[.int .i64 a0_0, .slice A0_1 l0_1.length c0_1, .slice A0_2 l0_2.length c0_2] 25 (0, 0)) (by (with_reducible repeat (first | refine blk_drewN ?_ _ | refine blk_drew ?_ | refine blk_alloc ?_ _)); exact BK295.out) hb); have n1_ := Aside0.mk (below_step (by repeat (first | (with_reducible first | exact HB.out | apply below_alloc | apply pw_below_drewN | apply below_drew1 | refine below_set ?_ GE295.out) | exact HB.out)) hb); have n2_ := Aside0.mk (hbox); have n3_ := Aside0.mk ((by rw [hg]; exact (below_size (by repeat (first | (with_reducible first | exact HB.out | apply below_alloc | apply pw_below_drewN | apply below_drew1 | refine below_set ?_ GE295.out) | exact HB.out))) : w.heap.size ≤ gb296)); have n4_ := Aside0.mk ((by rw [hg]; exact (below_size (by repeat (first | (with_reducible first | exact HB.out | apply below_alloc | apply pw_below_drewN | apply below_drew1 | refine below_set ?_ GE295.out) | exact HB.out))) : w.heap.size ≤ gb296)); have n5_ := Aside0.mk ((by rw [hg]; exact Nat.ne_of_lt (blk_lt (g := gb295) (o := .cells #[.int .i64 a0_0, .slice A0_1 l0_1.length c0_1, .slice A0_2 l0_2.length c0_2] 25 (0, 0)) (by (with_reducible repeat (first | refine blk_drewN ?_ _ | refine blk_drew ?_ | refine blk_alloc ?_ _)); exact BK295.out)) : gb295 ≠ gb296)); have n6_ := Aside0.mk ((by rw [hg]; exact Nat.ne_of_gt (blk_lt (g := gb295) (o := .cells #[.int .i64 a0_0, .slice A0_1 l0_1.length c0_1, .slice A0_2 l0_2.length c0_2] 25 (0, 0)) (by (with_reducible repeat (first | refine blk_drewN ?_ _ | refine blk_drew ?_ | refine blk_alloc ?_ _)); exact BK295.out)) : gb296 ≠ gb295)); clear BK295; clear HB; have BK295 := n0_; have HB := n1_; have BK296 := n2_; have GW296 := n3_; have GE296 := n4_; have NB295_296 := n5_; have NB296_295 := n6_; clear n0_ n1_ n2_ n3_ n4_ n5_ n6_; clear hb hbox hg; have hnb9 := NB295_296.out; have hnc9 := NB296_295.out; have hcz10_0 : w8.cell? ⟨gb295, 0, none⟩ = some (.int .i64 a0_0) := (blk_cell BK295.out 0).trans rfl; have hcz10_1 : w8.cell? ⟨gb295, 1, none⟩ = some (.slice A0_1 l0_1.length c0_1) := (blk_cell BK295.out 1).trans rfl; have hcz10_2 : w8.cell? ⟨gb295, 2, none⟩ = some (.slice A0_2 l0_2.length c0_2) := (blk_cell BK295.out 2).trans rfl; have hfz10_0 := blk_frozen BK295.out 0; have hfz10_1 := blk_frozen BK295.out 1; have hfz10_2 := blk_frozen BK295.out 2; have hcz11_0 : w8.cell? ⟨gb296, 0, none⟩ = some (.int .i64 a1_0) := (blk_cell BK296.out 0).trans rfl; have hcz11_1 : w8.cell? ⟨gb296, 1, none⟩ = some (.slice A1_1 l1_1.length c1_1) := (blk_cell BK296.out 1).trans rfl; have hcz11_2 : w8.cell? ⟨gb296, 2, none⟩ = some (.slice A1_2 l1_2.length c1_2) := (blk_cell BK296.out 2).trans rfl; have hfz11_0 := blk_frozen BK296.out 0; have hfz11_1 := blk_frozen BK296.out 1; have hfz11_2 := blk_frozen BK296.out 2) | (go_at_call 42; (with_reducible refine (aumbryref04_Same.calls k _ _ l0_1 _ _ l1_1 true _ ?side1 ?side2 ?side3 ?side4 A4.out).mono ?_); (case side1 => repeat (first | exact (Kd.C_below HR0_1.out HB.out) | (with_reducible refine Kd.C_alloc ?_ _) | (with_reducible refine Kd.C_drewN ?_ _) | (with_reducible refine Kd.C_drew ?_))); (case side2 => exact HC0_1.out); (case side3 => repeat (first | exact (Kd.C_below HR1_1.out HB.out) | (with_reducible refine Kd.C_alloc ?_ _) | (with_reducible refine Kd.C_drewN ?_ _) | (with_reducible refine Kd.C_drew ?_))); (case side4 => exact HC1_1.out); rintro e w' ⟨rfl, ⟨nd, rfl⟩⟩) | (go_at_call 42; (with_reducible refine (aumbryref04_Same.calls k _ _ l0_2 _ _ l1_2 t298 _ ?side1 ?side2 ?side3 ?side4 A6.out).mono ?_); (case side1 => repeat (first | exact (Kd.C_below HR0_2.out (by repeat (first | (with_reducible first | exact HB.out | apply below_alloc | apply pw_below_drewN | apply below_drew1 | refine below_set ?_ GE295.out | refine below_set ?_ GE296.out) | exact HB.out))) | (with_reducible refine Kd.C_alloc ?_ _) | (with_reducible refine Kd.C_drewN ?_ _) | (with_reducible refine Kd.C_drew ?_))); (case side2 => exact HC0_2.out); (case side3 => repeat (first | exact (Kd.C_below HR1_2.out (by repeat (first | (with_reducible first | exact HB.out | apply below_alloc | apply pw_below_drewN | apply below_drew1 | refine below_set ?_ GE295.out | refine below_set ?_ GE296.out) | exact HB.out))) | (with_reducible refine Kd.C_alloc ?_ _) | (with_reducible refine Kd.C_drewN ?_ _) | (with_reducible refine Kd.C_drew ?_))); (case side4 => exact HC1_2.out); rintro e w' ⟨rfl, ⟨nd, rfl⟩⟩))
      go_ret
      exact ⟨by first | rfl | (simp [errW_none, errW_some] <;> rfl) | (simp [*, errW_none, errW_some] <;> rfl), by repeat (first | (with_reducible first | exact HB.out | apply below_alloc | apply pw_below_drewN | apply below_drew1 | refine below_set ?_ GE295.out | refine below_set ?_ GE296.out) | exact HB.out)⟩
    · replace c5 := Bool.eq_false_iff.mpr c5
      subst c5
      have H1 : (some false) = some r := by rw [if_neg (show ¬ (false = true) by decide)] at H; exact H
      clear H
      have H := H1
      clear H1
      obtain rfl := Option.some.inj H
      go_enter Tryd.func15, Tryd.ntmps15
      go_wp2_with (first | ((with_reducible refine gate_dst (N := 2) rfl ?_); refine box_event ?hg (N := 2) ?hd (cs := #[.int .i64 a0_0, .slice A0_1 l0_1.length c0_1, .slice A0_2 l0_2.length c0_2]) (t := 25) ?hr ?_; (case hd => rfl); (case hg => rfl); (case hr => first | (go_simp; done) | (go_simp; rfl)); intro gb295 hg w12 hbox hb; have n0_ := Aside0.mk (below_step (by repeat (first | (with_reducible first | exact HB.out | apply below_alloc | apply pw_below_drewN | apply below_drew1) | exact HB.out)) hb); have n1_ := Aside0.mk (hbox); have n2_ := Aside0.mk ((by rw [hg]; exact (below_size (by repeat (first | (with_reducible first | exact HB.out | apply below_alloc | apply pw_below_drewN | apply below_drew1) | exact HB.out))) : w.heap.size ≤ gb295)); have n3_ := Aside0.mk ((by rw [hg]; exact (below_size (by repeat (first | (with_reducible first | exact HB.out | apply below_alloc | apply pw_below_drewN | apply below_drew1) | exact HB.out))) : w.heap.size ≤ gb295)); clear HB; have HB := n0_; have BK295 := n1_; have GW295 := n2_; have GE295 := n3_; clear n0_ n1_ n2_ n3_; clear hb hbox hg) | ((with_reducible refine gate_dst (N := 3) rfl ?_); refine box_event ?hg (N := 3) ?hd (cs := #[.int .i64 a1_0, .slice A1_1 l1_1.length c1_1, .slice A1_2 l1_2.length c1_2]) (t := 25) ?hr ?_; (case hd => rfl); (case hg => rfl); (case hr => first | (go_simp; done) | (go_simp; rfl)); intro gb296 hg w13 hbox hb; have n0_ := Aside0.mk (blk_below (g := gb295) (o := .cells #[.int .i64 a0_0, .slice A0_1 l0_1.length c0_1, .slice A0_2 l0_2.length c0_2] 25 (0, 0)) (by (with_reducible repeat (first | refine blk_drewN ?_ _ | refine blk_drew ?_ | refine blk_alloc ?_ _)); exact BK295.out) hb); have n1_ := Aside0.mk (below_step (by repeat (first | (with_reducible first | exact HB.out | apply below_alloc | apply pw_below_drewN | apply below_drew1 | refine below_set ?_ GE295.out) | exact HB.out)) hb); have n2_ := Aside0.mk (hbox); have n3_ := Aside0.mk ((by rw [hg]; exact (below_size (by repeat (first | (with_reducible first | exact HB.out | apply below_alloc | apply pw_below_drewN | apply below_drew1 | refine below_set ?_ GE295.out) | exact HB.out))) : w.heap.size ≤ gb296)); have n4_ := Aside0.mk ((by rw [hg]; exact (below_size (by repeat (first | (with_reducible first | exact HB.out | apply below_alloc | apply pw_below_drewN | apply below_drew1 | refine below_set ?_ GE295.out) | exact HB.out))) : w.heap.size ≤ gb296)); have n5_ := Aside0.mk ((by rw [hg]; exact Nat.ne_of_lt (blk_lt (g := gb295) (o := .cells #[.int .i64 a0_0, .slice A0_1 l0_1.length c0_1, .slice A0_2 l0_2.length c0_2] 25 (0, 0)) (by (with_reducible repeat (first | refine blk_drewN ?_ _ | refine blk_drew ?_ | refine blk_alloc ?_ _)); exact BK295.out)) : gb295 ≠ gb296)); have n6_ := Aside0.mk ((by rw [hg]; exact Nat.ne_of_gt (blk_lt (g := gb295) (o := .cells #[.int .i64 a0_0, .slice A0_1 l0_1.length c0_1, .slice A0_2 l0_2.length c0_2] 25 (0, 0)) (by (with_reducible repeat (first | refine blk_drewN ?_ _ | refine blk_drew ?_ | refine blk_alloc ?_ _)); exact BK295.out)) : gb296 ≠ gb295)); clear BK295; clear HB; have BK295 := n0_; have HB := n1_; have BK296 := n2_; have GW296 := n3_; have GE296 := n4_; have NB295_296 := n5_; have NB296_295 := n6_; clear n0_ n1_ n2_ n3_ n4_ n5_ n6_; clear hb hbox hg; have hnb14 := NB295_296.out; have hnc14 := NB296_295.out; have hcz15_0 : w13.cell? ⟨gb295, 0, none⟩ = some (.int .i64 a0_0) := (blk_cell BK295.out 0).trans rfl; have hcz15_1 : w13.cell? ⟨gb295, 1, none⟩ = some (.slice A0_1 l0_1.length c0_1) := (blk_cell BK295.out 1).trans rfl; have hcz15_2 : w13.cell? ⟨gb295, 2, none⟩ = some (.slice A0_2 l0_2.length c0_2) := (blk_cell BK295.out 2).trans rfl; have hfz15_0 := blk_frozen BK295.out 0; have hfz15_1 := blk_frozen BK295.out 1; have hfz15_2 := blk_frozen BK295.out 2; have hcz16_0 : w13.cell? ⟨gb296, 0, none⟩ = some (.int .i64 a1_0) := (blk_cell BK296.out 0).trans rfl; have hcz16_1 : w13.cell? ⟨gb296, 1, none⟩ = some (.slice A1_1 l1_1.length c1_1) := (blk_cell BK296.out 1).trans rfl; have hcz16_2 : w13.cell? ⟨gb296, 2, none⟩ = some (.slice A1_2 l1_2.length c1_2) := (blk_cell BK296.out 2).trans rfl; have hfz16_0 := blk_frozen BK296.out 0; have hfz16_1 := blk_frozen BK296.out 1; have hfz16_2 := blk_frozen BK296.out 2) | (go_at_call 42; (with_reducible refine (aumbryref04_Same.calls k _ _ l0_1 _ _ l1_1 false _ ?side1 ?side2 ?side3 ?side4 A4.out).mono ?_); (case side1 => repeat (first | exact (Kd.C_below HR0_1.out HB.out) | (with_reducible refine Kd.C_alloc ?_ _) | (with_reducible refine Kd.C_drewN ?_ _) | (with_reducible refine Kd.C_drew ?_))); (case side2 => exact HC0_1.out); (case side3 => repeat (first | exact (Kd.C_below HR1_1.out HB.out) | (with_reducible refine Kd.C_alloc ?_ _) | (with_reducible refine Kd.C_drewN ?_ _) | (with_reducible refine Kd.C_drew ?_))); (case side4 => exact HC1_1.out); rintro e w' ⟨rfl, ⟨nd, rfl⟩⟩))
      go_ret
      exact ⟨by first | rfl | (simp [errW_none, errW_some] <;> rfl) | (simp [*, errW_none, errW_some] <;> rfl), by repeat (first | (with_reducible first | exact HB.out | apply below_alloc | apply pw_below_drewN | apply below_drew1 | refine below_set ?_ GE295.out | refine below_set ?_ GE296.out) | exact HB.out)⟩
  · rw [if_neg c3] at H
    have c3b0 : (a0_0 == a1_0) = false := beq_eq_false_iff_ne.mpr c3
    have c3b1 : (a0_0 != a1_0) = true := bne_iff_ne.mpr c3
    obtain rfl := Option.some.inj H
    go_enter Tryd.func15, Tryd.ntmps15
    go_wp2_with (first | ((with_reducible refine gate_dst (N := 2) rfl ?_); refine box_event ?hg (N := 2) ?hd (cs := #[.int .i64 a0_0, .slice A0_1 l0_1.length c0_1, .slice A0_2 l0_2.length c0_2]) (t := 25) ?hr ?_; (case hd => rfl); (case hg => rfl); (case hr => first | (go_simp; done) | (go_simp; rfl)); intro gb295 hg w17 hbox hb; have n0_ := Aside0.mk (below_step (by repeat (first | (with_reducible first | exact HB.out | apply below_alloc | apply pw_below_drewN | apply below_drew1) | exact HB.out)) hb); have n1_ := Aside0.mk (hbox); have n2_ := Aside0.mk ((by rw [hg]; exact (below_size (by repeat (first | (with_reducible first | exact HB.out | apply below_alloc | apply pw_below_drewN | apply below_drew1) | exact HB.out))) : w.heap.size ≤ gb295)); have n3_ := Aside0.mk ((by rw [hg]; exact (below_size (by repeat (first | (with_reducible first | exact HB.out | apply below_alloc | apply pw_below_drewN | apply below_drew1) | exact HB.out))) : w.heap.size ≤ gb295)); clear HB; have HB := n0_; have BK295 := n1_; have GW295 := n2_; have GE295 := n3_; clear n0_ n1_ n2_ n3_; clear hb hbox hg) | ((with_reducible refine gate_dst (N := 3) rfl ?_); refine box_event ?hg (N := 3) ?hd (cs := #[.int .i64 a1_0, .slice A1_1 l1_1.length c1_1, .slice A1_2 l1_2.length c1_2]) (t := 25) ?hr ?_; (case hd => rfl); (case hg => rfl); (case hr => first | (go_simp; done) | (go_simp; rfl)); intro gb296 hg w18 hbox hb; have n0_ := Aside0.mk (blk_below (g := gb295) (o := .cells #[.int .i64 a0_0, .slice A0_1 l0_1.length c0_1, .slice A0_2 l0_2.length c0_2] 25 (0, 0)) (by (with_reducible repeat (first | refine blk_drewN ?_ _ | refine blk_drew ?_ | refine blk_alloc ?_ _)); exact BK295.out) hb); have n1_ := Aside0.mk (below_step (by repeat (first | (with_reducible first | exact HB.out | apply below_alloc | apply pw_below_drewN | apply below_drew1 | refine below_set ?_ GE295.out) | exact HB.out)) hb); have n2_ := Aside0.mk (hbox); have n3_ := Aside0.mk ((by rw [hg]; exact (below_size (by repeat (first | (with_reducible first | exact HB.out | apply below_alloc | apply pw_below_drewN | apply below_drew1 | refine below_set ?_ GE295.out) | exact HB.out))) : w.heap.size ≤ gb296)); have n4_ := Aside0.mk ((by rw [hg]; exact (below_size (by repeat (first | (with_reducible first | exact HB.out | apply below_alloc | apply pw_below_drewN | apply below_drew1 | refine below_set ?_ GE295.out) | exact HB.out))) : w.heap.size ≤ gb296)); have n5_ := Aside0.mk ((by rw [hg]; exact Nat.ne_of_lt (blk_lt (g := gb295) (o := .cells #[.int .i64 a0_0, .slice A0_1 l0_1.length c0_1, .slice A0_2 l0_2.length c0_2] 25 (0, 0)) (by (with_reducible repeat (first | refine blk_drewN ?_ _ | refine blk_drew ?_ | refine blk_alloc ?_ _)); exact BK295.out)) : gb295 ≠ gb296)); have n6_ := Aside0.mk ((by rw [hg]; exact Nat.ne_of_gt (blk_lt (g := gb295) (o := .cells #[.int .i64 a0_0, .slice A0_1 l0_1.length c0_1, .slice A0_2 l0_2.length c0_2] 25 (0, 0)) (by (with_reducible repeat (first | refine blk_drewN ?_ _ | refine blk_drew ?_ | refine blk_alloc ?_ _)); exact BK295.out)) : gb296 ≠ gb295)); clear BK295; clear HB; have BK295 := n0_; have HB := n1_; have BK296 := n2_; have GW296 := n3_; have GE296 := n4_; have NB295_296 := n5_; have NB296_295 := n6_; clear n0_ n1_ n2_ n3_ n4_ n5_ n6_; clear hb hbox hg; have hnb19 := NB295_296.out; have hnc19 := NB296_295.out; have hcz20_0 : w18.cell? ⟨gb295, 0, none⟩ = some (.int .i64 a0_0) := (blk_cell BK295.out 0).trans rfl; have hcz20_1 : w18.cell? ⟨gb295, 1, none⟩ = some (.slice A0_1 l0_1.length c0_1) := (blk_cell BK295.out 1).trans rfl; have hcz20_2 : w18.cell? ⟨gb295, 2, none⟩ = some (.slice A0_2 l0_2.length c0_2) := (blk_cell BK295.out 2).trans rfl; have hfz20_0 := blk_frozen BK295.out 0; have hfz20_1 := blk_frozen BK295.out 1; have hfz20_2 := blk_frozen BK295.out 2; have hcz21_0 : w18.cell? ⟨gb296, 0, none⟩ = some (.int .i64 a1_0) := (blk_cell BK296.out 0).trans rfl; have hcz21_1 : w18.cell? ⟨gb296, 1, none⟩ = some (.slice A1_1 l1_1.length c1_1) := (blk_cell BK296.out 1).trans rfl; have hcz21_2 : w18.cell? ⟨gb296, 2, none⟩ = some (.slice A1_2 l1_2.length c1_2) := (blk_cell BK296.out 2).trans rfl; have hfz21_0 := blk_frozen BK296.out 0; have hfz21_1 := blk_frozen BK296.out 1; have hfz21_2 := blk_frozen BK296.out 2))
    go_ret
    exact ⟨by first | rfl | (simp [errW_none, errW_some] <;> rfl) | (simp [*, errW_none, errW_some] <;> rfl), by repeat (first | (with_reducible first | exact HB.out | apply below_alloc | apply pw_below_drewN | apply below_drew1 | refine below_set ?_ GE295.out | refine below_set ?_ GE296.out) | exact HB.out)⟩

end Go.Proofs.YtnkpcnnbeaomnaaDoor.C
end

section
-- Written by a program of this session (a scratch print over hand-made contracts), out of the translation. Not trusted: Lean checks it.
namespace Go.Proofs.YtnkpcnnbeaomnaaDoor.C
open Go.RowKit Go.Proofs.YtnkpcnnbeaomnaaDoorW.PrintWords Go.Proofs.YtnkpcnnbeaomnaaDoorW.PrintLast Go.Proofs.YtnkpcnnbeaomnaaDoorW.PrintMore
attribute [local go_sem] max2_int min2_int max_two min_two max_three min_three max_four min_four   -- for this text's walks alone
set_option linter.unusedVariables false
set_option linter.unusedSimpArgs false

/-! ### aumbryref04_Kids: function 69 -/
def aumbryref04_Kids.l0 : Nat → List (S33) → List (List (S33)) → Int → Option ((List (List (S33))))
  | 0, _, _, _ => none
  | k + 1, x0, x3, x4 => if x4 < (x0.length : Int) then ((aumbryref04_Behind.f k x0 x4).bind fun t319 => (if 0 ≤ x4 then (if x4 ≤ t319 then (if t319 ≤ (x0.length : Int) then ((aumbryref04_Copy.f ((x0.take (t319 : Int).toNat).drop (x4 : Int).toNat)).bind fun t324 => (if x3.length < 5864062014805 then ((aumbryref04_Behind.f k x0 x4).bind fun t330 => (aumbryref04_Kids.l0 k x0 (x3 ++ [t324]) t330)) else (none))) else (none)) else (none)) else (none))) else (some x3)
def aumbryref04_Kids.f (k : Nat) (l0 : List (S33)) : Option ((List (List (S33)))) := aumbryref04_Kids.l0 k l0 ([] : List (List (S33))) 1
set_option maxHeartbeats 8000000 in
set_option maxRecDepth 100000 in
theorem aumbryref04_Kids.calls (k : Nat) (A0 : Option Addr) (c0 : Nat) (l0 : List (S33)) (r : List (List (S33))) (w : World) (hr0 : Kd.C k33 w A0 l0.length l0) (hc0 : l0.length ≤ c0) (h : aumbryref04_Kids.f k l0 = some r) :
    Calls Tryd.prog 69 #[.slice A0 l0.length c0] w fun e w' => ∃ v0_ : Value, e = .returned (v0_) ∧ Kd.S (Kd.slice 33 k33) 23 w' w.heap.size (fun _ => True) v0_ r ∧ Below w.heap.size w w' := by
  have HR0 := Aside0.mk hr0
  have HC0 := Aside0.mk hc0
  clear hr0 hc0
  have HB := Aside0.mk (Below.refl w.heap.size w)
  have H : (aumbryref04_Kids.l0 k l0 ([] : List (List (S33))) 1) = some r := h
  clear h
  have H' := Aside0.mk H
  clear H
  go_enter Tryd.func69, Tryd.ntmps69
  go_wp2
  go_loopg [3, 4] k (fun kq v3 v4 w' => ∃ (x3_1 : List (List (S33))) (x4_1 : Int), v4 = .int .i64 x4_1 ∧ Aside0 (aumbryref04_Kids.l0 kq l0 x3_1 x4_1 = some r) ∧ Aside0 (kq ≤ k) ∧ Aside0 (Kd.S (Kd.slice 33 k33) 23 w' w.heap.size (fun _ => True) v3 x3_1) ∧ Aside0 (Below w.heap.size w w'))
  case atStart => exact ⟨(([] : List (List (S33)))), (1), (by first | rfl | (simp; done) | (simp [*]; done)), H', ⟨Nat.le_refl _⟩, ⟨by first | exact Kd.S_nil _ _ _ _ _ | exact Kd.N_nil _ _ _ _ _ | exact Kd.V_nil _ _ _ _ _ | exact Kd.Q_nil _ _ _ _ _ | exact Kd.R_nil _ _ _ _ _⟩, ⟨by repeat (first | (with_reducible first | exact HB.out | apply below_alloc | apply pw_below_drewN | apply below_drew1) | exact HB.out)⟩⟩
  case round =>
    clear H'
    obtain ⟨x3_1, x4_1, rfl, HA, HK1, HO_3, HB⟩ := hrel
    cases gk with
    | zero => exact absurd HA.out (by simp [aumbryref04_Kids.l0])
    | succ k1 =>
      have H := HA.out
      clear HA
      simp only [aumbryref04_Kids.l0] at H
      by_cases c2 : x4_1 < (l0.length : Int)
      · rw [if_pos c2] at H
        have c2b0 : decide (x4_1 < (l0.length : Int)) = true := decide_eq_true c2
        clear c2
        replace H := Option.bind_eq_some_iff.mp H
        obtain ⟨t319, A30, H⟩ := H
        replace H : (if 0 ≤ x4_1 then (if x4_1 ≤ t319 then (if t319 ≤ (l0.length : Int) then ((aumbryref04_Copy.f ((l0.take (t319 : Int).toNat).drop (x4_1 : Int).toNat)).bind fun t324 => (if x3_1.length < 5864062014805 then ((aumbryref04_Behind.f k1 l0 x4_1).bind fun t330 => (aumbryref04_Kids.l0 k1 l0 (x3_1 ++ [t324]) t330)) else (none))) else (none)) else (none)) else (none)) = some r := H
        have A3 := Aside0.mk A30
        clear A30
        by_cases c4 : 0 ≤ x4_1
        · rw [if_pos c4] at H
          have c4b0 := eq_true c4
          have c4b1 : decide (0 ≤ x4_1) = true := decide_eq_true c4
          clear c4
          by_cases c5 : x4_1 ≤ t319
          · rw [if_pos c5] at H
            have c5b0 := eq_true c5
            have c5b1 : decide (x4_1 ≤ t319) = true := decide_eq_true c5
            clear c5
            by_cases c6 : t319 ≤ (l0.length : Int)
            · rw [if_pos c6] at H
              have c6b0 := eq_true c6
              have c6b1 : decide (t319 ≤ (l0.length : Int)) = true := decide_eq_true c6
              clear c6
              obtain ⟨y320, hy320⟩ : ∃ y_ : List (S33), y_ = ((l0.take (t319 : Int).toNat).drop (x4_1 : Int).toNat) := ⟨_, rfl⟩
              replace H : ((aumbryref04_Copy.f y320).bind fun t324 => (if x3_1.length < 5864062014805 then ((aumbryref04_Behind.f k1 l0 x4_1).bind fun t330 => (aumbryref04_Kids.l0 k1 l0 (x3_1 ++ [t324]) t330)) else (none))) = some r := by first | (rw [hy320]; with_reducible exact H) | (have H2_ := (Option.bind_some _ _).symm.trans H; rw [hy320]; with_reducible exact H2_) | (have H2_ := (Option.bind_some _ _).symm.trans H; with_reducible exact H2_) | with_reducible exact H | (rw [hy320]; exact H) | exact H
              have Ny320 := Aside0.mk hy320
              clear hy320
              replace H := Option.bind_eq_some_iff.mp H
              obtain ⟨t324, A70, H⟩ := H
              replace H : (if x3_1.length < 5864062014805 then ((aumbryref04_Behind.f k1 l0 x4_1).bind fun t330 => (aumbryref04_Kids.l0 k1 l0 (x3_1 ++ [t324]) t330)) else (none)) = some r := H
              have A7 := Aside0.mk A70
              clear A70
              by_cases c8 : x3_1.length < 5864062014805
              · rw [if_pos c8] at H
                have LMc8 := Aside0.mk c8
                clear c8
                obtain ⟨y327, hy327⟩ : ∃ y_ : List (List (S33)), y_ = (x3_1 ++ [t324]) := ⟨_, rfl⟩
                replace H : ((aumbryref04_Behind.f k1 l0 x4_1).bind fun t330 => (aumbryref04_Kids.l0 k1 l0 y327 t330)) = some r := by first | (rw [hy327]; with_reducible exact H) | (have H2_ := (Option.bind_some _ _).symm.trans H; rw [hy327]; with_reducible exact H2_) | (have H2_ := (Option.bind_some _ _).symm.trans H; with_reducible exact H2_) | with_reducible exact H | (rw [hy327]; exact H) | exact H
                have Ny327 := Aside0.mk hy327
                clear hy327
                replace H := Option.bind_eq_some_iff.mp H
                obtain ⟨t330, A90, H⟩ := H
                replace H : (aumbryref04_Kids.l0 k1 l0 y327 t330) = some r := H
                have A9 := Aside0.mk A90
                clear A90
                have H' := Aside0.mk H
                clear H
                go_wp2_with (first | ((with_reducible refine gate_callee (f := 61) rfl ?_); refine goesL_ (some 17) rfl rfl Tryd.func61 (by kernel_rfl) rfl #[.slice A0 l0.length c0, .int .i64 x4_1] rfl (by (try simp only [List.map_toArray, List.map_cons, List.map_nil]); first | done | rfl | (simp only [List.length_drop, List.length_take]; rfl)) ?_; (with_reducible refine (aumbryref04_Behind.calls k1 _ _ l0 x4_1 t319 _ ?side1 ?side2 A3.out).mono ?_); (case side1 => repeat (first | exact (Kd.C_below HR0.out HB.out) | (with_reducible refine Kd.C_alloc ?_ _) | (with_reducible refine Kd.C_drewN ?_ _) | (with_reducible refine Kd.C_drew ?_))); (case side2 => exact HC0.out); rintro e w' ⟨rfl, ⟨nd, rfl⟩⟩; refine ⟨_, rfl, ?_⟩; have q10 : (t319 : Int) ≤ ((l0.length : Int) : Int) := of_decide_eq_true (by first | (with_reducible assumption) | assumption); obtain ⟨i010, hi010, _, hsz10, _⟩ := info_parts info33; have hroom10 : l0.length ≤ c0 := HC0.out; have hC10 : Kd.C k33 _ A0 l0.length l0 := HR0.out; have ql10 : (x4_1 : Int) ≤ (t319 : Int) := of_decide_eq_true (by first | (with_reducible assumption) | assumption); have q010 : (0 : Int) ≤ (x4_1 : Int) := of_decide_eq_true (by first | (with_reducible assumption) | assumption); have hcut10 := cut_mid (P := Tryd.prog) 23 33 .i64 .i64 Tryd.underlying23 hi010 2 hsz10 A0 l0.length c0 x4_1 t319 q010 ql10 q10 hroom10; have hr10 := Kd.C_mid (lo := (x4_1 : Int).toNat) (hi := (t319 : Int).toNat) (c := c0) hC10 (by omega) (by omega) hroom10; obtain ⟨A10, hA10⟩ : ∃ A1, A1 = (if c0 = (x4_1 : Int).toNat then A0 else (A0 : Option Addr).map (·.add ((x4_1 : Int).toNat * 2))) := ⟨_, rfl⟩; obtain ⟨c10, hc10⟩ : ∃ c1, c1 = c0 - (x4_1 : Int).toNat := ⟨_, rfl⟩; have hy10 : y320.length = (t319 : Int).toNat - (x4_1 : Int).toNat := (by rw [Ny320.out, List.length_drop, List.length_take] <;> omega); rw [show ((l0).take (t319 : Int).toNat).drop (x4_1 : Int).toNat = y320 from Ny320.out.symm] at hr10; replace hr10 : Kd.C k33 _ A10 y320.length y320 := (by rw [hA10]; exact hr10); rw [← hy10, ← hA10, ← hc10] at hcut10; have HR323 := Aside0.mk hr10; have HC323 := Aside0.mk (show y320.length ≤ c10 from by rw [hy10, hc10]; exact Nat.sub_le_sub_right (Nat.le_trans (by omega) hroom10) _); clear hr10 hC10 hroom10 hi010 hsz10 hc10; have KY10 := Aside0.mk hy10; have KA10 := Aside0.mk hA10; clear hy10 hA10; replace q10 := eq_true q10) | ((with_reducible refine gate_callee (f := 35) rfl ?_); refine goesL_ (some 19) rfl rfl Tryd.func35 (by kernel_rfl) rfl #[.slice A10 y320.length c10] rfl (by (try simp only [List.map_toArray, List.map_cons, List.map_nil]); first | done | rfl | (simp only [List.length_drop, List.length_take]; rfl)) ?_; (with_reducible refine (aumbryref04_Copy.calls _ _ y320 t324 _ ?side1 ?side2 A7.out).mono ?_); (case side1 => repeat (first | exact (Kd.C_below HR323.out (by repeat (first | (with_reducible first | exact HB.out | apply below_alloc | apply pw_below_drewN | apply below_drew1) | exact HB.out))) | (with_reducible refine Kd.C_alloc ?_ _) | (with_reducible refine Kd.C_drewN ?_ _) | (with_reducible refine Kd.C_drew ?_))); (case side2 => exact HC323.out); rintro e w11 ⟨v325, rfl, ho0, hb⟩; refine ⟨_, rfl, ?_⟩; have n0_ := Aside0.mk (Kd.S_elder' (by (with_reducible repeat (first | apply Kd.S_alloc | apply Kd.S_drewN | apply Kd.S_drew)); exact HO_3.out) (Kd.R_base ho0) hb); have n1_ := Aside0.mk (Kd.R_lower ho0 (below_size (by repeat (first | (with_reducible first | exact HB.out | apply below_alloc | apply pw_below_drewN | apply below_drew1) | exact HB.out)))); have n2_ := Aside0.mk (below_step (by repeat (first | (with_reducible first | exact HB.out | apply below_alloc | apply pw_below_drewN | apply below_drew1) | exact HB.out)) hb); clear HO_3; clear HB; have HO_3 := n0_; have HO326 := n1_; have HB := n2_; clear n0_ n1_ n2_; (try clear hb); (try clear hb2); (try clear hk); (try clear hi); (try clear ho0); obtain ⟨Ao13, co13, eo13⟩ := Kd.R_slice HO326.out; subst eo13) | ((with_reducible refine gate_builtin (b := .append) (xs := #[.tmp 12, .tmp 20]) rfl ?_); at_builtin; refine Kd.S_append (Kd.slice 33 k33) (w0 := w) w.heap.size rfl (.tmp 12) (.tmp 20) 96 23 (.slice none 0 0) 24 rfl Tryd.underlying96 info23 rfl (by decide) (by omega) u3 x3_1 t324 [.slice Ao13 t324.length co13] (fun _ => True) (fun k_ => some k_ = (.slice Ao13 t324.length co13 : Value).ownBlock) rfl rfl ?aP (fun k_ hk_ => ((Kd.R_mono (ok' := fun k_ => ((fun _ => True)) k_ ∧ some k_ ≠ (u3 : Value).ownBlock) (Kd.R_apart' (HO326.out) (Kd.S_typed HO_3.out) (by decide)) (fun k_ hk => ⟨trivial, hk.2⟩))).1 k_ hk_.symm) ?aF ?aO ?aB ?aS ?aL ?_; (case aP => exact Kd.M_row (Kd.R_mono (Kd.R_tight rfl (Kd.R_mono (ok' := fun k_ => ((fun _ => True)) k_ ∧ some k_ ≠ (u3 : Value).ownBlock) (Kd.R_apart' (HO326.out) (Kd.S_typed HO_3.out) (by decide)) (fun k_ hk => ⟨trivial, hk.2⟩))) (fun _ h_ => h_))); (case aB => exact (by repeat (first | (with_reducible first | exact HB.out | apply below_alloc | apply pw_below_drewN | apply below_drew1) | exact HB.out))); (case aF => exact (fun _ _ => trivial)); (case aO => exact (by (with_reducible repeat (first | apply Kd.S_alloc | apply Kd.S_drewN | apply Kd.S_drew)); exact Kd.S_mono HO_3.out (fun k_ hk => ⟨trivial, fun e_ => hk.2 e_⟩))); (case aS => exact (below_size (by repeat (first | (with_reducible first | exact HB.out | apply below_alloc | apply pw_below_drewN | apply below_drew1) | exact HB.out)))); (case aL => have := LMc8.out; omega); intro v328 w12 ho hb hg hat; rw [← Ny327.out] at ho; have n0_ := Aside0.mk (hb); have n1_ := Aside0.mk (ho); clear HB; clear HO_3; clear HO326; have HB := n0_; have HO329 := n1_; clear n0_ n1_; clear ho hb hg hat) | ((with_reducible refine gate_callee (f := 61) rfl ?_); refine goesL_ (some 11) rfl rfl Tryd.func61 (by kernel_rfl) rfl #[.slice A0 l0.length c0, .int .i64 x4_1] rfl (by (try simp only [List.map_toArray, List.map_cons, List.map_nil]); first | done | rfl | (simp only [List.length_drop, List.length_take]; rfl)) ?_; (with_reducible refine (aumbryref04_Behind.calls k1 _ _ l0 x4_1 t330 _ ?side1 ?side2 A9.out).mono ?_); (case side1 => repeat (first | exact (Kd.C_below HR0.out HB.out) | (with_reducible refine Kd.C_alloc ?_ _) | (with_reducible refine Kd.C_drewN ?_ _) | (with_reducible refine Kd.C_drew ?_))); (case side2 => exact HC0.out); rintro e w' ⟨rfl, ⟨nd, rfl⟩⟩; refine ⟨_, rfl, ?_⟩))
                go_roundg k1
                case measure => have := HK1.out; omega
                case rel => exact ⟨(y327), (t330), (by first | rfl | (simp; done) | (simp [*]; done)), H', ⟨by have := HK1.out; omega⟩, ⟨by (with_reducible repeat (first | apply Kd.S_alloc | apply Kd.S_drewN | apply Kd.S_drew)); exact HO329.out⟩, ⟨by repeat (first | (with_reducible first | exact HB.out | apply below_alloc | apply pw_below_drewN | apply below_drew1) | exact HB.out)⟩⟩
              · rw [if_neg c8] at H
                exact absurd H (by simp)
            · rw [if_neg c6] at H
              exact absurd H (by simp)
          · rw [if_neg c5] at H
            exact absurd H (by simp)
        · rw [if_neg c4] at H
          exact absurd H (by simp)
      · rw [if_neg c2] at H
        have c2b0 : decide (x4_1 < (l0.length : Int)) = false := decide_eq_false c2
        clear c2
        obtain rfl := Option.some.inj H
        go_wp2
        go_ret
        exact ⟨_, by first | rfl | (simp [errW_none, errW_some] <;> rfl) | (simp [*, errW_none, errW_some] <;> rfl), by (with_reducible repeat (first | apply Kd.S_alloc | apply Kd.S_drewN | apply Kd.S_drew)); exact HO_3.out, by repeat (first | (with_reducible first | exact HB.out | apply below_alloc | apply pw_below_drewN | apply below_drew1) | exact HB.out)⟩

end Go.Proofs.YtnkpcnnbeaomnaaDoor.C
end

section
-- Written by a program of this session (a scratch print over hand-made contracts), out of the translation. Not trusted: Lean checks it.
namespace Go.Proofs.YtnkpcnnbeaomnaaDoor.C
open Go.RowKit Go.Proofs.YtnkpcnnbeaomnaaDoorW.PrintWords Go.Proofs.YtnkpcnnbeaomnaaDoorW.PrintLast Go.Proofs.YtnkpcnnbeaomnaaDoorW.PrintMore
attribute [local go_sem] max2_int min2_int max_two min_two max_three min_three max_four min_four   -- for this text's walks alone
set_option linter.unusedVariables false
set_option linter.unusedSimpArgs false

/-! ### aumbryref04_Text: function 49 -/
mutual
def aumbryref04_Text.l0 : Nat → ByteArray → List (List (S33)) → Int → Int → Option (ByteArray)
  | 0, _, _, _, _ => none
  | k + 1, x3, x4, x13, x14 => if x14 < x13 then (if x14 = 0 then (if x3.size + 1 ≤ 9223372036854775807 then (if 0 ≤ x14 then (if x14 < (x4.length : Int) then ((aumbryref04_Text.f k (rd_L3 x4 x14)).bind fun t336 => (if (x3 ++ (⟨#[40]⟩ : ByteArray)).size + t336.size ≤ 9223372036854775807 then (aumbryref04_Text.l0 k ((x3 ++ (⟨#[40]⟩ : ByteArray)) ++ t336) x4 x13 (wrap64 (x14 + 1))) else (none))) else (none)) else (none)) else (none)) else (if x3.size + 1 ≤ 9223372036854775807 then (if 0 ≤ x14 then (if x14 < (x4.length : Int) then ((aumbryref04_Text.f k (rd_L3 x4 x14)).bind fun t338 => (if (x3 ++ (⟨#[44]⟩ : ByteArray)).size + t338.size ≤ 9223372036854775807 then (aumbryref04_Text.l0 k ((x3 ++ (⟨#[44]⟩ : ByteArray)) ++ t338) x4 x13 (wrap64 (x14 + 1))) else (none))) else (none)) else (none)) else (none))) else (if (x4.length : Int) > 0 then (if x3.size + 1 ≤ 9223372036854775807 then (some (x3 ++ (⟨#[41]⟩ : ByteArray))) else (none)) else (some x3))
def aumbryref04_Text.f : Nat → List (S33) → Option (ByteArray)
  | 0, _ => none
  | k + 1, l0 => if 0 < (l0.length : Int) then ((aumbryref04_Kids.f k l0).bind fun t332 => (aumbryref04_Text.l0 k ((rd_T33 l0 0).f0) t332 (t332.length : Int) 0)) else (none)
end
set_option maxHeartbeats 8000000 in
set_option maxRecDepth 100000 in
theorem aumbryref04_Text.calls (k : Nat) : ∀ (A0 : Option Addr) (c0 : Nat) (l0 : List (S33)) (r : ByteArray) (w : World) (hr0 : Kd.C k33 w A0 l0.length l0) (hc0 : l0.length ≤ c0) (h : aumbryref04_Text.f k l0 = some r),
    Calls Tryd.prog 49 #[.slice A0 l0.length c0] w fun e w' => e = .returned (.string r) ∧ Below w.heap.size w w' := by
  induction k using Nat.strongRecOn with
  | _ k ih =>
  intro A0 c0 l0 r w hr0 hc0 h
  cases k with
  | zero => exact absurd h (by simp [aumbryref04_Text.f])
  | succ k =>
  simp only [aumbryref04_Text.f] at h
  have HR0 := Aside0.mk hr0
  have HC0 := Aside0.mk hc0
  clear hr0 hc0
  have HB := Aside0.mk (Below.refl w.heap.size w)
  have H : (if 0 < (l0.length : Int) then ((aumbryref04_Kids.f k l0).bind fun t332 => (aumbryref04_Text.l0 k ((rd_T33 l0 0).f0) t332 (t332.length : Int) 0)) else (none)) = some r := h
  clear h
  by_cases c2 : 0 < (l0.length : Int)
  · rw [if_pos c2] at H
    have c2b0 : decide (0 < (l0.length : Int)) = true := decide_eq_true c2
    have c2b1 : decide (0 < l0.length) = true := decide_eq_true (by omega)
    clear c2
    replace H := Option.bind_eq_some_iff.mp H
    obtain ⟨t332, A30, H⟩ := H
    replace H : (aumbryref04_Text.l0 k ((rd_T33 l0 0).f0) t332 (t332.length : Int) 0) = some r := H
    have A3 := Aside0.mk A30
    clear A30
    have H' := Aside0.mk H
    clear H
    have p331 : 0 ≤ (0 : Int) := (by omega)
    have q331 : 0 < (l0.length : Int) := of_decide_eq_true (by first | (with_reducible assumption) | assumption)
    obtain ⟨ad331, e331, hx331_0, hx331_1⟩ := at_T33 HR0.out 0 p331 q331
    cases e331
    have qi331 : (0 < l0.length) = True := eq_true (by omega)
    (try rw [show ((0 : Int)).toNat = 0 from rfl] at hx331_0)
    (try rw [show 0 * 2 = 0 from rfl] at hx331_0)
    (try rw [Addr.add_zero'] at hx331_0)
    (try rw [show ((0 : Int)).toNat = 0 from rfl] at hx331_1)
    (try rw [show 0 * 2 = 0 from rfl] at hx331_1)
    (try rw [Addr.add_zero'] at hx331_1)
    replace p331 := eq_true p331
    replace q331 := eq_true q331
    go_enter Tryd.func49, Tryd.ntmps49
    go_wp2_with (first | ((with_reducible refine gate_callee (f := 69) rfl ?_); refine goesL_ (some 11) rfl rfl Tryd.func69 (by kernel_rfl) rfl #[.slice (some ad331) l0.length c0] rfl (by (try simp only [List.map_toArray, List.map_cons, List.map_nil]); first | done | rfl | (simp only [List.length_drop, List.length_take]; rfl)) ?_; (with_reducible refine (aumbryref04_Kids.calls k _ _ l0 t332 _ ?side1 ?side2 A3.out).mono ?_); (case side1 => repeat (first | exact HR0.out | (with_reducible refine Kd.C_alloc ?_ _) | (with_reducible refine Kd.C_drewN ?_ _) | (with_reducible refine Kd.C_drew ?_))); (case side2 => exact HC0.out); rintro e w4 ⟨v333, rfl, ho0, hb⟩; refine ⟨_, rfl, ?_⟩; have n0_ := Aside0.mk (Kd.S_lower ho0 (below_size (by repeat (first | (with_reducible first | exact HB.out | apply below_alloc | apply pw_below_drewN | apply below_drew1) | exact HB.out)))); have n1_ := Aside0.mk (below_step (by repeat (first | (with_reducible first | exact HB.out | apply below_alloc | apply pw_below_drewN | apply below_drew1) | exact HB.out)) hb); clear HB; have HO334 := n0_; have HB := n1_; clear n0_ n1_; (try clear hb); (try clear hb2); (try clear hk); (try clear hi); (try clear ho0); obtain ⟨Ao5, co5, eo5⟩ := Kd.S_slice HO334.out; subst eo5))
    go_loopg [3, 14] k (fun kq v3 v14 w' => ∃ (x3_1 : ByteArray) (x14_1 : Int), v3 = .string x3_1 ∧ v14 = .int .i64 x14_1 ∧ Aside0 (aumbryref04_Text.l0 kq x3_1 t332 (t332.length : Int) x14_1 = some r) ∧ Aside0 (kq ≤ k) ∧ Aside0 (Kd.S (Kd.slice 33 k33) 23 w' w.heap.size (fun _ => True) (.slice Ao5 t332.length co5) t332) ∧ Aside0 (Below w.heap.size w w'))
    case atStart => exact ⟨((rd_T33 l0 0).f0), (0), (by first | rfl | (simp; done) | (simp [*]; done)), (by first | rfl | (simp; done) | (simp [*]; done)), H', ⟨Nat.le_refl _⟩, ⟨by (with_reducible repeat (first | apply Kd.S_alloc | apply Kd.S_drewN | apply Kd.S_drew)); exact HO334.out⟩, ⟨by repeat (first | (with_reducible first | exact HB.out | apply below_alloc | apply pw_below_drewN | apply below_drew1) | exact HB.out)⟩⟩
    case round =>
      clear H'
      try clear c2
      try clear c2b0
      try clear c2b1
      try clear p2
      try clear p3
      try clear q3
      try clear hx3
      try clear qi3
      try clear c4
      try clear hx331_0
      try clear hx331_1
      try clear p331
      try clear q331
      obtain ⟨x3_1, x14_1, rfl, rfl, HA, HK1, HO_4, HB⟩ := hrel
      cases gk with
      | zero => exact absurd HA.out (by simp [aumbryref04_Text.l0])
      | succ k1 =>
        have H := HA.out
        clear HA
        simp only [aumbryref04_Text.l0] at H
        by_cases c6 : x14_1 < (t332.length : Int)
        · rw [if_pos c6] at H
          have c6b0 : decide (x14_1 < (t332.length : Int)) = true := decide_eq_true c6
          clear c6
          by_cases c7 : x14_1 = 0
          · rw [if_pos c7] at H
            have c7b0 : (x14_1 == 0) = true := beq_iff_eq.mpr c7
            have c7b1 : (x14_1 != 0) = false := bne_eq_false_iff_eq.mpr c7
            clear c7
            by_cases c8 : x3_1.size + 1 ≤ 9223372036854775807
            · rw [if_pos c8] at H
              have c8b0 := eq_true c8
              have c8b1 : decide (x3_1.size + 1 ≤ 9223372036854775807) = true := decide_eq_true c8
              try have c8b2 : (9223372036854775807 < x3_1.size + 1) = False := eq_false (Nat.not_lt.2 c8)
              by_cases c9 : 0 ≤ x14_1
              · rw [if_pos c9] at H
                have c9b0 : decide (0 ≤ x14_1) = true := decide_eq_true c9
                clear c9
                by_cases c10 : x14_1 < (t332.length : Int)
                · rw [if_pos c10] at H
                  have c10b0 : decide (x14_1 < (t332.length : Int)) = true := decide_eq_true c10
                  clear c10
                  replace H := Option.bind_eq_some_iff.mp H
                  obtain ⟨t336, A110, H⟩ := H
                  replace H : (if (x3_1 ++ (⟨#[40]⟩ : ByteArray)).size + t336.size ≤ 9223372036854775807 then (aumbryref04_Text.l0 k1 ((x3_1 ++ (⟨#[40]⟩ : ByteArray)) ++ t336) t332 (t332.length : Int) (wrap64 (x14_1 + 1))) else (none)) = some r := H
                  have A11 := Aside0.mk A110
                  clear A110
                  by_cases c12 : (x3_1 ++ (⟨#[40]⟩ : ByteArray)).size + t336.size ≤ 9223372036854775807
                  · rw [if_pos c12] at H
                    have c12b0 := eq_true c12
                    have c12b1 : decide ((x3_1 ++ (⟨#[40]⟩ : ByteArray)).size + t336.size ≤ 9223372036854775807) = true := decide_eq_true c12
                    try have c12b2 : (9223372036854775807 < (x3_1 ++ (⟨#[40]⟩ : ByteArray)).size + t336.size) = False := eq_false (Nat.not_lt.2 c12)
                    have c12b3 : (9223372036854775807 < x3_1.size + 1 + t336.size) = False := eq_false (Nat.not_lt.2 (by have h_ := c12; rw [ByteArray.size_append] at h_; exact h_))
                    have H' := Aside0.mk H
                    clear H
                    have p335 : 0 ≤ (x14_1 : Int) := of_decide_eq_true (by first | (with_reducible assumption) | assumption)
                    have q335 : x14_1 < (t332.length : Int) := of_decide_eq_true (by first | (with_reducible assumption) | assumption)
                    obtain ⟨ad335, A335_0, c335_0, e335, hx335_0, hl335_0, hi335_0⟩ := at_L3 (Kd.S_reads' HO_4.out).2.2 x14_1 p335 q335
                    cases e335
                    obtain ⟨ce335, hce335, hMe335, hcc335⟩ := Kd.S_get HO_4.out [] x14_1 p335 (by first | exact q335 | exact of_decide_eq_true (by first | (with_reducible assumption) | assumption) | (have e_ := (Kd.S_reads' HO_4.out).1; omega))
                    obtain ⟨ve335_0, rfl, ge335_0⟩ := hMe335
                    have hv335_0 := hcc335 0 _ rfl
                    rw [Nat.add_zero, show ((Kd.slice 33 k33)).sz = 1 from rfl, Nat.mul_one] at hv335_0
                    replace hv335_0 := Option.some.inj (hv335_0.symm.trans hx335_0)
                    rw [hv335_0] at ge335_0
                    have HL335_0 := Aside0.mk (show Kd.R k33 33 _ _ _ _ (rd_L3 t332 x14_1) from ge335_0)
                    clear hv335_0 ge335_0
                    clear hcc335 hce335
                    have HR335_0 := Aside0.mk hi335_0
                    have HC335_0 := Aside0.mk hl335_0
                    clear hi335_0 hl335_0
                    replace p335 := eq_true p335
                    replace q335 := eq_true q335
                    go_wp2_with (first | ((with_reducible refine gate_callee (f := 49) rfl ?_); refine goesL_ (some 28) rfl rfl Tryd.func49 (by kernel_rfl) rfl #[.slice A335_0 (rd_L3 t332 x14_1).length c335_0] rfl (by (try simp only [List.map_toArray, List.map_cons, List.map_nil]); first | done | rfl | (simp only [List.length_drop, List.length_take]; rfl)) ?_; (with_reducible refine (ih k1 (by have := HK1.out; omega) _ _ (rd_L3 t332 x14_1) t336 _ ?side1 ?side2 A11.out).mono ?_); (case side1 => repeat (first | exact (by repeat (first | (with_reducible exact HR335_0.out) | (with_reducible refine Kd.C_alloc ?_ _) | (with_reducible refine Kd.C_drewN ?_ _) | (with_reducible refine Kd.C_drew ?_) | exact HR335_0.out)) | (with_reducible refine Kd.C_alloc ?_ _) | (with_reducible refine Kd.C_drewN ?_ _) | (with_reducible refine Kd.C_drew ?_))); (case side2 => exact HC335_0.out); rintro e w13 ⟨rfl, hb⟩; refine ⟨_, rfl, ?_⟩; have n0_ := Aside0.mk (Kd.S_below (by (with_reducible repeat (first | apply Kd.S_alloc | apply Kd.S_drewN | apply Kd.S_drew)); exact HO_4.out) hb); have n1_ := Aside0.mk (Kd.R_below (by (with_reducible repeat (first | apply Kd.R_alloc | apply Kd.R_drewN | apply Kd.R_drew)); exact HL335_0.out) hb); have n2_ := Aside0.mk (Kd.C_below (by repeat (first | (with_reducible exact HR335_0.out) | (with_reducible refine Kd.C_alloc ?_ _) | (with_reducible refine Kd.C_drewN ?_ _) | (with_reducible refine Kd.C_drew ?_) | exact HR335_0.out)) hb); have n3_ := Aside0.mk (below_step (by repeat (first | (with_reducible first | exact HB.out | apply below_alloc | apply pw_below_drewN | apply below_drew1) | exact HB.out)) hb); clear HO_4; clear HL335_0; clear HR335_0; clear HB; have HO_4 := n0_; have HL335_0 := n1_; have HR335_0 := n2_; have HB := n3_; clear n0_ n1_ n2_ n3_; (try clear hb); (try clear hb2); (try clear hk); (try clear hi)))
                    go_roundg k1
                    case measure => have := HK1.out; omega
                    case rel => exact ⟨((x3_1 ++ (⟨#[40]⟩ : ByteArray)) ++ t336), (wrap64 (x14_1 + 1)), (by first | rfl | (simp; done) | (simp [*]; done)), (by first | rfl | (simp; done) | (simp [*]; done)), H', ⟨by have := HK1.out; omega⟩, ⟨by (with_reducible repeat (first | apply Kd.S_alloc | apply Kd.S_drewN | apply Kd.S_drew)); exact HO_4.out⟩, ⟨by repeat (first | (with_reducible first | exact HB.out | apply below_alloc | apply pw_below_drewN | apply below_drew1) | exact HB.out)⟩⟩
                  · rw [if_neg c12] at H
                    exact absurd H (by simp)
                · rw [if_neg c10] at H
                  exact absurd H (by simp)
              · rw [if_neg c9] at H
                exact absurd H (by simp)
            · rw [if_neg c8] at H
              exact absurd H (by simp)
          · rw [if_neg c7] at H
            have c7b0 : (x14_1 == 0) = false := beq_eq_false_iff_ne.mpr c7
            have c7b1 : (x14_1 != 0) = true := bne_iff_ne.mpr c7
            by_cases c14 : x3_1.size + 1 ≤ 9223372036854775807
            · rw [if_pos c14] at H
              have c14b0 := eq_true c14
              have c14b1 : decide (x3_1.size + 1 ≤ 9223372036854775807) = true := decide_eq_true c14
              try have c14b2 : (9223372036854775807 < x3_1.size + 1) = False := eq_false (Nat.not_lt.2 c14)
              by_cases c15 : 0 ≤ x14_1
              · rw [if_pos c15] at H
                have c15b0 : decide (0 ≤ x14_1) = true := decide_eq_true c15
                clear c15
                by_cases c16 : x14_1 < (t332.length : Int)
                · rw [if_pos c16] at H
                  have c16b0 : decide (x14_1 < (t332.length : Int)) = true := decide_eq_true c16
                  clear c16
                  replace H := Option.bind_eq_some_iff.mp H
                  obtain ⟨t338, A170, H⟩ := H
                  replace H : (if (x3_1 ++ (⟨#[44]⟩ : ByteArray)).size + t338.size ≤ 9223372036854775807 then (aumbryref04_Text.l0 k1 ((x3_1 ++ (⟨#[44]⟩ : ByteArray)) ++ t338) t332 (t332.length : Int) (wrap64 (x14_1 + 1))) else (none)) = some r := H
                  have A17 := Aside0.mk A170
                  clear A170
                  by_cases c18 : (x3_1 ++ (⟨#[44]⟩ : ByteArray)).size + t338.size ≤ 9223372036854775807
                  · rw [if_pos c18] at H
                    have c18b0 := eq_true c18
                    have c18b1 : decide ((x3_1 ++ (⟨#[44]⟩ : ByteArray)).size + t338.size ≤ 9223372036854775807) = true := decide_eq_true c18
                    try have c18b2 : (9223372036854775807 < (x3_1 ++ (⟨#[44]⟩ : ByteArray)).size + t338.size) = False := eq_false (Nat.not_lt.2 c18)
                    have c18b3 : (9223372036854775807 < x3_1.size + 1 + t338.size) = False := eq_false (Nat.not_lt.2 (by have h_ := c18; rw [ByteArray.size_append] at h_; exact h_))
                    have H' := Aside0.mk H
                    clear H
                    have p337 : 0 ≤ (x14_1 : Int) := of_decide_eq_true (by first | (with_reducible assumption) | assumption)
                    have q337 : x14_1 < (t332.length : Int) := of_decide_eq_true (by first | (with_reducible assumption) | assumption)
                    obtain ⟨ad337, A337_0, c337_0, e337, hx337_0, hl337_0, hi337_0⟩ := at_L3 (Kd.S_reads' HO_4.out).2.2 x14_1 p337 q337
                    cases e337
                    obtain ⟨ce337, hce337, hMe337, hcc337⟩ := Kd.S_get HO_4.out [] x14_1 p337 (by first | exact q337 | exact of_decide_eq_true (by first | (with_reducible assumption) | assumption) | (have e_ := (Kd.S_reads' HO_4.out).1; omega))
                    obtain ⟨ve337_0, rfl, ge337_0⟩ := hMe337
                    have hv337_0 := hcc337 0 _ rfl
                    rw [Nat.add_zero, show ((Kd.slice 33 k33)).sz = 1 from rfl, Nat.mul_one] at hv337_0
                    replace hv337_0 := Option.some.inj (hv337_0.symm.trans hx337_0)
                    rw [hv337_0] at ge337_0
                    have HL337_0 := Aside0.mk (show Kd.R k33 33 _ _ _ _ (rd_L3 t332 x14_1) from ge337_0)
                    clear hv337_0 ge337_0
                    clear hcc337 hce337
                    have HR337_0 := Aside0.mk hi337_0
                    have HC337_0 := Aside0.mk hl337_0
                    clear hi337_0 hl337_0
                    replace p337 := eq_true p337
                    replace q337 := eq_true q337
                    go_wp2_with (first | ((with_reducible refine gate_callee (f := 49) rfl ?_); refine goesL_ (some 28) rfl rfl Tryd.func49 (by kernel_rfl) rfl #[.slice A337_0 (rd_L3 t332 x14_1).length c337_0] rfl (by (try simp only [List.map_toArray, List.map_cons, List.map_nil]); first | done | rfl | (simp only [List.length_drop, List.length_take]; rfl)) ?_; (with_reducible refine (ih k1 (by have := HK1.out; omega) _ _ (rd_L3 t332 x14_1) t338 _ ?side1 ?side2 A17.out).mono ?_); (case side1 => repeat (first | exact (by repeat (first | (with_reducible exact HR337_0.out) | (with_reducible refine Kd.C_alloc ?_ _) | (with_reducible refine Kd.C_drewN ?_ _) | (with_reducible refine Kd.C_drew ?_) | exact HR337_0.out)) | (with_reducible refine Kd.C_alloc ?_ _) | (with_reducible refine Kd.C_drewN ?_ _) | (with_reducible refine Kd.C_drew ?_))); (case side2 => exact HC337_0.out); rintro e w19 ⟨rfl, hb⟩; refine ⟨_, rfl, ?_⟩; have n0_ := Aside0.mk (Kd.S_below (by (with_reducible repeat (first | apply Kd.S_alloc | apply Kd.S_drewN | apply Kd.S_drew)); exact HO_4.out) hb); have n1_ := Aside0.mk (Kd.R_below (by (with_reducible repeat (first | apply Kd.R_alloc | apply Kd.R_drewN | apply Kd.R_drew)); exact HL337_0.out) hb); have n2_ := Aside0.mk (Kd.C_below (by repeat (first | (with_reducible exact HR337_0.out) | (with_reducible refine Kd.C_alloc ?_ _) | (with_reducible refine Kd.C_drewN ?_ _) | (with_reducible refine Kd.C_drew ?_) | exact HR337_0.out)) hb); have n3_ := Aside0.mk (below_step (by repeat (first | (with_reducible first | exact HB.out | apply below_alloc | apply pw_below_drewN | apply below_drew1) | exact HB.out)) hb); clear HO_4; clear HL337_0; clear HR337_0; clear HB; have HO_4 := n0_; have HL337_0 := n1_; have HR337_0 := n2_; have HB := n3_; clear n0_ n1_ n2_ n3_; (try clear hb); (try clear hb2); (try clear hk); (try clear hi)))
                    go_roundg k1
                    case measure => have := HK1.out; omega
                    case rel => exact ⟨((x3_1 ++ (⟨#[44]⟩ : ByteArray)) ++ t338), (wrap64 (x14_1 + 1)), (by first | rfl | (simp; done) | (simp [*]; done)), (by first | rfl | (simp; done) | (simp [*]; done)), H', ⟨by have := HK1.out; omega⟩, ⟨by (with_reducible repeat (first | apply Kd.S_alloc | apply Kd.S_drewN | apply Kd.S_drew)); exact HO_4.out⟩, ⟨by repeat (first | (with_reducible first | exact HB.out | apply below_alloc | apply pw_below_drewN | apply below_drew1) | exact HB.out)⟩⟩
                  · rw [if_neg c18] at H
                    exact absurd H (by simp)
                · rw [if_neg c16] at H
                  exact absurd H (by simp)
              · rw [if_neg c15] at H
                exact absurd H (by simp)
            · rw [if_neg c14] at H
              exact absurd H (by simp)
        · rw [if_neg c6] at H
          have c6b0 : decide (x14_1 < (t332.length : Int)) = false := decide_eq_false c6
          clear c6
          by_cases c20 : (t332.length : Int) > 0
          · rw [if_pos c20] at H
            have c20b0 : decide (0 < (t332.length : Int)) = true := decide_eq_true c20
            have c20b1 : decide (0 < t332.length) = true := decide_eq_true (by omega)
            clear c20
            by_cases c21 : x3_1.size + 1 ≤ 9223372036854775807
            · rw [if_pos c21] at H
              have c21b0 := eq_true c21
              have c21b1 : decide (x3_1.size + 1 ≤ 9223372036854775807) = true := decide_eq_true c21
              try have c21b2 : (9223372036854775807 < x3_1.size + 1) = False := eq_false (Nat.not_lt.2 c21)
              obtain rfl := Option.some.inj H
              go_wp2
              go_ret
              exact ⟨by first | rfl | (simp [errW_none, errW_some] <;> rfl) | (simp [*, errW_none, errW_some] <;> rfl), by repeat (first | (with_reducible first | exact HB.out | apply below_alloc | apply pw_below_drewN | apply below_drew1) | exact HB.out)⟩
            · rw [if_neg c21] at H
              exact absurd H (by simp)
          · rw [if_neg c20] at H
            have c20b0 : decide (0 < (t332.length : Int)) = false := decide_eq_false c20
            have c20b1 : decide (0 < t332.length) = false := decide_eq_false (by omega)
            clear c20
            obtain rfl := Option.some.inj H
            go_wp2
            go_ret
            exact ⟨by first | rfl | (simp [errW_none, errW_some] <;> rfl) | (simp [*, errW_none, errW_some] <;> rfl), by repeat (first | (with_reducible first | exact HB.out | apply below_alloc | apply pw_below_drewN | apply below_drew1) | exact HB.out)⟩
  · rw [if_neg c2] at H
    exact absurd H (by simp)

end Go.Proofs.YtnkpcnnbeaomnaaDoor.C
end
