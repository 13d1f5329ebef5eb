import Derived.Test.YtnkpcnnbeaomnaaMO6
import Derived.Maps.OwnSet

section
-- Written by a program of this session (a scratch print over hand-made contracts), out of the translation. Not trusted: Lean checks it.
namespace Go.Proofs.Ytnkpcnnbeaomnaa.C
open Go.RowKit Go.Proofs.YtnkpcnnbeaomnaaW.PrintWords Go.Proofs.YtnkpcnnbeaomnaaW.PrintLast Go.Proofs.YtnkpcnnbeaomnaaW.PrintMore
attribute [local go_sem] max2_int min2_int max_two min_two max_three min_three max_four min_four   -- for this text's walks alone
set_option linter.unusedVariables false
set_option linter.unusedSimpArgs false

/-! ### term_Check: function 33 -/
def term_Check.l0 : Nat → List (S28) → List (S28) → Int → Int → Option (Int)
  | 0, _, _, _, _ => none
  | k + 1, x0, x9, x10, x11 => if x11 < x10 then (if 0 ≤ x11 then (if x11 < (x9.length : Int) then ((term_cell.f k ((rd_T28 x9 x11).f0) ((rd_T28 x9 x11).f1)).bind fun t110 => (if t110 = 0 then (term_Check.l0 k x0 x9 x10 (wrap64 (x11 + 1))) else (some t110))) else (none)) else (none)) else ((term_behind.f k x0 0).bind fun t111 => (if t111 = (x0.length : Int) then (some 0) else (some 3)))
def term_Check.f (k : Nat) (l0 : List (S28)) : Option (Int) := if (l0.length : Int) > 64 then (some 6) else (term_Check.l0 k l0 l0 (l0.length : Int) 0)
theorem term_Check.mono_l : ∀ k, (∀ y0 y1 y2 y3, LeO (term_Check.l0 k y0 y1 y2 y3) (term_Check.l0 (k + 1) y0 y1 y2 y3))
  | 0 => fun _ _ _ _ r h => by simp [term_Check.l0] at h
  | k + 1 => by
    have ih0 := term_Check.mono_l k
    · intro y0 y1 y2 y3
      unfold term_Check.l0
      repeat' first
      | (with_reducible exact ih0 _ _ _ _)
      | (with_reducible exact term_behind.mono _ _ _)
      | (with_reducible exact term_cell.mono _ _ _)
      | (with_reducible exact LeO.refl _)
      | (with_reducible exact LeO.none _)
      | (with_reducible refine LeO.ite ?_ ?_)
      | (with_reducible refine LeO.bind ?_ (fun _ => ?_))
      | exact ih0 _ _ _ _
      | exact term_behind.mono _ _ _
      | exact term_cell.mono _ _ _
      | exact LeO.none _
      | refine LeO.ite ?_ ?_
      | refine LeO.bind ?_ (fun _ => ?_)
theorem term_Check.mono : ∀ a0 k, LeO (term_Check.f k a0) (term_Check.f (k + 1) a0) := by
  intro a0 k
  have ih0 := term_Check.mono_l k
  unfold term_Check.f
  repeat' first
      | (with_reducible exact ih0 _ _ _ _)
      | (with_reducible exact term_behind.mono _ _ _)
      | (with_reducible exact term_cell.mono _ _ _)
      | (with_reducible exact LeO.refl _)
      | (with_reducible exact LeO.none _)
      | (with_reducible refine LeO.ite ?_ ?_)
      | (with_reducible refine LeO.bind ?_ (fun _ => ?_))
      | exact ih0 _ _ _ _
      | exact term_behind.mono _ _ _
      | exact term_cell.mono _ _ _
      | exact LeO.none _
      | refine LeO.ite ?_ ?_
      | refine LeO.bind ?_ (fun _ => ?_)
set_option maxHeartbeats 8000000 in
set_option maxRecDepth 100000 in
theorem term_Check.calls (k : Nat) (A0 : Option Addr) (c0 : Nat) (l0 : List (S28)) (r : Int) (w : World) (hr0 : Kd.C k28 w A0 l0.length l0) (hc0 : l0.length ≤ c0) (h : term_Check.f k l0 = some r) :
    Calls Try.prog 33 #[.slice A0 l0.length c0] w fun e w' => e = .returned (.int .i64 r) ∧ Below w.heap.size w w' := by
  have hu28 := Try.underlying28
  have HR0 := Aside0.mk hr0
  have HC0 := Aside0.mk hc0
  clear hr0 hc0
  have HB := Aside0.mk (Below.refl w.heap.size w)
  have H : (if (l0.length : Int) > 64 then (some 6) else (term_Check.l0 k l0 l0 (l0.length : Int) 0)) = some r := h
  clear h
  by_cases c2 : (l0.length : Int) > 64
  · rw [if_pos c2] at H
    have c2b0 : decide (64 < (l0.length : Int)) = true := decide_eq_true c2
    have c2b1 : decide (64 < l0.length) = true := decide_eq_true (by omega)
    clear c2
    obtain rfl := Option.some.inj H
    go_enter Try.func33, Try.ntmps33
    go_wp2
    go_ret
    exact ⟨by first | rfl | (simp [errW_none, errW_some] <;> rfl) | (simp [*, errW_none, errW_some] <;> rfl), by repeat (first | (with_reducible first | exact HB.out | apply below_alloc | apply pw_below_drewN | apply below_drew1) | exact HB.out)⟩
  · rw [if_neg c2] at H
    have c2b0 : decide (64 < (l0.length : Int)) = false := decide_eq_false c2
    have c2b1 : decide (64 < l0.length) = false := decide_eq_false (by omega)
    clear c2
    have H' := Aside0.mk H
    clear H
    go_enter Try.func33, Try.ntmps33
    go_wp2
    go_loopg [11] k (fun kq v11 w' => ∃ (x11_1 : Int), v11 = .int .i64 x11_1 ∧ Aside0 (term_Check.l0 kq l0 l0 (l0.length : Int) x11_1 = some r) ∧ Aside0 (kq ≤ k) ∧ Aside0 (Below w.heap.size w w'))
    case atStart => exact ⟨(0), (by first | rfl | (simp; done) | (simp [*]; done)), H', ⟨Nat.le_refl _⟩, ⟨by repeat (first | (with_reducible first | exact HB.out | apply below_alloc | apply pw_below_drewN | apply below_drew1) | exact HB.out)⟩⟩
    case round =>
      clear H'
      try clear c2
      try clear c2b0
      try clear c2b1
      try clear p2
      obtain ⟨x11_1, rfl, HA, HK1, HB⟩ := hrel
      cases gk with
      | zero => exact absurd HA.out (by simp [term_Check.l0])
      | succ k1 =>
        have H := HA.out
        clear HA
        simp only [term_Check.l0] at H
        by_cases c3 : x11_1 < (l0.length : Int)
        · rw [if_pos c3] at H
          have c3b0 : decide (x11_1 < (l0.length : Int)) = true := decide_eq_true c3
          clear c3
          by_cases c4 : 0 ≤ x11_1
          · rw [if_pos c4] at H
            have c4b0 : decide (0 ≤ x11_1) = true := decide_eq_true c4
            clear c4
            by_cases c5 : x11_1 < (l0.length : Int)
            · rw [if_pos c5] at H
              have c5b0 : decide (x11_1 < (l0.length : Int)) = true := decide_eq_true c5
              clear c5
              replace H := Option.bind_eq_some_iff.mp H
              obtain ⟨t110, A60, H⟩ := H
              replace H : (if t110 = 0 then (term_Check.l0 k1 l0 l0 (l0.length : Int) (wrap64 (x11_1 + 1))) else (some t110)) = some r := H
              have A6 := Aside0.mk A60
              clear A60
              by_cases c7 : t110 = 0
              · rw [if_pos c7] at H
                have c7b0 : (t110 == 0) = true := beq_iff_eq.mpr c7
                have c7b1 : (t110 != 0) = false := bne_eq_false_iff_eq.mpr c7
                clear c7
                have H' := Aside0.mk H
                clear H
                have p108 : 0 ≤ (x11_1 : Int) := of_decide_eq_true (by first | (with_reducible assumption) | assumption)
                have q108 : x11_1 < (l0.length : Int) := of_decide_eq_true (by first | (with_reducible assumption) | assumption)
                obtain ⟨ad108, e108, hx108_0, hx108_1⟩ := at_T28 HR0.out x11_1 p108 q108
                cases e108
                replace hx108_0 := (HB.out.cell (World.block_lt_of_cell? w _ hx108_0)).trans hx108_0
                replace hx108_1 := (HB.out.cell (World.block_lt_of_cell? w _ hx108_1)).trans hx108_1
                replace p108 := eq_true p108
                replace q108 := eq_true q108
                go_wp2_with (first | ((with_reducible refine gate_dst (N := 4) rfl ?_); refine box_event ?hg (N := 4) ?hd (cs := #[.string (⟨#[]⟩ : ByteArray), .int .i64 0]) (t := 28) ?hr ?_; (case hd => rfl); (case hg => rfl); (case hr => first | (go_simp; done) | (go_simp; rfl)); intro gb109 hg w8 hbox hb; have n0_ := Aside0.mk (below_step (by repeat (first | (with_reducible first | exact HB.out | apply below_alloc | apply pw_below_drewN | apply below_drew1) | exact HB.out)) hb); have n1_ := Aside0.mk (hbox); have n2_ := Aside0.mk ((by rw [hg]; exact (below_size (by repeat (first | (with_reducible first | exact HB.out | apply below_alloc | apply pw_below_drewN | apply below_drew1) | exact HB.out))) : w.heap.size ≤ gb109)); have n3_ := Aside0.mk ((by rw [hg]; exact (below_size (by repeat (first | (with_reducible first | exact HB.out | apply below_alloc | apply pw_below_drewN | apply below_drew1) | exact HB.out))) : w.heap.size ≤ gb109)); clear HB; have HB := n0_; have BK109 := n1_; have GW109 := n2_; have GE109 := n3_; clear n0_ n1_ n2_ n3_; clear hb hbox hg; have hcz9_0 : w8.cell? ⟨gb109, 0, none⟩ = some (.string (⟨#[]⟩ : ByteArray)) := (blk_cell BK109.out 0).trans rfl; have hcz9_1 : w8.cell? ⟨gb109, 1, none⟩ = some (.int .i64 0) := (blk_cell BK109.out 1).trans rfl; have hfz9_0 := blk_frozen BK109.out 0; have hfz9_1 := blk_frozen BK109.out 1) | ((with_reducible refine gate_callee (f := 53) rfl ?_); refine goesL_ (some 16) rfl rfl Try.func53 (by kernel_rfl) rfl #[.agg #[.string ((rd_T28 l0 x11_1).f0), .int .i64 ((rd_T28 l0 x11_1).f1)]] rfl (by (try simp only [List.map_toArray, List.map_cons, List.map_nil]); first | done | rfl | (simp only [List.length_drop, List.length_take]; rfl)) ?_; (with_reducible refine (term_cell.calls k1 ((rd_T28 l0 x11_1).f0) ((rd_T28 l0 x11_1).f1) t110 _ A6.out).mono ?_); rintro e w10 ⟨rfl, hb⟩; refine ⟨_, rfl, ?_⟩; have n0_ := Aside0.mk (blk_below (g := gb109) (o := .cells #[.string ((rd_T28 l0 x11_1).f0), .int .i64 ((rd_T28 l0 x11_1).f1)] 28 (0, 0)) (by (with_reducible repeat (first | refine blk_drewN ?_ _ | refine blk_drew ?_ | refine blk_alloc ?_ _)); refine blk_put (cs := #[.string ((rd_T28 l0 x11_1).f0), .int .i64 0]) ?_ 1 _ rfl; (with_reducible repeat (first | refine blk_drewN ?_ _ | refine blk_drew ?_ | refine blk_alloc ?_ _)); refine blk_put (cs := #[.string (⟨#[]⟩ : ByteArray), .int .i64 0]) ?_ 0 _ rfl; (with_reducible repeat (first | refine blk_drewN ?_ _ | refine blk_drew ?_ | refine blk_alloc ?_ _)); exact BK109.out) hb); have n1_ := Aside0.mk (below_step (by repeat (first | (with_reducible first | exact HB.out | apply below_alloc | apply pw_below_drewN | apply below_drew1 | refine below_set ?_ GE109.out) | exact HB.out)) hb); clear BK109; clear HB; have BK109 := n0_; have HB := n1_; clear n0_ n1_; (try clear hb); (try clear hb2); (try clear hk); (try clear hi)))
                go_roundg k1
                case measure => have := HK1.out; omega
                case rel => exact ⟨(wrap64 (x11_1 + 1)), (by first | rfl | (simp; done) | (simp [*]; done)), H', ⟨by have := HK1.out; omega⟩, ⟨by repeat (first | (with_reducible first | exact HB.out | apply below_alloc | apply pw_below_drewN | apply below_drew1 | refine below_set ?_ GE109.out) | exact HB.out)⟩⟩
              · rw [if_neg c7] at H
                have c7b0 : (t110 == 0) = false := beq_eq_false_iff_ne.mpr c7
                have c7b1 : (t110 != 0) = true := bne_iff_ne.mpr c7
                obtain rfl := Option.some.inj H
                have p108 : 0 ≤ (x11_1 : Int) := of_decide_eq_true (by first | (with_reducible assumption) | assumption)
                have q108 : x11_1 < (l0.length : Int) := of_decide_eq_true (by first | (with_reducible assumption) | assumption)
                obtain ⟨ad108, e108, hx108_0, hx108_1⟩ := at_T28 HR0.out x11_1 p108 q108
                cases e108
                replace hx108_0 := (HB.out.cell (World.block_lt_of_cell? w _ hx108_0)).trans hx108_0
                replace hx108_1 := (HB.out.cell (World.block_lt_of_cell? w _ hx108_1)).trans hx108_1
                replace p108 := eq_true p108
                replace q108 := eq_true q108
                go_wp2_with (first | ((with_reducible refine gate_dst (N := 4) rfl ?_); refine box_event ?hg (N := 4) ?hd (cs := #[.string (⟨#[]⟩ : ByteArray), .int .i64 0]) (t := 28) ?hr ?_; (case hd => rfl); (case hg => rfl); (case hr => first | (go_simp; done) | (go_simp; rfl)); intro gb109 hg w11 hbox hb; have n0_ := Aside0.mk (below_step (by repeat (first | (with_reducible first | exact HB.out | apply below_alloc | apply pw_below_drewN | apply below_drew1) | exact HB.out)) hb); have n1_ := Aside0.mk (hbox); have n2_ := Aside0.mk ((by rw [hg]; exact (below_size (by repeat (first | (with_reducible first | exact HB.out | apply below_alloc | apply pw_below_drewN | apply below_drew1) | exact HB.out))) : w.heap.size ≤ gb109)); have n3_ := Aside0.mk ((by rw [hg]; exact (below_size (by repeat (first | (with_reducible first | exact HB.out | apply below_alloc | apply pw_below_drewN | apply below_drew1) | exact HB.out))) : w.heap.size ≤ gb109)); clear HB; have HB := n0_; have BK109 := n1_; have GW109 := n2_; have GE109 := n3_; clear n0_ n1_ n2_ n3_; clear hb hbox hg; have hcz12_0 : w11.cell? ⟨gb109, 0, none⟩ = some (.string (⟨#[]⟩ : ByteArray)) := (blk_cell BK109.out 0).trans rfl; have hcz12_1 : w11.cell? ⟨gb109, 1, none⟩ = some (.int .i64 0) := (blk_cell BK109.out 1).trans rfl; have hfz12_0 := blk_frozen BK109.out 0; have hfz12_1 := blk_frozen BK109.out 1) | ((with_reducible refine gate_callee (f := 53) rfl ?_); refine goesL_ (some 16) rfl rfl Try.func53 (by kernel_rfl) rfl #[.agg #[.string ((rd_T28 l0 x11_1).f0), .int .i64 ((rd_T28 l0 x11_1).f1)]] rfl (by (try simp only [List.map_toArray, List.map_cons, List.map_nil]); first | done | rfl | (simp only [List.length_drop, List.length_take]; rfl)) ?_; (with_reducible refine (term_cell.calls k1 ((rd_T28 l0 x11_1).f0) ((rd_T28 l0 x11_1).f1) t110 _ A6.out).mono ?_); rintro e w13 ⟨rfl, hb⟩; refine ⟨_, rfl, ?_⟩; have n0_ := Aside0.mk (blk_below (g := gb109) (o := .cells #[.string ((rd_T28 l0 x11_1).f0), .int .i64 ((rd_T28 l0 x11_1).f1)] 28 (0, 0)) (by (with_reducible repeat (first | refine blk_drewN ?_ _ | refine blk_drew ?_ | refine blk_alloc ?_ _)); refine blk_put (cs := #[.string ((rd_T28 l0 x11_1).f0), .int .i64 0]) ?_ 1 _ rfl; (with_reducible repeat (first | refine blk_drewN ?_ _ | refine blk_drew ?_ | refine blk_alloc ?_ _)); refine blk_put (cs := #[.string (⟨#[]⟩ : ByteArray), .int .i64 0]) ?_ 0 _ rfl; (with_reducible repeat (first | refine blk_drewN ?_ _ | refine blk_drew ?_ | refine blk_alloc ?_ _)); exact BK109.out) hb); have n1_ := Aside0.mk (below_step (by repeat (first | (with_reducible first | exact HB.out | apply below_alloc | apply pw_below_drewN | apply below_drew1 | refine below_set ?_ GE109.out) | exact HB.out)) hb); clear BK109; clear HB; have BK109 := n0_; have HB := n1_; clear n0_ n1_; (try clear hb); (try clear hb2); (try clear hk); (try clear hi)))
                go_ret
                exact ⟨by first | rfl | (simp [errW_none, errW_some] <;> rfl) | (simp [*, errW_none, errW_some] <;> rfl), by repeat (first | (with_reducible first | exact HB.out | apply below_alloc | apply pw_below_drewN | apply below_drew1 | refine below_set ?_ GE109.out) | exact HB.out)⟩
            · rw [if_neg c5] at H
              exact absurd H (by simp)
          · rw [if_neg c4] at H
            exact absurd H (by simp)
        · rw [if_neg c3] at H
          have c3b0 : decide (x11_1 < (l0.length : Int)) = false := decide_eq_false c3
          clear c3
          replace H := Option.bind_eq_some_iff.mp H
          obtain ⟨t111, A140, H⟩ := H
          replace H : (if t111 = (l0.length : Int) then (some 0) else (some 3)) = some r := H
          have A14 := Aside0.mk A140
          clear A140
          by_cases c15 : t111 = (l0.length : Int)
          · rw [if_pos c15] at H
            have c15b0 : (t111 == (l0.length : Int)) = true := beq_iff_eq.mpr c15
            have c15b1 : (t111 != (l0.length : Int)) = false := bne_eq_false_iff_eq.mpr c15
            clear c15
            obtain rfl := Option.some.inj H
            go_wp2_with (first | ((with_reducible refine gate_callee (f := 46) rfl ?_); refine goesL_ (some 22) rfl rfl Try.func46 (by kernel_rfl) rfl #[.slice A0 l0.length c0, .int .i64 0] rfl (by (try simp only [List.map_toArray, List.map_cons, List.map_nil]); first | done | rfl | (simp only [List.length_drop, List.length_take]; rfl)) ?_; (with_reducible refine (term_behind.calls k1 _ _ l0 0 t111 _ ?side1 ?side2 A14.out).mono ?_); (case side1 => repeat (first | exact (Kd.C_below HR0.out HB.out) | (with_reducible refine Kd.C_alloc ?_ _) | (with_reducible refine Kd.C_drewN ?_ _) | (with_reducible refine Kd.C_drew ?_))); (case side2 => exact HC0.out); rintro e w' ⟨rfl, ⟨nd, rfl⟩⟩; refine ⟨_, rfl, ?_⟩))
            go_ret
            exact ⟨by first | rfl | (simp [errW_none, errW_some] <;> rfl) | (simp [*, errW_none, errW_some] <;> rfl), by repeat (first | (with_reducible first | exact HB.out | apply below_alloc | apply pw_below_drewN | apply below_drew1) | exact HB.out)⟩
          · rw [if_neg c15] at H
            have c15b0 : (t111 == (l0.length : Int)) = false := beq_eq_false_iff_ne.mpr c15
            have c15b1 : (t111 != (l0.length : Int)) = true := bne_iff_ne.mpr c15
            obtain rfl := Option.some.inj H
            go_wp2_with (first | ((with_reducible refine gate_callee (f := 46) rfl ?_); refine goesL_ (some 22) rfl rfl Try.func46 (by kernel_rfl) rfl #[.slice A0 l0.length c0, .int .i64 0] rfl (by (try simp only [List.map_toArray, List.map_cons, List.map_nil]); first | done | rfl | (simp only [List.length_drop, List.length_take]; rfl)) ?_; (with_reducible refine (term_behind.calls k1 _ _ l0 0 t111 _ ?side1 ?side2 A14.out).mono ?_); (case side1 => repeat (first | exact (Kd.C_below HR0.out HB.out) | (with_reducible refine Kd.C_alloc ?_ _) | (with_reducible refine Kd.C_drewN ?_ _) | (with_reducible refine Kd.C_drew ?_))); (case side2 => exact HC0.out); rintro e w' ⟨rfl, ⟨nd, rfl⟩⟩; refine ⟨_, rfl, ?_⟩))
            go_ret
            exact ⟨by first | rfl | (simp [errW_none, errW_some] <;> rfl) | (simp [*, errW_none, errW_some] <;> rfl), by repeat (first | (with_reducible first | exact HB.out | apply below_alloc | apply pw_below_drewN | apply below_drew1) | exact HB.out)⟩

end Go.Proofs.Ytnkpcnnbeaomnaa.C
end

section
-- Written by a program of this session (a scratch print over hand-made contracts), out of the translation. Not trusted: Lean checks it.
namespace Go.Proofs.Ytnkpcnnbeaomnaa.C
open Go.RowKit Go.Proofs.YtnkpcnnbeaomnaaW.PrintWords Go.Proofs.YtnkpcnnbeaomnaaW.PrintLast Go.Proofs.YtnkpcnnbeaomnaaW.PrintMore
attribute [local go_sem] max2_int min2_int max_two min_two max_three min_three max_four min_four   -- for this text's walks alone
set_option linter.unusedVariables false
set_option linter.unusedSimpArgs false

/-! ### match_variable: function 34 -/
def match_variable.f (k : Nat) (a0_0 : ByteArray) (a0_1 : Int) : Option (Bool) := (name_Kind.f k a0_0).bind fun t113 => (some (t113 == 2))
theorem match_variable.mono : ∀ a0 a1 k, LeO (match_variable.f k a0 a1) (match_variable.f (k + 1) a0 a1) := by
  intro a0 a1 k
  unfold match_variable.f
  repeat' first
      | (with_reducible exact name_Kind.mono _ _)
      | (with_reducible exact LeO.refl _)
      | (with_reducible exact LeO.none _)
      | (with_reducible refine LeO.ite ?_ ?_)
      | (with_reducible refine LeO.bind ?_ (fun _ => ?_))
      | exact name_Kind.mono _ _
      | exact LeO.none _
      | refine LeO.ite ?_ ?_
      | refine LeO.bind ?_ (fun _ => ?_)
set_option maxHeartbeats 8000000 in
set_option maxRecDepth 100000 in
theorem match_variable.calls (k : Nat) (a0_0 : ByteArray) (a0_1 : Int) (r : Bool) (w : World) (h : match_variable.f k a0_0 a0_1 = some r) :
    Calls Try.prog 34 #[.agg #[.string a0_0, .int .i64 a0_1]] w fun e w' => e = .returned (.bool r) ∧ Below w.heap.size w w' := by
  have hu28 := Try.underlying28
  have HB := Aside0.mk (Below.refl w.heap.size w)
  have H : ((name_Kind.f k a0_0).bind fun t113 => (some (t113 == 2))) = some r := h
  clear h
  replace H := Option.bind_eq_some_iff.mp H
  obtain ⟨t113, A20, H⟩ := H
  replace H : (some (t113 == 2)) = some r := H
  have A2 := Aside0.mk A20
  clear A20
  obtain rfl := Option.some.inj H
  go_enter Try.func34, Try.ntmps34
  go_wp2_with (first | ((with_reducible refine gate_dst (N := 1) rfl ?_); refine box_event ?hg (N := 1) ?hd (cs := #[.string a0_0, .int .i64 a0_1]) (t := 28) ?hr ?_; (case hd => rfl); (case hg => rfl); (case hr => first | (go_simp; done) | (go_simp; rfl)); intro gb112 hg w3 hbox hb; have n0_ := Aside0.mk (below_step (by repeat (first | (with_reducible first | exact HB.out | apply below_alloc | apply pw_below_drewN | apply below_drew1) | exact HB.out)) hb); have n1_ := Aside0.mk (hbox); have n2_ := Aside0.mk ((by rw [hg]; exact (below_size (by repeat (first | (with_reducible first | exact HB.out | apply below_alloc | apply pw_below_drewN | apply below_drew1) | exact HB.out))) : w.heap.size ≤ gb112)); have n3_ := Aside0.mk ((by rw [hg]; exact (below_size (by repeat (first | (with_reducible first | exact HB.out | apply below_alloc | apply pw_below_drewN | apply below_drew1) | exact HB.out))) : w.heap.size ≤ gb112)); clear HB; have HB := n0_; have BK112 := n1_; have GW112 := n2_; have GE112 := n3_; clear n0_ n1_ n2_ n3_; clear hb hbox hg; have hcz4_0 : w3.cell? ⟨gb112, 0, none⟩ = some (.string a0_0) := (blk_cell BK112.out 0).trans rfl; have hcz4_1 : w3.cell? ⟨gb112, 1, none⟩ = some (.int .i64 a0_1) := (blk_cell BK112.out 1).trans rfl; have hfz4_0 := blk_frozen BK112.out 0; have hfz4_1 := blk_frozen BK112.out 1) | ((with_reducible refine gate_callee (f := 38) rfl ?_); refine goesL_ (some 5) rfl rfl Try.func38 (by kernel_rfl) rfl #[.string a0_0] rfl (by (try simp only [List.map_toArray, List.map_cons, List.map_nil]); first | done | rfl | (simp only [List.length_drop, List.length_take]; rfl)) ?_; (with_reducible refine (name_Kind.calls k a0_0 t113 _ A2.out).mono ?_); rintro e w' ⟨rfl, ⟨nd, rfl⟩⟩; refine ⟨_, rfl, ?_⟩))
  go_ret
  exact ⟨by first | rfl | (simp [errW_none, errW_some] <;> rfl) | (simp [*, errW_none, errW_some] <;> rfl), by repeat (first | (with_reducible first | exact HB.out | apply below_alloc | apply pw_below_drewN | apply below_drew1 | refine below_set ?_ GE112.out) | exact HB.out)⟩

end Go.Proofs.Ytnkpcnnbeaomnaa.C
end

section
/- A map from names to places, as match.Match and match.Fill keep one: what it holds is told by the list of the binds that were laid in. Conditions: names of at most eight bytes. -/
namespace Go.Proofs.Ytnkpcnnbeaomnaa.C
open Go.RowKit Go.Maps Go.ChangeMaps Go.WideMaps Go.WideShapes Go.Proofs.YtnkpcnnbeaomnaaW.PrintWords Go.Proofs.YtnkpcnnbeaomnaaW.PrintLast Go.Proofs.YtnkpcnnbeaomnaaW.PrintMore
set_option linter.unusedVariables false
set_option linter.unusedSimpArgs false

def bfindr : List S36 → ByteArray → Int
  | [], _ => 0
  | b :: r, s => if b.f0.data = s.data then (r.length : Int) else bfindr r s
def bhasr : List S36 → ByteArray → Bool
  | [], _ => false
  | b :: r, s => if b.f0.data = s.data then true else bhasr r s
def bfind (l : List S36) (s : ByteArray) : Int := bfindr l.reverse s
def bhas (l : List S36) (s : ByteArray) : Bool := bhasr l.reverse s
/-- What the map reads as. -/
def Dofr : List S36 → DataW Unit
  | [] => .map []
  | b :: r => (Dofr r).put (.string b.f0.data.toList) (.lit (.int .i64 (r.length : Int)))
def Dof (l : List S36) : DataW Unit := Dofr l.reverse
theorem Dof_nil : Dof [] = .map [] := rfl
theorem Dof_snoc (l : List S36) (b : S36) : Dof (l ++ [b]) = (Dof l).put (.string b.f0.data.toList) (.lit (.int .i64 (l.length : Int))) := by
  unfold Dof
  rw [List.reverse_append]
  simp [Dofr]

theorem key_ne {s t : ByteArray} (h : ¬ t.data = s.data) : (Lit.string s.data.toList) ≠ (Lit.string t.data.toList) := by
  intro e
  injection e with e
  exact h (Array.toList_inj.1 e).symm

theorem Dofr_isMap : ∀ r : List S36, IsMap (Dofr r)
  | [] => isMap_empty
  | b :: r => (Dofr_isMap r).put _ _

theorem isKey_str {s : ByteArray} (hs : s.size ≤ 8) : WideAt.IsKeyLit (.string s.data.toList) := by
  first | trivial | (simp [WideAt.IsKeyLit])

theorem has_Dofr (s : ByteArray) (hs : s.size ≤ 8) : ∀ r : List S36, has (Dofr r) (.string s.data.toList) = bhasr r s
  | [] => rfl
  | b :: r => by
    unfold Dofr bhasr
    by_cases h : b.f0.data = s.data
    · rw [if_pos h, h, has_put_same (Dofr_isMap r) (isKey_str hs)]
    · rw [if_neg h, has_put_other (key_ne h), has_Dofr s hs r]
theorem at_Dofr (s : ByteArray) (hs : s.size ≤ 8) : ∀ r : List S36, (Dofr r).atKey (.string s.data.toList) (.lit (.int .i64 0)) = .lit (.int .i64 (bfindr r s))
  | [] => rfl
  | b :: r => by
    unfold Dofr bfindr
    by_cases h : b.f0.data = s.data
    · rw [if_pos h, h, atKey_put_same (Dofr_isMap r) (isKey_str hs)]
    · rw [if_neg h, atKey_put_other (key_ne h), at_Dofr s hs r]

theorem bfindr_lt (s : ByteArray) : ∀ r : List S36, bhasr r s = true → 0 ≤ bfindr r s ∧ bfindr r s < (r.length : Int)
  | [], h => by simp [bhasr] at h
  | b :: r, h => by
    unfold bfindr
    unfold bhasr at h
    by_cases e : b.f0.data = s.data
    · rw [if_pos e]; simp; omega
    · rw [if_neg e] at h ⊢
      have := bfindr_lt s r h
      simp; omega
theorem bfind_lt {l : List S36} {s : ByteArray} (h : bhas l s = true) : 0 ≤ bfind l s ∧ bfind l s < (l.length : Int) := by
  have := bfindr_lt s l.reverse h
  simpa [bfind] using this

/-- Block B of W is a map of what the binds l told. -/
def IsM (W : World) (B : Nat) (l : List S36) : Prop := W.ownsMap Try.prog 9 (plainElem (H := Unit) Try.prog 3) B l.length (Dof l)
theorem law9 : Keyed Try.prog 9 := string_keyed Try.underlying9
theorem zero3 (w : World) : (zeroValue 3).run Try.prog w = .ok (.int .i64 0) w := by kernel_rfl
namespace IsM
variable {W W1 : World} {B g : Nat} {l : List S36}
theorem lt (h : IsM W B l) : B < W.heap.size := World.ownsMap.lt h
theorem alloc (h : IsM W B l) (o : Obj) : IsM (W.alloc o) B l := World.ownsMap.alloc h o
theorem drew (h : IsM W B l) : IsM W.drew B l := h
theorem drewN (h : IsM W B l) (m : Nat) : IsM (W.drewN m) B l := h
theorem set (h : IsM W B l) {a : Addr} (ha : B ≠ a.block) (u : Value) : IsM (W.setCell a u) B l := World.ownsMap.setCell h ha u
theorem grown (h : IsM W B l) {row : Option Nat} (hg : W.grownBy W1 row) (hne : some B ≠ row) : IsM W1 B l := World.ownsMap.kept h hg hne
theorem below (h : IsM W B l) (hb : Below W.heap.size W W1) : IsM W1 B l := by
  have hlt := h.lt
  obtain ⟨es, clock, hm, r⟩ := h
  exact ⟨es, clock, (hb.block B hlt).trans hm, r⟩
theorem ne_cells (h : IsM W B l) {cs : Array Value} {t : TypeId} {z : Nat × Nat} (hg : W.heap[g]? = some (.cells cs t z)) : B ≠ g := by
  rintro rfl
  obtain ⟨es, clock, hm, r⟩ := h
  rw [hm] at hg
  injection hg with hg
  cases hg
variable {α : Type} {d : Kd α} {e base : Nat} {ok : Nat → Prop} {v : Value} {xs : List α}
/-- No row leads to the map's block. -/
theorem row (h : IsM W B l) (hr : Kd.R d e W base ok v xs) : Kd.R d e W base (fun k => ok k ∧ k ≠ B) v xs :=
  Kd.R_mono (Kd.R_bound hr) (fun k hk => ⟨hk.1, by
    obtain ⟨_, _, _, q, hq, cells', hc⟩ := hk
    exact fun e_ => h.ne_cells hc e_.symm⟩)
theorem rows (h : IsM W B l) (hr : Kd.S d e W base ok v xs) : Kd.S d e W base (fun k => ok k ∧ k ≠ B) v xs := by
  obtain ⟨f, hr⟩ := hr
  exact ⟨f, h.row hr⟩
theorem away (h : IsM W B l) (hr : Kd.R d e W base ok v xs) : some B ≠ v.ownBlock := Kd.R_away (h.row hr) (fun _ hk => hk.2)
theorem aways (h : IsM W B l) (hr : Kd.S d e W base ok v xs) : some B ≠ v.ownBlock := h.away (Kd.S_R hr)
/-- Over a store into the map a row stays. -/
theorem row_over (h : IsM W B l) (hr : Kd.R d e W base ok v xs) (hg : W.grownBy W1 (some B)) : Kd.R d e W1 base ok v xs :=
  Kd.R_mono (Kd.R_grown (h.row hr) hg (fun k hk e_ => hk.2 (Option.some.inj e_))) (fun _ hk => hk.1)
theorem rows_over (h : IsM W B l) (hr : Kd.S d e W base ok v xs) (hg : W.grownBy W1 (some B)) : Kd.S d e W1 base ok v xs :=
  Kd.S_mono (Kd.S_grown (h.rows hr) hg (fun k hk e_ => hk.2 (Option.some.inj e_))) (fun _ hk => hk.1)
theorem blk_over (h : IsM W B l) {cs : Array Value} {t : TypeId} {z : Nat × Nat} (hb : W.heap[g]? = some (.cells cs t z)) (hg : W.grownBy W1 (some B)) : W1.heap[g]? = some (.cells cs t z) :=
  blk_grown hb hg (fun e_ => h.ne_cells hb (Option.some.inj e_).symm)
end IsM

theorem below_map {w W W1 : World} {B : Nat} (hb : Below w.heap.size w W) (hg : W.grownBy W1 (some B)) (hB : w.heap.size ≤ B) : Below w.heap.size w W1 where
  os := hg.os.trans hb.os
  tape := hg.tape.trans hb.tape
  output := hg.output.trans hb.output
  size := Nat.le_trans hb.size hg.size
  block := fun k hk => (hg.block k (Nat.lt_of_lt_of_le hk hb.size) (fun e => by have := Option.some.inj e; omega)).trans (hb.block k hk)

theorem take_len (l : List S36) (i : Int) (h0 : 0 ≤ i) (h1 : i < (l.length : Int)) : ((List.take (Int.toNat i) l).length : Int) = i := by
  rw [List.length_take]; omega
theorem take_all (l : List S36) (i : Int) (h : ¬ i < (l.length : Int)) : List.take (Int.toNat i) l = l := List.take_of_length_le (by omega)
theorem take_next (l : List S36) (i : Int) (h0 : 0 ≤ i) (h1 : i < (l.length : Int)) (h2 : i < 3518437208883) : List.take (Int.toNat (wrap64 (i + 1))) l = List.take (Int.toNat i) l ++ [rd_T36 l i] := by
  have e : wrap64 (i + 1) = i + 1 := by unfold wrap64; omega
  rw [e, show (i + 1).toNat = i.toNat + 1 by omega, List.take_add_one]
  have h3 : i.toNat < l.length := by omega
  congr 1
  unfold rd_T36
  simp [h3]

section
variable {ops : Array Oper} {rest : List Oper} {o : Oper} {a : Act} {Q : Exit → Act → World → Prop} {W : World}
/-- A literal '[]T{..}' of slices that came in: its block, as it lies. -/
theorem lit_event (hgd : o.guard = none) {N : Tmp} (_hd : o.dst = some N) {cs : Array Value} {t : TypeId} {n : Nat}
    (hrun : (execOp a.eval o).run Try.prog W = .ok (.value (.slice (some ⟨W.heap.size, 0, none⟩) n n)) (W.alloc (.cells cs t (0, 0))))
    (h : ∀ g, g = W.heap.size → ∀ w1, w1.heap[g]? = some (.cells cs t (0, 0)) → Below W.heap.size W w1 → wpList Try.prog ops Q rest (a.put o.dst (.slice (some ⟨g, 0, none⟩) n n)) w1) : wpList Try.prog ops Q (o :: rest) a W :=
  Kd.event_run hgd hrun (h _ rfl _ (blk_new W _) (below_alloc (Below.refl _ _) _))
/-- 'make(map[string]int)'. -/
theorem map_made (hg : o.guard = none) (hop : o.op = Op.makeMap 71 none)
    (h : ∀ g, g = W.heap.size → ∀ w1, IsM w1 g [] → Below W.heap.size W w1 → wpList Try.prog ops Q rest (a.put o.dst (.map (some g))) w1) : wpList Try.prog ops Q (o :: rest) a W := by
  refine Kd.event_run (W := W) (w1 := W.alloc (.map #[] 0)) (v := .map (some W.heap.size)) hg (by unfold execOp; simp [hop, run_makeMap, Result.andThen]) (h _ rfl _ (World.ownsMap_made _ _ _ _) (below_alloc (Below.refl _ _) _))
/-- 'i, there := m[s]'. -/
theorem map_look (hg : o.guard = none) (m x : Operand) (hop : o.op = Op.lookup 71 m x true) (B : Nat) (l : List S36) (s : ByteArray) (hm : a.eval m = .map (some B)) (hown : IsM W B l) (hs : s.size ≤ 8) (hx : a.eval x = .string s)
    (h : wpList Try.prog ops Q rest (a.put o.dst (.tuple #[.int .i64 (bfind l s), .bool (bhas l s)])) W) : wpList Try.prog ops Q (o :: rest) a W := by
  refine wpList_lookup_own_ok_int W hg m x 71 hop 9 3 .i64 law9 Try.underlying71 Try.underlying3 (zero3 _) B l.length (Dof l) hm hown _ (.string s.data.toList) hx (keyOf_string_mk Try.underlying9 (by unfold maxLen; omega)) ?_
  intro c hat hwc
  have h1 := at_Dofr s hs l.reverse
  have h2 : (Dof l).atKey (.string s.data.toList) (.lit (.int .i64 0)) = .lit (.int .i64 (bfind l s)) := h1
  rw [hat] at h2
  injection h2 with h2
  injection h2 with _ h2
  rw [h2, show Maps.has (Dof l) (.string s.data.toList) = bhas l s from has_Dofr s hs l.reverse]
  exact h
/-- 'm[s] = n', n the next place. -/
theorem map_put (hg : o.guard = none) (m x v : Operand) (hop : o.op = Op.mapUpdate 71 m x v) (B : Nat) (l : List S36) (b : S36) (n : Int) (hn : (l.length : Int) = n) (hl : l.length < 3518437208883) (hm : a.eval m = .map (some B)) (hown : IsM W B l) (hs : b.f0.size ≤ 8) (hx : a.eval x = .string b.f0)
    (hv : a.eval v = .int .i64 n)
    (h : ∀ w1, IsM w1 B (l ++ [b]) → W.grownBy w1 (some B) → wpList Try.prog ops Q rest (a.put o.dst undef) w1) : wpList Try.prog ops Q (o :: rest) a W := by
  subst hn
  refine wpList_mapUpdate_own W hg m x v 71 hop 9 3 law9 Try.underlying71 _ B l.length (Dof l) hm hown (by unfold maxLen; omega) _ _ (.string b.f0.data.toList) hx hv (keyOf_string_mk Try.underlying9 (by unfold maxLen; omega)) (.lit (.int .i64 (l.length : Int))) [] (plainElem_int Try.underlying3 (WalkArith.wf_i64 (by omega))) ?_
  intro w1 h1 hg1
  refine h w1 ?_ hg1
  unfold IsM
  rw [Dof_snoc, List.length_append]
  exact h1
end
end Go.Proofs.Ytnkpcnnbeaomnaa.C
end
