import Derived.Test.YtnkpcnnbeaomnaaDoorRB2
import Derived.Test.YtnkpcnnbeaomnaaDoorRB7
import Derived.Test.YtnkpcnnbeaomnaaDoorRB8
import Derived.Test.YtnkpcnnbeaomnaaDoorRB10
import Derived.Test.YtnkpcnnbeaomnaaDoorRB11
import Derived.Test.YtnkpcnnbeaomnaaDoorRB6

section
-- Written by a program of this session (a scratch print over hand-made contracts), out of the translation. Not trusted: Lean checks it.
namespace Go.Proofs.YtnkpcnnbeaomnaaDoor.C
open Go.RowKit Go.Proofs.YtnkpcnnbeaomnaaDoorW.PrintWords Go.Proofs.YtnkpcnnbeaomnaaDoorW.PrintLast Go.Proofs.YtnkpcnnbeaomnaaDoorW.PrintMore
attribute [local go_sem] max2_int min2_int max_two min_two max_three min_three max_four min_four   -- for this text's walks alone
set_option linter.unusedVariables false
set_option linter.unusedSimpArgs false

/-! ### aumbrylaw06_RuleBack: function 6 -/
def aumbrylaw06_RuleBack.f (k : Nat) (a0 : ByteArray) (a1 : ByteArray) : Option (Bool) := (aumbrylaw06_wakes.f k).bind fun t406 => (if t406 = true then ((rule_Parse.f k a0 a1).bind fun bt407 => (if bt407.2.2.2 = 0 then ((rule_Print.f k bt407.1 bt407.2.1 bt407.2.2.1).bind fun bt416 => (if bt416.2 = 0 then (if a0.size + 4 ≤ 9223372036854775807 then (if (a0 ++ (⟨#[32, 45, 62, 32]⟩ : ByteArray)).size + a1.size ≤ 9223372036854775807 then (if bt416.1.toList = ((a0 ++ (⟨#[32, 45, 62, 32]⟩ : ByteArray)) ++ a1).toList then ((rule_Check.f k bt407.1 bt407.2.1 bt407.2.2.1).bind fun t418 => (some (t418 == 0))) else (some false)) else (none)) else (none)) else (some false))) else ((aumbryref06_Same.f k bt407.1 bt407.2.1 bt407.2.2.1 0 ([] : List (S33)) ([] : List (S33))).bind fun t419 => (some t419)))) else (some false))
set_option maxHeartbeats 8000000 in
set_option maxRecDepth 100000 in
theorem aumbrylaw06_RuleBack.calls (k : Nat) (a0 : ByteArray) (a1 : ByteArray) (r : Bool) (w : World) (h : aumbrylaw06_RuleBack.f k a0 a1 = some r) :
    Calls Tryd.prog 6 #[.string a0, .string a1] w fun e w' => e = .returned (.bool r) ∧ Below w.heap.size w w' := by
  have hu25 := Tryd.underlying25
  have HB := Aside0.mk (Below.refl w.heap.size w)
  have H : ((aumbrylaw06_wakes.f k).bind fun t406 => (if t406 = true then ((rule_Parse.f k a0 a1).bind fun bt407 => (if bt407.2.2.2 = 0 then ((rule_Print.f k bt407.1 bt407.2.1 bt407.2.2.1).bind fun bt416 => (if bt416.2 = 0 then (if a0.size + 4 ≤ 9223372036854775807 then (if (a0 ++ (⟨#[32, 45, 62, 32]⟩ : ByteArray)).size + a1.size ≤ 9223372036854775807 then (if bt416.1.toList = ((a0 ++ (⟨#[32, 45, 62, 32]⟩ : ByteArray)) ++ a1).toList then ((rule_Check.f k bt407.1 bt407.2.1 bt407.2.2.1).bind fun t418 => (some (t418 == 0))) else (some false)) else (none)) else (none)) else (some false))) else ((aumbryref06_Same.f k bt407.1 bt407.2.1 bt407.2.2.1 0 ([] : List (S33)) ([] : List (S33))).bind fun t419 => (some t419)))) else (some false))) = some r := h
  clear h
  replace H := Option.bind_eq_some_iff.mp H
  obtain ⟨t406, A30, H⟩ := H
  replace H : (if t406 = true then ((rule_Parse.f k a0 a1).bind fun bt407 => (if bt407.2.2.2 = 0 then ((rule_Print.f k bt407.1 bt407.2.1 bt407.2.2.1).bind fun bt416 => (if bt416.2 = 0 then (if a0.size + 4 ≤ 9223372036854775807 then (if (a0 ++ (⟨#[32, 45, 62, 32]⟩ : ByteArray)).size + a1.size ≤ 9223372036854775807 then (if bt416.1.toList = ((a0 ++ (⟨#[32, 45, 62, 32]⟩ : ByteArray)) ++ a1).toList then ((rule_Check.f k bt407.1 bt407.2.1 bt407.2.2.1).bind fun t418 => (some (t418 == 0))) else (some false)) else (none)) else (none)) else (some false))) else ((aumbryref06_Same.f k bt407.1 bt407.2.1 bt407.2.2.1 0 ([] : List (S33)) ([] : List (S33))).bind fun t419 => (some t419)))) else (some false)) = some r := H
  have A3 := Aside0.mk A30
  clear A30
  by_cases c4 : t406 = true
  · subst c4
    have H1 : ((rule_Parse.f k a0 a1).bind fun bt407 => (if bt407.2.2.2 = 0 then ((rule_Print.f k bt407.1 bt407.2.1 bt407.2.2.1).bind fun bt416 => (if bt416.2 = 0 then (if a0.size + 4 ≤ 9223372036854775807 then (if (a0 ++ (⟨#[32, 45, 62, 32]⟩ : ByteArray)).size + a1.size ≤ 9223372036854775807 then (if bt416.1.toList = ((a0 ++ (⟨#[32, 45, 62, 32]⟩ : ByteArray)) ++ a1).toList then ((rule_Check.f k bt407.1 bt407.2.1 bt407.2.2.1).bind fun t418 => (some (t418 == 0))) else (some false)) else (none)) else (none)) else (some false))) else ((aumbryref06_Same.f k bt407.1 bt407.2.1 bt407.2.2.1 0 ([] : List (S33)) ([] : List (S33))).bind fun t419 => (some t419)))) = some r := by rw [if_pos rfl] at H; exact H
    clear H
    have H := H1
    clear H1
    replace H := Option.bind_eq_some_iff.mp H
    obtain ⟨⟨t407, t408, t411, t414⟩, A50, H⟩ := H
    replace H : (if t414 = 0 then ((rule_Print.f k t407 t408 t411).bind fun bt416 => (if bt416.2 = 0 then (if a0.size + 4 ≤ 9223372036854775807 then (if (a0 ++ (⟨#[32, 45, 62, 32]⟩ : ByteArray)).size + a1.size ≤ 9223372036854775807 then (if bt416.1.toList = ((a0 ++ (⟨#[32, 45, 62, 32]⟩ : ByteArray)) ++ a1).toList then ((rule_Check.f k t407 t408 t411).bind fun t418 => (some (t418 == 0))) else (some false)) else (none)) else (none)) else (some false))) else ((aumbryref06_Same.f k t407 t408 t411 0 ([] : List (S33)) ([] : List (S33))).bind fun t419 => (some t419))) = some r := H
    have A5 := Aside0.mk A50
    clear A50
    by_cases c6 : t414 = 0
    · rw [if_pos c6] at H
      have c6b0 : (t414 == 0) = true := beq_iff_eq.mpr c6
      have c6b1 : (t414 != 0) = false := bne_eq_false_iff_eq.mpr c6
      clear c6
      replace H := Option.bind_eq_some_iff.mp H
      obtain ⟨⟨t416, t417⟩, A70, H⟩ := H
      replace H : (if t417 = 0 then (if a0.size + 4 ≤ 9223372036854775807 then (if (a0 ++ (⟨#[32, 45, 62, 32]⟩ : ByteArray)).size + a1.size ≤ 9223372036854775807 then (if t416.toList = ((a0 ++ (⟨#[32, 45, 62, 32]⟩ : ByteArray)) ++ a1).toList then ((rule_Check.f k t407 t408 t411).bind fun t418 => (some (t418 == 0))) else (some false)) else (none)) else (none)) else (some false)) = some r := H
      have A7 := Aside0.mk A70
      clear A70
      by_cases c8 : t417 = 0
      · rw [if_pos c8] at H
        have c8b0 : (t417 == 0) = true := beq_iff_eq.mpr c8
        have c8b1 : (t417 != 0) = false := bne_eq_false_iff_eq.mpr c8
        clear c8
        by_cases c9 : a0.size + 4 ≤ 9223372036854775807
        · rw [if_pos c9] at H
          have c9b0 := eq_true c9
          have c9b1 : decide (a0.size + 4 ≤ 9223372036854775807) = true := decide_eq_true c9
          try have c9b2 : (9223372036854775807 < a0.size + 4) = False := eq_false (Nat.not_lt.2 c9)
          by_cases c10 : (a0 ++ (⟨#[32, 45, 62, 32]⟩ : ByteArray)).size + a1.size ≤ 9223372036854775807
          · rw [if_pos c10] at H
            have c10b0 := eq_true c10
            have c10b1 : decide ((a0 ++ (⟨#[32, 45, 62, 32]⟩ : ByteArray)).size + a1.size ≤ 9223372036854775807) = true := decide_eq_true c10
            try have c10b2 : (9223372036854775807 < (a0 ++ (⟨#[32, 45, 62, 32]⟩ : ByteArray)).size + a1.size) = False := eq_false (Nat.not_lt.2 c10)
            by_cases c11 : t416.toList = ((a0 ++ (⟨#[32, 45, 62, 32]⟩ : ByteArray)) ++ a1).toList
            · rw [if_pos c11] at H
              have c11b0 : (t416.toList == ((a0 ++ (⟨#[32, 45, 62, 32]⟩ : ByteArray)) ++ a1).toList) = true := beq_iff_eq.mpr c11
              have c11b1 : (t416.toList != ((a0 ++ (⟨#[32, 45, 62, 32]⟩ : ByteArray)) ++ a1).toList) = false := bne_eq_false_iff_eq.mpr c11
              clear c11
              replace H := Option.bind_eq_some_iff.mp H
              obtain ⟨t418, A120, H⟩ := H
              replace H : (some (t418 == 0)) = some r := H
              have A12 := Aside0.mk A120
              clear A120
              obtain rfl := Option.some.inj H
              go_enter Tryd.func6, Tryd.ntmps6
              go_wp2_with (first | ((with_reducible refine gate_callee (f := 8) rfl ?_); refine goesL_ (some 9) rfl rfl Tryd.func8 (by kernel_rfl) rfl #[] rfl (by (try simp only [List.map_toArray, List.map_cons, List.map_nil]); first | done | rfl | (simp only [List.length_drop, List.length_take]; rfl)) ?_; (with_reducible refine (aumbrylaw06_wakes.calls k  true _ A3.out).mono ?_); rintro e w13 ⟨rfl, hb⟩; refine ⟨_, rfl, ?_⟩; have n0_ := Aside0.mk (below_step (by repeat (first | (with_reducible first | exact HB.out | apply below_alloc | apply pw_below_drewN | apply below_drew1) | exact HB.out)) hb); clear HB; have HB := n0_; clear n0_; (try clear hb); (try clear hb2); (try clear hk); (try clear hi)) | ((with_reducible refine gate_callee (f := 13) rfl ?_); refine goesL_ (some 14) rfl rfl Tryd.func13 (by kernel_rfl) rfl #[.string a0, .string a1] rfl (by (try simp only [List.map_toArray, List.map_cons, List.map_nil]); first | done | rfl | (simp only [List.length_drop, List.length_take]; rfl)) ?_; (with_reducible refine (rule_Parse.calls k a0 a1 t407 t408 t411 t414 _ A5.out).mono ?_); rintro e w14 ⟨v409, v412, rfl, ho0, ho1, hb⟩; refine ⟨_, rfl, ?_⟩; have n0_ := Aside0.mk (Kd.R_lower ho0 (below_size (by repeat (first | (with_reducible first | exact HB.out | apply below_alloc | apply pw_below_drewN | apply below_drew1) | exact HB.out)))); have n1_ := Aside0.mk (Kd.R_lower ho1 (below_size (by repeat (first | (with_reducible first | exact HB.out | apply below_alloc | apply pw_below_drewN | apply below_drew1) | exact HB.out)))); have n2_ := Aside0.mk (below_step (by repeat (first | (with_reducible first | exact HB.out | apply below_alloc | apply pw_below_drewN | apply below_drew1) | exact HB.out)) hb); clear HB; have HO410 := n0_; have HO413 := n1_; have HB := n2_; clear n0_ n1_ n2_; (try clear hb); (try clear hb2); (try clear hk); (try clear hi); (try clear ho0); (try clear ho1)) | ((with_reducible refine gate_dst (N := 5) rfl ?_); refine box_event ?hg (N := 5) ?hd (cs := #[.int .i64 0, .slice none 0 0, .slice none 0 0]) (t := 25) ?hr ?_; (case hd => rfl); (case hg => rfl); (case hr => first | (go_simp; done) | (go_simp; rfl)); intro gb415 hg w15 hbox hb; have n0_ := Aside0.mk (Kd.R_below (by (with_reducible repeat (first | apply Kd.R_alloc | apply Kd.R_drewN | apply Kd.R_drew)); exact HO410.out) hb); have n1_ := Aside0.mk (Kd.R_below (by (with_reducible repeat (first | apply Kd.R_alloc | apply Kd.R_drewN | apply Kd.R_drew)); exact HO413.out) hb); have n2_ := Aside0.mk (below_step (by repeat (first | (with_reducible first | exact HB.out | apply below_alloc | apply pw_below_drewN | apply below_drew1) | exact HB.out)) hb); have n3_ := Aside0.mk (hbox); have n4_ := Aside0.mk ((by rw [hg]; exact (below_size (by repeat (first | (with_reducible first | exact HB.out | apply below_alloc | apply pw_below_drewN | apply below_drew1) | exact HB.out))) : w.heap.size ≤ gb415)); have n5_ := Aside0.mk ((by rw [hg]; exact (below_size (by repeat (first | (with_reducible first | exact HB.out | apply below_alloc | apply pw_below_drewN | apply below_drew1) | exact HB.out))) : w.heap.size ≤ gb415)); clear HO410; clear HO413; clear HB; have HO410 := n0_; have HO413 := n1_; have HB := n2_; have BK415 := n3_; have GW415 := n4_; have GE415 := n5_; clear n0_ n1_ n2_ n3_ n4_ n5_; clear hb hbox hg; have hcz16_0 : w15.cell? ⟨gb415, 0, none⟩ = some (.int .i64 0) := (blk_cell BK415.out 0).trans rfl; have hcz16_1 : w15.cell? ⟨gb415, 1, none⟩ = some (.slice none 0 0) := (blk_cell BK415.out 1).trans rfl; have hcz16_2 : w15.cell? ⟨gb415, 2, none⟩ = some (.slice none 0 0) := (blk_cell BK415.out 2).trans rfl; have hfz16_0 := blk_frozen BK415.out 0; have hfz16_1 := blk_frozen BK415.out 1; have hfz16_2 := blk_frozen BK415.out 2; obtain ⟨Ao17, co17, eo17⟩ := Kd.R_slice HO410.out; subst eo17; obtain ⟨Ao18, co18, eo18⟩ := Kd.R_slice HO413.out; subst eo18) | ((with_reducible refine gate_callee (f := 16) rfl ?_); refine goesL_ (some 24) rfl rfl Tryd.func16 (by kernel_rfl) rfl #[.agg #[.int .i64 t407, .slice Ao17 t408.length co17, .slice Ao18 t411.length co18]] rfl (by (try simp only [List.map_toArray, List.map_cons, List.map_nil]); first | done | rfl | (simp only [List.length_drop, List.length_take]; rfl)) ?_; (with_reducible refine (rule_Print.calls k t407 _ _ t408 _ _ t411 t416 t417 _ ?side1 ?side2 ?side3 ?side4 A7.out).mono ?_); (case side1 => refine (Kd.R_reads' (e := 33) (base := w.heap.size) (ok := fun k_ => some k_ ≠ (.slice Ao18 t411.length co18 : Value).ownBlock) (n := t408.length) (c := co17) ?_).2.2; exact (by (with_reducible repeat (first | apply Kd.R_alloc | apply Kd.R_drewN | apply Kd.R_drew)); exact (Kd.R_mono (Kd.R_far (p := ⟨gb415, 2, none⟩) (Kd.R_far (p := ⟨gb415, 1, none⟩) (Kd.R_far (p := ⟨gb415, 0, none⟩) (Kd.R_types HO410.out BK415.out (by decide)) (fun _ hk => hk.2) (.int .i64 t407)) (fun _ hk => hk.2) (.slice Ao17 t408.length co17)) (fun _ hk => hk.2) (.slice Ao18 t411.length co18)) (fun _ h_ => h_.1)))); (case side2 => exact (Kd.R_reads' HO410.out).2.1); (case side3 => refine (Kd.R_reads' (e := 33) (base := w.heap.size) (ok := fun k_ => some k_ ≠ (.slice Ao17 t408.length co17 : Value).ownBlock) (n := t411.length) (c := co18) ?_).2.2; exact (by (with_reducible repeat (first | apply Kd.R_alloc | apply Kd.R_drewN | apply Kd.R_drew)); exact (Kd.R_mono (Kd.R_far (p := ⟨gb415, 2, none⟩) (Kd.R_far (p := ⟨gb415, 1, none⟩) (Kd.R_far (p := ⟨gb415, 0, none⟩) (Kd.R_types HO413.out BK415.out (by decide)) (fun _ hk => hk.2) (.int .i64 t407)) (fun _ hk => hk.2) (.slice Ao17 t408.length co17)) (fun _ hk => hk.2) (.slice Ao18 t411.length co18)) (fun _ h_ => h_.1)))); (case side4 => exact (Kd.R_reads' HO413.out).2.1); rintro e w19 ⟨rfl, hb⟩; refine ⟨_, rfl, ?_⟩; have n0_ := Aside0.mk (Kd.R_below (by (with_reducible repeat (first | apply Kd.R_alloc | apply Kd.R_drewN | apply Kd.R_drew)); exact (Kd.R_mono (Kd.R_far (p := ⟨gb415, 2, none⟩) (Kd.R_far (p := ⟨gb415, 1, none⟩) (Kd.R_far (p := ⟨gb415, 0, none⟩) (Kd.R_types HO410.out BK415.out (by decide)) (fun _ hk => hk.2) (.int .i64 t407)) (fun _ hk => hk.2) (.slice Ao17 t408.length co17)) (fun _ hk => hk.2) (.slice Ao18 t411.length co18)) (fun _ h_ => h_.1))) hb); have n1_ := Aside0.mk (Kd.R_below (by (with_reducible repeat (first | apply Kd.R_alloc | apply Kd.R_drewN | apply Kd.R_drew)); exact (Kd.R_mono (Kd.R_far (p := ⟨gb415, 2, none⟩) (Kd.R_far (p := ⟨gb415, 1, none⟩) (Kd.R_far (p := ⟨gb415, 0, none⟩) (Kd.R_types HO413.out BK415.out (by decide)) (fun _ hk => hk.2) (.int .i64 t407)) (fun _ hk => hk.2) (.slice Ao17 t408.length co17)) (fun _ hk => hk.2) (.slice Ao18 t411.length co18)) (fun _ h_ => h_.1))) hb); have n2_ := Aside0.mk (blk_below (g := gb415) (o := .cells #[.int .i64 t407, .slice Ao17 t408.length co17, .slice Ao18 t411.length co18] 25 (0, 0)) (by (with_reducible repeat (first | refine blk_drewN ?_ _ | refine blk_drew ?_ | refine blk_alloc ?_ _)); refine blk_put (cs := #[.int .i64 t407, .slice Ao17 t408.length co17, .slice none 0 0]) ?_ 2 _ rfl; (with_reducible repeat (first | refine blk_drewN ?_ _ | refine blk_drew ?_ | refine blk_alloc ?_ _)); refine blk_put (cs := #[.int .i64 t407, .slice none 0 0, .slice none 0 0]) ?_ 1 _ rfl; (with_reducible repeat (first | refine blk_drewN ?_ _ | refine blk_drew ?_ | refine blk_alloc ?_ _)); refine blk_put (cs := #[.int .i64 0, .slice none 0 0, .slice none 0 0]) ?_ 0 _ rfl; (with_reducible repeat (first | refine blk_drewN ?_ _ | refine blk_drew ?_ | refine blk_alloc ?_ _)); exact BK415.out) hb); have n3_ := Aside0.mk (below_step (by repeat (first | (with_reducible first | exact HB.out | apply below_alloc | apply pw_below_drewN | apply below_drew1 | refine below_set ?_ GE415.out) | exact HB.out)) hb); clear HO410; clear HO413; clear BK415; clear HB; have HO410 := n0_; have HO413 := n1_; have BK415 := n2_; have HB := n3_; clear n0_ n1_ n2_ n3_; (try clear hb); (try clear hb2); (try clear hk); (try clear hi); have hcz20_0 : w19.cell? ⟨gb415, 0, none⟩ = some (.int .i64 t407) := (blk_cell BK415.out 0).trans rfl; have hcz20_1 : w19.cell? ⟨gb415, 1, none⟩ = some (.slice Ao17 t408.length co17) := (blk_cell BK415.out 1).trans rfl; have hcz20_2 : w19.cell? ⟨gb415, 2, none⟩ = some (.slice Ao18 t411.length co18) := (blk_cell BK415.out 2).trans rfl; have hfz20_0 := blk_frozen BK415.out 0; have hfz20_1 := blk_frozen BK415.out 1; have hfz20_2 := blk_frozen BK415.out 2) | (go_at_call 9; (with_reducible refine (rule_Check.calls k t407 _ _ t408 _ _ t411 t418 _ ?side1 ?side2 ?side3 ?side4 A12.out).mono ?_); (case side1 => repeat (first | exact (Kd.R_reads' HO410.out).2.2 | (with_reducible refine Kd.C_alloc ?_ _) | (with_reducible refine Kd.C_drewN ?_ _) | (with_reducible refine Kd.C_drew ?_))); (case side2 => exact (Kd.R_reads' HO410.out).2.1); (case side3 => repeat (first | exact (Kd.R_reads' HO413.out).2.2 | (with_reducible refine Kd.C_alloc ?_ _) | (with_reducible refine Kd.C_drewN ?_ _) | (with_reducible refine Kd.C_drew ?_))); (case side4 => exact (Kd.R_reads' HO413.out).2.1); rintro e w21 ⟨rfl, hb⟩; have n0_ := Aside0.mk (Kd.R_below (by (with_reducible repeat (first | apply Kd.R_alloc | apply Kd.R_drewN | apply Kd.R_drew)); exact HO410.out) hb); have n1_ := Aside0.mk (Kd.R_below (by (with_reducible repeat (first | apply Kd.R_alloc | apply Kd.R_drewN | apply Kd.R_drew)); exact HO413.out) hb); have n2_ := Aside0.mk (blk_below (g := gb415) (o := .cells #[.int .i64 t407, .slice Ao17 t408.length co17, .slice Ao18 t411.length co18] 25 (0, 0)) (by (with_reducible repeat (first | refine blk_drewN ?_ _ | refine blk_drew ?_ | refine blk_alloc ?_ _)); exact BK415.out) hb); have n3_ := Aside0.mk (below_step (by repeat (first | (with_reducible first | exact HB.out | apply below_alloc | apply pw_below_drewN | apply below_drew1 | refine below_set ?_ GE415.out) | exact HB.out)) hb); clear HO410; clear HO413; clear BK415; clear HB; have HO410 := n0_; have HO413 := n1_; have BK415 := n2_; have HB := n3_; clear n0_ n1_ n2_ n3_; (try clear hb); (try clear hb2); (try clear hk); (try clear hi)))
              go_ret
              exact ⟨by first | rfl | (simp [errW_none, errW_some] <;> rfl) | (simp [*, errW_none, errW_some] <;> rfl), by repeat (first | (with_reducible first | exact HB.out | apply below_alloc | apply pw_below_drewN | apply below_drew1 | refine below_set ?_ GE415.out) | exact HB.out)⟩
            · rw [if_neg c11] at H
              have c11b0 : (t416.toList == ((a0 ++ (⟨#[32, 45, 62, 32]⟩ : ByteArray)) ++ a1).toList) = false := beq_eq_false_iff_ne.mpr c11
              have c11b1 : (t416.toList != ((a0 ++ (⟨#[32, 45, 62, 32]⟩ : ByteArray)) ++ a1).toList) = true := bne_iff_ne.mpr c11
              obtain rfl := Option.some.inj H
              go_enter Tryd.func6, Tryd.ntmps6
              go_wp2_with (first | ((with_reducible refine gate_callee (f := 8) rfl ?_); refine goesL_ (some 9) rfl rfl Tryd.func8 (by kernel_rfl) rfl #[] rfl (by (try simp only [List.map_toArray, List.map_cons, List.map_nil]); first | done | rfl | (simp only [List.length_drop, List.length_take]; rfl)) ?_; (with_reducible refine (aumbrylaw06_wakes.calls k  true _ A3.out).mono ?_); rintro e w22 ⟨rfl, hb⟩; refine ⟨_, rfl, ?_⟩; have n0_ := Aside0.mk (below_step (by repeat (first | (with_reducible first | exact HB.out | apply below_alloc | apply pw_below_drewN | apply below_drew1) | exact HB.out)) hb); clear HB; have HB := n0_; clear n0_; (try clear hb); (try clear hb2); (try clear hk); (try clear hi)) | ((with_reducible refine gate_callee (f := 13) rfl ?_); refine goesL_ (some 14) rfl rfl Tryd.func13 (by kernel_rfl) rfl #[.string a0, .string a1] rfl (by (try simp only [List.map_toArray, List.map_cons, List.map_nil]); first | done | rfl | (simp only [List.length_drop, List.length_take]; rfl)) ?_; (with_reducible refine (rule_Parse.calls k a0 a1 t407 t408 t411 t414 _ A5.out).mono ?_); rintro e w23 ⟨v409, v412, rfl, ho0, ho1, hb⟩; refine ⟨_, rfl, ?_⟩; have n0_ := Aside0.mk (Kd.R_lower ho0 (below_size (by repeat (first | (with_reducible first | exact HB.out | apply below_alloc | apply pw_below_drewN | apply below_drew1) | exact HB.out)))); have n1_ := Aside0.mk (Kd.R_lower ho1 (below_size (by repeat (first | (with_reducible first | exact HB.out | apply below_alloc | apply pw_below_drewN | apply below_drew1) | exact HB.out)))); have n2_ := Aside0.mk (below_step (by repeat (first | (with_reducible first | exact HB.out | apply below_alloc | apply pw_below_drewN | apply below_drew1) | exact HB.out)) hb); clear HB; have HO410 := n0_; have HO413 := n1_; have HB := n2_; clear n0_ n1_ n2_; (try clear hb); (try clear hb2); (try clear hk); (try clear hi); (try clear ho0); (try clear ho1)) | ((with_reducible refine gate_dst (N := 5) rfl ?_); refine box_event ?hg (N := 5) ?hd (cs := #[.int .i64 0, .slice none 0 0, .slice none 0 0]) (t := 25) ?hr ?_; (case hd => rfl); (case hg => rfl); (case hr => first | (go_simp; done) | (go_simp; rfl)); intro gb415 hg w24 hbox hb; have n0_ := Aside0.mk (Kd.R_below (by (with_reducible repeat (first | apply Kd.R_alloc | apply Kd.R_drewN | apply Kd.R_drew)); exact HO410.out) hb); have n1_ := Aside0.mk (Kd.R_below (by (with_reducible repeat (first | apply Kd.R_alloc | apply Kd.R_drewN | apply Kd.R_drew)); exact HO413.out) hb); have n2_ := Aside0.mk (below_step (by repeat (first | (with_reducible first | exact HB.out | apply below_alloc | apply pw_below_drewN | apply below_drew1) | exact HB.out)) hb); have n3_ := Aside0.mk (hbox); have n4_ := Aside0.mk ((by rw [hg]; exact (below_size (by repeat (first | (with_reducible first | exact HB.out | apply below_alloc | apply pw_below_drewN | apply below_drew1) | exact HB.out))) : w.heap.size ≤ gb415)); have n5_ := Aside0.mk ((by rw [hg]; exact (below_size (by repeat (first | (with_reducible first | exact HB.out | apply below_alloc | apply pw_below_drewN | apply below_drew1) | exact HB.out))) : w.heap.size ≤ gb415)); clear HO410; clear HO413; clear HB; have HO410 := n0_; have HO413 := n1_; have HB := n2_; have BK415 := n3_; have GW415 := n4_; have GE415 := n5_; clear n0_ n1_ n2_ n3_ n4_ n5_; clear hb hbox hg; have hcz25_0 : w24.cell? ⟨gb415, 0, none⟩ = some (.int .i64 0) := (blk_cell BK415.out 0).trans rfl; have hcz25_1 : w24.cell? ⟨gb415, 1, none⟩ = some (.slice none 0 0) := (blk_cell BK415.out 1).trans rfl; have hcz25_2 : w24.cell? ⟨gb415, 2, none⟩ = some (.slice none 0 0) := (blk_cell BK415.out 2).trans rfl; have hfz25_0 := blk_frozen BK415.out 0; have hfz25_1 := blk_frozen BK415.out 1; have hfz25_2 := blk_frozen BK415.out 2; obtain ⟨Ao26, co26, eo26⟩ := Kd.R_slice HO410.out; subst eo26; obtain ⟨Ao27, co27, eo27⟩ := Kd.R_slice HO413.out; subst eo27) | ((with_reducible refine gate_callee (f := 16) rfl ?_); refine goesL_ (some 24) rfl rfl Tryd.func16 (by kernel_rfl) rfl #[.agg #[.int .i64 t407, .slice Ao26 t408.length co26, .slice Ao27 t411.length co27]] rfl (by (try simp only [List.map_toArray, List.map_cons, List.map_nil]); first | done | rfl | (simp only [List.length_drop, List.length_take]; rfl)) ?_; (with_reducible refine (rule_Print.calls k t407 _ _ t408 _ _ t411 t416 t417 _ ?side1 ?side2 ?side3 ?side4 A7.out).mono ?_); (case side1 => refine (Kd.R_reads' (e := 33) (base := w.heap.size) (ok := fun k_ => some k_ ≠ (.slice Ao27 t411.length co27 : Value).ownBlock) (n := t408.length) (c := co26) ?_).2.2; exact (by (with_reducible repeat (first | apply Kd.R_alloc | apply Kd.R_drewN | apply Kd.R_drew)); exact (Kd.R_mono (Kd.R_far (p := ⟨gb415, 2, none⟩) (Kd.R_far (p := ⟨gb415, 1, none⟩) (Kd.R_far (p := ⟨gb415, 0, none⟩) (Kd.R_types HO410.out BK415.out (by decide)) (fun _ hk => hk.2) (.int .i64 t407)) (fun _ hk => hk.2) (.slice Ao26 t408.length co26)) (fun _ hk => hk.2) (.slice Ao27 t411.length co27)) (fun _ h_ => h_.1)))); (case side2 => exact (Kd.R_reads' HO410.out).2.1); (case side3 => refine (Kd.R_reads' (e := 33) (base := w.heap.size) (ok := fun k_ => some k_ ≠ (.slice Ao26 t408.length co26 : Value).ownBlock) (n := t411.length) (c := co27) ?_).2.2; exact (by (with_reducible repeat (first | apply Kd.R_alloc | apply Kd.R_drewN | apply Kd.R_drew)); exact (Kd.R_mono (Kd.R_far (p := ⟨gb415, 2, none⟩) (Kd.R_far (p := ⟨gb415, 1, none⟩) (Kd.R_far (p := ⟨gb415, 0, none⟩) (Kd.R_types HO413.out BK415.out (by decide)) (fun _ hk => hk.2) (.int .i64 t407)) (fun _ hk => hk.2) (.slice Ao26 t408.length co26)) (fun _ hk => hk.2) (.slice Ao27 t411.length co27)) (fun _ h_ => h_.1)))); (case side4 => exact (Kd.R_reads' HO413.out).2.1); rintro e w28 ⟨rfl, hb⟩; refine ⟨_, rfl, ?_⟩; have n0_ := Aside0.mk (Kd.R_below (by (with_reducible repeat (first | apply Kd.R_alloc | apply Kd.R_drewN | apply Kd.R_drew)); exact (Kd.R_mono (Kd.R_far (p := ⟨gb415, 2, none⟩) (Kd.R_far (p := ⟨gb415, 1, none⟩) (Kd.R_far (p := ⟨gb415, 0, none⟩) (Kd.R_types HO410.out BK415.out (by decide)) (fun _ hk => hk.2) (.int .i64 t407)) (fun _ hk => hk.2) (.slice Ao26 t408.length co26)) (fun _ hk => hk.2) (.slice Ao27 t411.length co27)) (fun _ h_ => h_.1))) hb); have n1_ := Aside0.mk (Kd.R_below (by (with_reducible repeat (first | apply Kd.R_alloc | apply Kd.R_drewN | apply Kd.R_drew)); exact (Kd.R_mono (Kd.R_far (p := ⟨gb415, 2, none⟩) (Kd.R_far (p := ⟨gb415, 1, none⟩) (Kd.R_far (p := ⟨gb415, 0, none⟩) (Kd.R_types HO413.out BK415.out (by decide)) (fun _ hk => hk.2) (.int .i64 t407)) (fun _ hk => hk.2) (.slice Ao26 t408.length co26)) (fun _ hk => hk.2) (.slice Ao27 t411.length co27)) (fun _ h_ => h_.1))) hb); have n2_ := Aside0.mk (blk_below (g := gb415) (o := .cells #[.int .i64 t407, .slice Ao26 t408.length co26, .slice Ao27 t411.length co27] 25 (0, 0)) (by (with_reducible repeat (first | refine blk_drewN ?_ _ | refine blk_drew ?_ | refine blk_alloc ?_ _)); refine blk_put (cs := #[.int .i64 t407, .slice Ao26 t408.length co26, .slice none 0 0]) ?_ 2 _ rfl; (with_reducible repeat (first | refine blk_drewN ?_ _ | refine blk_drew ?_ | refine blk_alloc ?_ _)); refine blk_put (cs := #[.int .i64 t407, .slice none 0 0, .slice none 0 0]) ?_ 1 _ rfl; (with_reducible repeat (first | refine blk_drewN ?_ _ | refine blk_drew ?_ | refine blk_alloc ?_ _)); refine blk_put (cs := #[.int .i64 0, .slice none 0 0, .slice none 0 0]) ?_ 0 _ rfl; (with_reducible repeat (first | refine blk_drewN ?_ _ | refine blk_drew ?_ | refine blk_alloc ?_ _)); exact BK415.out) hb); have n3_ := Aside0.mk (below_step (by repeat (first | (with_reducible first | exact HB.out | apply below_alloc | apply pw_below_drewN | apply below_drew1 | refine below_set ?_ GE415.out) | exact HB.out)) hb); clear HO410; clear HO413; clear BK415; clear HB; have HO410 := n0_; have HO413 := n1_; have BK415 := n2_; have HB := n3_; clear n0_ n1_ n2_ n3_; (try clear hb); (try clear hb2); (try clear hk); (try clear hi)))
              go_ret
              exact ⟨by first | rfl | (simp [errW_none, errW_some] <;> rfl) | (simp [*, errW_none, errW_some] <;> rfl), by repeat (first | (with_reducible first | exact HB.out | apply below_alloc | apply pw_below_drewN | apply below_drew1 | refine below_set ?_ GE415.out) | exact HB.out)⟩
          · rw [if_neg c10] at H
            exact absurd H (by simp)
        · rw [if_neg c9] at H
          exact absurd H (by simp)
      · rw [if_neg c8] at H
        have c8b0 : (t417 == 0) = false := beq_eq_false_iff_ne.mpr c8
        have c8b1 : (t417 != 0) = true := bne_iff_ne.mpr c8
        obtain rfl := Option.some.inj H
        go_enter Tryd.func6, Tryd.ntmps6
        go_wp2_with (first | ((with_reducible refine gate_callee (f := 8) rfl ?_); refine goesL_ (some 9) rfl rfl Tryd.func8 (by kernel_rfl) rfl #[] rfl (by (try simp only [List.map_toArray, List.map_cons, List.map_nil]); first | done | rfl | (simp only [List.length_drop, List.length_take]; rfl)) ?_; (with_reducible refine (aumbrylaw06_wakes.calls k  true _ A3.out).mono ?_); rintro e w29 ⟨rfl, hb⟩; refine ⟨_, rfl, ?_⟩; have n0_ := Aside0.mk (below_step (by repeat (first | (with_reducible first | exact HB.out | apply below_alloc | apply pw_below_drewN | apply below_drew1) | exact HB.out)) hb); clear HB; have HB := n0_; clear n0_; (try clear hb); (try clear hb2); (try clear hk); (try clear hi)) | ((with_reducible refine gate_callee (f := 13) rfl ?_); refine goesL_ (some 14) rfl rfl Tryd.func13 (by kernel_rfl) rfl #[.string a0, .string a1] rfl (by (try simp only [List.map_toArray, List.map_cons, List.map_nil]); first | done | rfl | (simp only [List.length_drop, List.length_take]; rfl)) ?_; (with_reducible refine (rule_Parse.calls k a0 a1 t407 t408 t411 t414 _ A5.out).mono ?_); rintro e w30 ⟨v409, v412, rfl, ho0, ho1, hb⟩; refine ⟨_, rfl, ?_⟩; have n0_ := Aside0.mk (Kd.R_lower ho0 (below_size (by repeat (first | (with_reducible first | exact HB.out | apply below_alloc | apply pw_below_drewN | apply below_drew1) | exact HB.out)))); have n1_ := Aside0.mk (Kd.R_lower ho1 (below_size (by repeat (first | (with_reducible first | exact HB.out | apply below_alloc | apply pw_below_drewN | apply below_drew1) | exact HB.out)))); have n2_ := Aside0.mk (below_step (by repeat (first | (with_reducible first | exact HB.out | apply below_alloc | apply pw_below_drewN | apply below_drew1) | exact HB.out)) hb); clear HB; have HO410 := n0_; have HO413 := n1_; have HB := n2_; clear n0_ n1_ n2_; (try clear hb); (try clear hb2); (try clear hk); (try clear hi); (try clear ho0); (try clear ho1)) | ((with_reducible refine gate_dst (N := 5) rfl ?_); refine box_event ?hg (N := 5) ?hd (cs := #[.int .i64 0, .slice none 0 0, .slice none 0 0]) (t := 25) ?hr ?_; (case hd => rfl); (case hg => rfl); (case hr => first | (go_simp; done) | (go_simp; rfl)); intro gb415 hg w31 hbox hb; have n0_ := Aside0.mk (Kd.R_below (by (with_reducible repeat (first | apply Kd.R_alloc | apply Kd.R_drewN | apply Kd.R_drew)); exact HO410.out) hb); have n1_ := Aside0.mk (Kd.R_below (by (with_reducible repeat (first | apply Kd.R_alloc | apply Kd.R_drewN | apply Kd.R_drew)); exact HO413.out) hb); have n2_ := Aside0.mk (below_step (by repeat (first | (with_reducible first | exact HB.out | apply below_alloc | apply pw_below_drewN | apply below_drew1) | exact HB.out)) hb); have n3_ := Aside0.mk (hbox); have n4_ := Aside0.mk ((by rw [hg]; exact (below_size (by repeat (first | (with_reducible first | exact HB.out | apply below_alloc | apply pw_below_drewN | apply below_drew1) | exact HB.out))) : w.heap.size ≤ gb415)); have n5_ := Aside0.mk ((by rw [hg]; exact (below_size (by repeat (first | (with_reducible first | exact HB.out | apply below_alloc | apply pw_below_drewN | apply below_drew1) | exact HB.out))) : w.heap.size ≤ gb415)); clear HO410; clear HO413; clear HB; have HO410 := n0_; have HO413 := n1_; have HB := n2_; have BK415 := n3_; have GW415 := n4_; have GE415 := n5_; clear n0_ n1_ n2_ n3_ n4_ n5_; clear hb hbox hg; have hcz32_0 : w31.cell? ⟨gb415, 0, none⟩ = some (.int .i64 0) := (blk_cell BK415.out 0).trans rfl; have hcz32_1 : w31.cell? ⟨gb415, 1, none⟩ = some (.slice none 0 0) := (blk_cell BK415.out 1).trans rfl; have hcz32_2 : w31.cell? ⟨gb415, 2, none⟩ = some (.slice none 0 0) := (blk_cell BK415.out 2).trans rfl; have hfz32_0 := blk_frozen BK415.out 0; have hfz32_1 := blk_frozen BK415.out 1; have hfz32_2 := blk_frozen BK415.out 2; obtain ⟨Ao33, co33, eo33⟩ := Kd.R_slice HO410.out; subst eo33; obtain ⟨Ao34, co34, eo34⟩ := Kd.R_slice HO413.out; subst eo34) | ((with_reducible refine gate_callee (f := 16) rfl ?_); refine goesL_ (some 24) rfl rfl Tryd.func16 (by kernel_rfl) rfl #[.agg #[.int .i64 t407, .slice Ao33 t408.length co33, .slice Ao34 t411.length co34]] rfl (by (try simp only [List.map_toArray, List.map_cons, List.map_nil]); first | done | rfl | (simp only [List.length_drop, List.length_take]; rfl)) ?_; (with_reducible refine (rule_Print.calls k t407 _ _ t408 _ _ t411 t416 t417 _ ?side1 ?side2 ?side3 ?side4 A7.out).mono ?_); (case side1 => refine (Kd.R_reads' (e := 33) (base := w.heap.size) (ok := fun k_ => some k_ ≠ (.slice Ao34 t411.length co34 : Value).ownBlock) (n := t408.length) (c := co33) ?_).2.2; exact (by (with_reducible repeat (first | apply Kd.R_alloc | apply Kd.R_drewN | apply Kd.R_drew)); exact (Kd.R_mono (Kd.R_far (p := ⟨gb415, 2, none⟩) (Kd.R_far (p := ⟨gb415, 1, none⟩) (Kd.R_far (p := ⟨gb415, 0, none⟩) (Kd.R_types HO410.out BK415.out (by decide)) (fun _ hk => hk.2) (.int .i64 t407)) (fun _ hk => hk.2) (.slice Ao33 t408.length co33)) (fun _ hk => hk.2) (.slice Ao34 t411.length co34)) (fun _ h_ => h_.1)))); (case side2 => exact (Kd.R_reads' HO410.out).2.1); (case side3 => refine (Kd.R_reads' (e := 33) (base := w.heap.size) (ok := fun k_ => some k_ ≠ (.slice Ao33 t408.length co33 : Value).ownBlock) (n := t411.length) (c := co34) ?_).2.2; exact (by (with_reducible repeat (first | apply Kd.R_alloc | apply Kd.R_drewN | apply Kd.R_drew)); exact (Kd.R_mono (Kd.R_far (p := ⟨gb415, 2, none⟩) (Kd.R_far (p := ⟨gb415, 1, none⟩) (Kd.R_far (p := ⟨gb415, 0, none⟩) (Kd.R_types HO413.out BK415.out (by decide)) (fun _ hk => hk.2) (.int .i64 t407)) (fun _ hk => hk.2) (.slice Ao33 t408.length co33)) (fun _ hk => hk.2) (.slice Ao34 t411.length co34)) (fun _ h_ => h_.1)))); (case side4 => exact (Kd.R_reads' HO413.out).2.1); rintro e w35 ⟨rfl, hb⟩; refine ⟨_, rfl, ?_⟩; have n0_ := Aside0.mk (Kd.R_below (by (with_reducible repeat (first | apply Kd.R_alloc | apply Kd.R_drewN | apply Kd.R_drew)); exact (Kd.R_mono (Kd.R_far (p := ⟨gb415, 2, none⟩) (Kd.R_far (p := ⟨gb415, 1, none⟩) (Kd.R_far (p := ⟨gb415, 0, none⟩) (Kd.R_types HO410.out BK415.out (by decide)) (fun _ hk => hk.2) (.int .i64 t407)) (fun _ hk => hk.2) (.slice Ao33 t408.length co33)) (fun _ hk => hk.2) (.slice Ao34 t411.length co34)) (fun _ h_ => h_.1))) hb); have n1_ := Aside0.mk (Kd.R_below (by (with_reducible repeat (first | apply Kd.R_alloc | apply Kd.R_drewN | apply Kd.R_drew)); exact (Kd.R_mono (Kd.R_far (p := ⟨gb415, 2, none⟩) (Kd.R_far (p := ⟨gb415, 1, none⟩) (Kd.R_far (p := ⟨gb415, 0, none⟩) (Kd.R_types HO413.out BK415.out (by decide)) (fun _ hk => hk.2) (.int .i64 t407)) (fun _ hk => hk.2) (.slice Ao33 t408.length co33)) (fun _ hk => hk.2) (.slice Ao34 t411.length co34)) (fun _ h_ => h_.1))) hb); have n2_ := Aside0.mk (blk_below (g := gb415) (o := .cells #[.int .i64 t407, .slice Ao33 t408.length co33, .slice Ao34 t411.length co34] 25 (0, 0)) (by (with_reducible repeat (first | refine blk_drewN ?_ _ | refine blk_drew ?_ | refine blk_alloc ?_ _)); refine blk_put (cs := #[.int .i64 t407, .slice Ao33 t408.length co33, .slice none 0 0]) ?_ 2 _ rfl; (with_reducible repeat (first | refine blk_drewN ?_ _ | refine blk_drew ?_ | refine blk_alloc ?_ _)); refine blk_put (cs := #[.int .i64 t407, .slice none 0 0, .slice none 0 0]) ?_ 1 _ rfl; (with_reducible repeat (first | refine blk_drewN ?_ _ | refine blk_drew ?_ | refine blk_alloc ?_ _)); refine blk_put (cs := #[.int .i64 0, .slice none 0 0, .slice none 0 0]) ?_ 0 _ rfl; (with_reducible repeat (first | refine blk_drewN ?_ _ | refine blk_drew ?_ | refine blk_alloc ?_ _)); exact BK415.out) hb); have n3_ := Aside0.mk (below_step (by repeat (first | (with_reducible first | exact HB.out | apply below_alloc | apply pw_below_drewN | apply below_drew1 | refine below_set ?_ GE415.out) | exact HB.out)) hb); clear HO410; clear HO413; clear BK415; clear HB; have HO410 := n0_; have HO413 := n1_; have BK415 := n2_; have HB := n3_; clear n0_ n1_ n2_ n3_; (try clear hb); (try clear hb2); (try clear hk); (try clear hi)))
        go_ret
        exact ⟨by first | rfl | (simp [errW_none, errW_some] <;> rfl) | (simp [*, errW_none, errW_some] <;> rfl), by repeat (first | (with_reducible first | exact HB.out | apply below_alloc | apply pw_below_drewN | apply below_drew1 | refine below_set ?_ GE415.out) | exact HB.out)⟩
    · rw [if_neg c6] at H
      have c6b0 : (t414 == 0) = false := beq_eq_false_iff_ne.mpr c6
      have c6b1 : (t414 != 0) = true := bne_iff_ne.mpr c6
      replace H := Option.bind_eq_some_iff.mp H
      obtain ⟨t419, A360, H⟩ := H
      replace H : (some t419) = some r := H
      have A36 := Aside0.mk A360
      clear A360
      obtain rfl := Option.some.inj H
      go_enter Tryd.func6, Tryd.ntmps6
      go_wp2_with (first | ((with_reducible refine gate_callee (f := 8) rfl ?_); refine goesL_ (some 9) rfl rfl Tryd.func8 (by kernel_rfl) rfl #[] rfl (by (try simp only [List.map_toArray, List.map_cons, List.map_nil]); first | done | rfl | (simp only [List.length_drop, List.length_take]; rfl)) ?_; (with_reducible refine (aumbrylaw06_wakes.calls k  true _ A3.out).mono ?_); rintro e w37 ⟨rfl, hb⟩; refine ⟨_, rfl, ?_⟩; have n0_ := Aside0.mk (below_step (by repeat (first | (with_reducible first | exact HB.out | apply below_alloc | apply pw_below_drewN | apply below_drew1) | exact HB.out)) hb); clear HB; have HB := n0_; clear n0_; (try clear hb); (try clear hb2); (try clear hk); (try clear hi)) | ((with_reducible refine gate_callee (f := 13) rfl ?_); refine goesL_ (some 14) rfl rfl Tryd.func13 (by kernel_rfl) rfl #[.string a0, .string a1] rfl (by (try simp only [List.map_toArray, List.map_cons, List.map_nil]); first | done | rfl | (simp only [List.length_drop, List.length_take]; rfl)) ?_; (with_reducible refine (rule_Parse.calls k a0 a1 t407 t408 t411 t414 _ A5.out).mono ?_); rintro e w38 ⟨v409, v412, rfl, ho0, ho1, hb⟩; refine ⟨_, rfl, ?_⟩; have n0_ := Aside0.mk (Kd.R_lower ho0 (below_size (by repeat (first | (with_reducible first | exact HB.out | apply below_alloc | apply pw_below_drewN | apply below_drew1) | exact HB.out)))); have n1_ := Aside0.mk (Kd.R_lower ho1 (below_size (by repeat (first | (with_reducible first | exact HB.out | apply below_alloc | apply pw_below_drewN | apply below_drew1) | exact HB.out)))); have n2_ := Aside0.mk (below_step (by repeat (first | (with_reducible first | exact HB.out | apply below_alloc | apply pw_below_drewN | apply below_drew1) | exact HB.out)) hb); clear HB; have HO410 := n0_; have HO413 := n1_; have HB := n2_; clear n0_ n1_ n2_; (try clear hb); (try clear hb2); (try clear hk); (try clear hi); (try clear ho0); (try clear ho1)) | ((with_reducible refine gate_dst (N := 5) rfl ?_); refine box_event ?hg (N := 5) ?hd (cs := #[.int .i64 0, .slice none 0 0, .slice none 0 0]) (t := 25) ?hr ?_; (case hd => rfl); (case hg => rfl); (case hr => first | (go_simp; done) | (go_simp; rfl)); intro gb415 hg w39 hbox hb; have n0_ := Aside0.mk (Kd.R_below (by (with_reducible repeat (first | apply Kd.R_alloc | apply Kd.R_drewN | apply Kd.R_drew)); exact HO410.out) hb); have n1_ := Aside0.mk (Kd.R_below (by (with_reducible repeat (first | apply Kd.R_alloc | apply Kd.R_drewN | apply Kd.R_drew)); exact HO413.out) hb); have n2_ := Aside0.mk (below_step (by repeat (first | (with_reducible first | exact HB.out | apply below_alloc | apply pw_below_drewN | apply below_drew1) | exact HB.out)) hb); have n3_ := Aside0.mk (hbox); have n4_ := Aside0.mk ((by rw [hg]; exact (below_size (by repeat (first | (with_reducible first | exact HB.out | apply below_alloc | apply pw_below_drewN | apply below_drew1) | exact HB.out))) : w.heap.size ≤ gb415)); have n5_ := Aside0.mk ((by rw [hg]; exact (below_size (by repeat (first | (with_reducible first | exact HB.out | apply below_alloc | apply pw_below_drewN | apply below_drew1) | exact HB.out))) : w.heap.size ≤ gb415)); clear HO410; clear HO413; clear HB; have HO410 := n0_; have HO413 := n1_; have HB := n2_; have BK415 := n3_; have GW415 := n4_; have GE415 := n5_; clear n0_ n1_ n2_ n3_ n4_ n5_; clear hb hbox hg; have hcz40_0 : w39.cell? ⟨gb415, 0, none⟩ = some (.int .i64 0) := (blk_cell BK415.out 0).trans rfl; have hcz40_1 : w39.cell? ⟨gb415, 1, none⟩ = some (.slice none 0 0) := (blk_cell BK415.out 1).trans rfl; have hcz40_2 : w39.cell? ⟨gb415, 2, none⟩ = some (.slice none 0 0) := (blk_cell BK415.out 2).trans rfl; have hfz40_0 := blk_frozen BK415.out 0; have hfz40_1 := blk_frozen BK415.out 1; have hfz40_2 := blk_frozen BK415.out 2; obtain ⟨Ao41, co41, eo41⟩ := Kd.R_slice HO410.out; subst eo41; obtain ⟨Ao42, co42, eo42⟩ := Kd.R_slice HO413.out; subst eo42) | ((with_reducible refine gate_callee (f := 15) rfl ?_); refine goesL_ (some 21) rfl rfl Tryd.func15 (by kernel_rfl) rfl #[.agg #[.int .i64 t407, .slice Ao41 t408.length co41, .slice Ao42 t411.length co42], .agg #[.int .i64 0, .slice none 0 0, .slice none 0 0]] rfl (by (try simp only [List.map_toArray, List.map_cons, List.map_nil]); first | done | rfl | (simp only [List.length_drop, List.length_take]; rfl)) ?_; (refine (aumbryref06_Same.calls k t407 _ _ t408 _ _ t411 0 _ _ ([] : List (S33)) _ _ ([] : List (S33)) t419 _ ?side1 ?side2 ?side3 ?side4 ?side5 ?side6 ?side7 ?side8 A36.out).mono ?_); (case side1 => refine (Kd.R_reads' (e := 33) (base := w.heap.size) (ok := fun k_ => some k_ ≠ (.slice Ao42 t411.length co42 : Value).ownBlock) (n := t408.length) (c := co41) ?_).2.2; exact (by (with_reducible repeat (first | apply Kd.R_alloc | apply Kd.R_drewN | apply Kd.R_drew)); exact (Kd.R_mono (Kd.R_far (p := ⟨gb415, 2, none⟩) (Kd.R_far (p := ⟨gb415, 1, none⟩) (Kd.R_far (p := ⟨gb415, 0, none⟩) (Kd.R_types HO410.out BK415.out (by decide)) (fun _ hk => hk.2) (.int .i64 t407)) (fun _ hk => hk.2) (.slice Ao41 t408.length co41)) (fun _ hk => hk.2) (.slice Ao42 t411.length co42)) (fun _ h_ => h_.1)))); (case side2 => exact (Kd.R_reads' HO410.out).2.1); (case side3 => refine (Kd.R_reads' (e := 33) (base := w.heap.size) (ok := fun k_ => some k_ ≠ (.slice Ao41 t408.length co41 : Value).ownBlock) (n := t411.length) (c := co42) ?_).2.2; exact (by (with_reducible repeat (first | apply Kd.R_alloc | apply Kd.R_drewN | apply Kd.R_drew)); exact (Kd.R_mono (Kd.R_far (p := ⟨gb415, 2, none⟩) (Kd.R_far (p := ⟨gb415, 1, none⟩) (Kd.R_far (p := ⟨gb415, 0, none⟩) (Kd.R_types HO413.out BK415.out (by decide)) (fun _ hk => hk.2) (.int .i64 t407)) (fun _ hk => hk.2) (.slice Ao41 t408.length co41)) (fun _ hk => hk.2) (.slice Ao42 t411.length co42)) (fun _ h_ => h_.1)))); (case side4 => exact (Kd.R_reads' HO413.out).2.1); (case side5 => exact Kd.C_nil _ _); (case side6 => exact Nat.le_refl _); (case side7 => exact Kd.C_nil _ _); (case side8 => exact Nat.le_refl _); rintro e w43 ⟨rfl, hb⟩; refine ⟨_, rfl, ?_⟩; have n0_ := Aside0.mk (Kd.R_below (by (with_reducible repeat (first | apply Kd.R_alloc | apply Kd.R_drewN | apply Kd.R_drew)); exact (Kd.R_mono (Kd.R_far (p := ⟨gb415, 2, none⟩) (Kd.R_far (p := ⟨gb415, 1, none⟩) (Kd.R_far (p := ⟨gb415, 0, none⟩) (Kd.R_types HO410.out BK415.out (by decide)) (fun _ hk => hk.2) (.int .i64 t407)) (fun _ hk => hk.2) (.slice Ao41 t408.length co41)) (fun _ hk => hk.2) (.slice Ao42 t411.length co42)) (fun _ h_ => h_.1))) hb); have n1_ := Aside0.mk (Kd.R_below (by (with_reducible repeat (first | apply Kd.R_alloc | apply Kd.R_drewN | apply Kd.R_drew)); exact (Kd.R_mono (Kd.R_far (p := ⟨gb415, 2, none⟩) (Kd.R_far (p := ⟨gb415, 1, none⟩) (Kd.R_far (p := ⟨gb415, 0, none⟩) (Kd.R_types HO413.out BK415.out (by decide)) (fun _ hk => hk.2) (.int .i64 t407)) (fun _ hk => hk.2) (.slice Ao41 t408.length co41)) (fun _ hk => hk.2) (.slice Ao42 t411.length co42)) (fun _ h_ => h_.1))) hb); have n2_ := Aside0.mk (blk_below (g := gb415) (o := .cells #[.int .i64 t407, .slice Ao41 t408.length co41, .slice Ao42 t411.length co42] 25 (0, 0)) (by (with_reducible repeat (first | refine blk_drewN ?_ _ | refine blk_drew ?_ | refine blk_alloc ?_ _)); refine blk_put (cs := #[.int .i64 t407, .slice Ao41 t408.length co41, .slice none 0 0]) ?_ 2 _ rfl; (with_reducible repeat (first | refine blk_drewN ?_ _ | refine blk_drew ?_ | refine blk_alloc ?_ _)); refine blk_put (cs := #[.int .i64 t407, .slice none 0 0, .slice none 0 0]) ?_ 1 _ rfl; (with_reducible repeat (first | refine blk_drewN ?_ _ | refine blk_drew ?_ | refine blk_alloc ?_ _)); refine blk_put (cs := #[.int .i64 0, .slice none 0 0, .slice none 0 0]) ?_ 0 _ rfl; (with_reducible repeat (first | refine blk_drewN ?_ _ | refine blk_drew ?_ | refine blk_alloc ?_ _)); exact BK415.out) hb); have n3_ := Aside0.mk (below_step (by repeat (first | (with_reducible first | exact HB.out | apply below_alloc | apply pw_below_drewN | apply below_drew1 | refine below_set ?_ GE415.out) | exact HB.out)) hb); clear HO410; clear HO413; clear BK415; clear HB; have HO410 := n0_; have HO413 := n1_; have BK415 := n2_; have HB := n3_; clear n0_ n1_ n2_ n3_; (try clear hb); (try clear hb2); (try clear hk); (try clear hi)))
      go_ret
      exact ⟨by first | rfl | (simp [errW_none, errW_some] <;> rfl) | (simp [*, errW_none, errW_some] <;> rfl), by repeat (first | (with_reducible first | exact HB.out | apply below_alloc | apply pw_below_drewN | apply below_drew1 | refine below_set ?_ GE415.out) | exact HB.out)⟩
  · replace c4 := Bool.eq_false_iff.mpr c4
    subst c4
    have H1 : (some false) = some r := by rw [if_neg (show ¬ (false = true) by decide)] at H; exact H
    clear H
    have H := H1
    clear H1
    obtain rfl := Option.some.inj H
    go_enter Tryd.func6, Tryd.ntmps6
    go_wp2_with (first | ((with_reducible refine gate_callee (f := 8) rfl ?_); refine goesL_ (some 9) rfl rfl Tryd.func8 (by kernel_rfl) rfl #[] rfl (by (try simp only [List.map_toArray, List.map_cons, List.map_nil]); first | done | rfl | (simp only [List.length_drop, List.length_take]; rfl)) ?_; (with_reducible refine (aumbrylaw06_wakes.calls k  false _ A3.out).mono ?_); rintro e w44 ⟨rfl, hb⟩; refine ⟨_, rfl, ?_⟩; have n0_ := Aside0.mk (below_step (by repeat (first | (with_reducible first | exact HB.out | apply below_alloc | apply pw_below_drewN | apply below_drew1) | exact HB.out)) hb); clear HB; have HB := n0_; clear n0_; (try clear hb); (try clear hb2); (try clear hk); (try clear hi)))
    go_ret
    exact ⟨by first | rfl | (simp [errW_none, errW_some] <;> rfl) | (simp [*, errW_none, errW_some] <;> rfl), by repeat (first | (with_reducible first | exact HB.out | apply below_alloc | apply pw_below_drewN | apply below_drew1) | exact HB.out)⟩

/-- THE ONE PURE STATEMENT of aumbrylaw06_RuleBack: yours. -/
def aumbrylaw06_RuleBack.Pure : Prop := ∀ (a0 : ByteArray) (a1 : ByteArray), a0.size ≤ 140737488351232 → a1.size ≤ 140737488351232 → ∃ k, aumbrylaw06_RuleBack.f k a0 a1 = some true
theorem aumbrylaw06_RuleBack.walk (P : aumbrylaw06_RuleBack.Pure) (a0 : ByteArray) (a1 : ByteArray) (w : World) (w0 : a0.size ≤ 140737488351232) (w1 : a1.size ≤ 140737488351232) :
    Calls Tryd.prog 6 #[.string a0, .string a1] w fun e w' => e = .returned (.bool true) ∧ Below w.heap.size w w' := by
  obtain ⟨k, h⟩ := P a0 a1 w0 w1
  refine (aumbrylaw06_RuleBack.calls k a0 a1 true w h).mono ?_
  rintro e w' ⟨rfl, hd⟩
  exact ⟨rfl, hd⟩

end Go.Proofs.YtnkpcnnbeaomnaaDoor.C
end

section
-- Written by a program of this session (a scratch print over hand-made contracts), out of the translation. Not trusted: Lean checks it.
namespace Go.Proofs.YtnkpcnnbeaomnaaDoor.C
open Go.RowKit Go.Proofs.YtnkpcnnbeaomnaaDoorW.PrintWords Go.Proofs.YtnkpcnnbeaomnaaDoorW.PrintLast Go.Proofs.YtnkpcnnbeaomnaaDoorW.PrintMore
attribute [local go_sem] max2_int min2_int max_two min_two max_three min_three max_four min_four   -- for this text's walks alone
set_option linter.unusedVariables false
set_option linter.unusedSimpArgs false

/-! ### aumbryref03_Kind: function 60 -/
mutual
def aumbryref03_Kind.j0 : Nat → ByteArray → Bool → Option (Int)
  | 0, _, _ => none
  | k + 1, x0, x15 => if x15 = true then (some 0) else (aumbryref03_Kind.l0 k x0 true true 0)
def aumbryref03_Kind.l0 : Nat → ByteArray → Bool → Bool → Int → Option (Int)
  | 0, _, _, _, _ => none
  | k + 1, x0, x3, x4, x5 => if x5 < (x0.size : Int) then (if 0 ≤ x5 then (if (bt x0 x5) ≥ 48 then (if (bt x0 x5) ≤ 57 then (if x3 = true then (if (bt x0 x5) ≥ 97 then (if (bt x0 x5) ≤ 122 then (if x4 = true then (if (bt x0 x5) ≥ 65 then (if (bt x0 x5) ≤ 90 then (aumbryref03_Kind.l0 k x0 true true (wrap64 (x5 + 1))) else (aumbryref03_Kind.l0 k x0 true (decide (x5 > 0)) (wrap64 (x5 + 1)))) else (aumbryref03_Kind.l0 k x0 true (decide (x5 > 0)) (wrap64 (x5 + 1)))) else (aumbryref03_Kind.l0 k x0 true false (wrap64 (x5 + 1)))) else (if x4 = true then (if (bt x0 x5) ≥ 65 then (if (bt x0 x5) ≤ 90 then (aumbryref03_Kind.l0 k x0 (decide (x5 > 0)) true (wrap64 (x5 + 1))) else (aumbryref03_Kind.l0 k x0 (decide (x5 > 0)) (decide (x5 > 0)) (wrap64 (x5 + 1)))) else (aumbryref03_Kind.l0 k x0 (decide (x5 > 0)) (decide (x5 > 0)) (wrap64 (x5 + 1)))) else (aumbryref03_Kind.l0 k x0 (decide (x5 > 0)) false (wrap64 (x5 + 1))))) else (if x4 = true then (if (bt x0 x5) ≥ 65 then (if (bt x0 x5) ≤ 90 then (aumbryref03_Kind.l0 k x0 (decide (x5 > 0)) true (wrap64 (x5 + 1))) else (aumbryref03_Kind.l0 k x0 (decide (x5 > 0)) (decide (x5 > 0)) (wrap64 (x5 + 1)))) else (aumbryref03_Kind.l0 k x0 (decide (x5 > 0)) (decide (x5 > 0)) (wrap64 (x5 + 1)))) else (aumbryref03_Kind.l0 k x0 (decide (x5 > 0)) false (wrap64 (x5 + 1))))) else (if x4 = true then (if (bt x0 x5) ≥ 65 then (if (bt x0 x5) ≤ 90 then (aumbryref03_Kind.l0 k x0 false true (wrap64 (x5 + 1))) else (aumbryref03_Kind.l0 k x0 false (decide (x5 > 0)) (wrap64 (x5 + 1)))) else (aumbryref03_Kind.l0 k x0 false (decide (x5 > 0)) (wrap64 (x5 + 1)))) else (aumbryref03_Kind.l0 k x0 false false (wrap64 (x5 + 1))))) else (if x3 = true then (if (bt x0 x5) ≥ 97 then (if (bt x0 x5) ≤ 122 then (if x4 = true then (if (bt x0 x5) ≥ 65 then (if (bt x0 x5) ≤ 90 then (aumbryref03_Kind.l0 k x0 true true (wrap64 (x5 + 1))) else (aumbryref03_Kind.l0 k x0 true false (wrap64 (x5 + 1)))) else (aumbryref03_Kind.l0 k x0 true false (wrap64 (x5 + 1)))) else (aumbryref03_Kind.l0 k x0 true false (wrap64 (x5 + 1)))) else (if x4 = true then (if (bt x0 x5) ≥ 65 then (if (bt x0 x5) ≤ 90 then (aumbryref03_Kind.l0 k x0 false true (wrap64 (x5 + 1))) else (aumbryref03_Kind.l0 k x0 false false (wrap64 (x5 + 1)))) else (aumbryref03_Kind.l0 k x0 false false (wrap64 (x5 + 1)))) else (aumbryref03_Kind.l0 k x0 false false (wrap64 (x5 + 1))))) else (if x4 = true then (if (bt x0 x5) ≥ 65 then (if (bt x0 x5) ≤ 90 then (aumbryref03_Kind.l0 k x0 false true (wrap64 (x5 + 1))) else (aumbryref03_Kind.l0 k x0 false false (wrap64 (x5 + 1)))) else (aumbryref03_Kind.l0 k x0 false false (wrap64 (x5 + 1)))) else (aumbryref03_Kind.l0 k x0 false false (wrap64 (x5 + 1))))) else (if x4 = true then (if (bt x0 x5) ≥ 65 then (if (bt x0 x5) ≤ 90 then (aumbryref03_Kind.l0 k x0 false true (wrap64 (x5 + 1))) else (aumbryref03_Kind.l0 k x0 false false (wrap64 (x5 + 1)))) else (aumbryref03_Kind.l0 k x0 false false (wrap64 (x5 + 1)))) else (aumbryref03_Kind.l0 k x0 false false (wrap64 (x5 + 1)))))) else (if x3 = true then (if (bt x0 x5) ≥ 97 then (if (bt x0 x5) ≤ 122 then (if x4 = true then (if (bt x0 x5) ≥ 65 then (if (bt x0 x5) ≤ 90 then (aumbryref03_Kind.l0 k x0 true true (wrap64 (x5 + 1))) else (aumbryref03_Kind.l0 k x0 true false (wrap64 (x5 + 1)))) else (aumbryref03_Kind.l0 k x0 true false (wrap64 (x5 + 1)))) else (aumbryref03_Kind.l0 k x0 true false (wrap64 (x5 + 1)))) else (if x4 = true then (if (bt x0 x5) ≥ 65 then (if (bt x0 x5) ≤ 90 then (aumbryref03_Kind.l0 k x0 false true (wrap64 (x5 + 1))) else (aumbryref03_Kind.l0 k x0 false false (wrap64 (x5 + 1)))) else (aumbryref03_Kind.l0 k x0 false false (wrap64 (x5 + 1)))) else (aumbryref03_Kind.l0 k x0 false false (wrap64 (x5 + 1))))) else (if x4 = true then (if (bt x0 x5) ≥ 65 then (if (bt x0 x5) ≤ 90 then (aumbryref03_Kind.l0 k x0 false true (wrap64 (x5 + 1))) else (aumbryref03_Kind.l0 k x0 false false (wrap64 (x5 + 1)))) else (aumbryref03_Kind.l0 k x0 false false (wrap64 (x5 + 1)))) else (aumbryref03_Kind.l0 k x0 false false (wrap64 (x5 + 1))))) else (if x4 = true then (if (bt x0 x5) ≥ 65 then (if (bt x0 x5) ≤ 90 then (aumbryref03_Kind.l0 k x0 false true (wrap64 (x5 + 1))) else (aumbryref03_Kind.l0 k x0 false false (wrap64 (x5 + 1)))) else (aumbryref03_Kind.l0 k x0 false false (wrap64 (x5 + 1)))) else (aumbryref03_Kind.l0 k x0 false false (wrap64 (x5 + 1)))))) else (none)) else (if x3 = true then (some 1) else (if x4 = true then (some 2) else (some 0)))
end
def aumbryref03_Kind.f (k : Nat) (a0 : ByteArray) : Option (Int) := if (a0.size : Int) < 1 then (aumbryref03_Kind.j0 k a0 true) else (aumbryref03_Kind.j0 k a0 (decide ((a0.size : Int) > 8)))

end Go.Proofs.YtnkpcnnbeaomnaaDoor.C
end

section
/- What kind of name a text is: the program's name.Kind and the reference's Kind come to the same plain answer, kindOf, at every text. -/
namespace Go.Proofs.YtnkpcnnbeaomnaaDoor.C
open Go.RowKit Go.Proofs.YtnkpcnnbeaomnaaDoorW.PrintWords Go.Proofs.YtnkpcnnbeaomnaaDoorW.PrintLast Go.Proofs.YtnkpcnnbeaomnaaDoorW.PrintMore
set_option linter.unusedVariables false
set_option linter.unusedSimpArgs false

def lo (c : Int) : Bool := decide (97 ≤ c ∧ c ≤ 122)
def up (c : Int) : Bool := decide (65 ≤ c ∧ c ≤ 90)
def dg (c : Int) : Bool := decide (48 ≤ c ∧ c ≤ 57)
def sg (c : Int) : Int × Int := if lo c then (1, 1) else if up c then (2, 2) else if dg c then (0, 3) else (0, 0)
def smB (s : ByteArray) (i : Nat) : Bool := lo (bt s i) || (dg (bt s i) && decide (0 < i))
def grB (s : ByteArray) (i : Nat) : Bool := up (bt s i) || (dg (bt s i) && decide (0 < i))
def allR (p : Nat → Bool) : Nat → Nat → Bool
  | 0, _ => true
  | d + 1, i => p i && allR p d (i + 1)
def kindOf (s : ByteArray) : Int := if s.size = 0 ∨ 8 < s.size then 0 else if allR (smB s) s.size 0 then 1 else if allR (grB s) s.size 0 then 2 else 0

theorem allR_congr {p q : Nat → Bool} : ∀ d i, (∀ j, i ≤ j → j < i + d → p j = q j) → allR p d i = allR q d i
  | 0, _, _ => rfl
  | d + 1, i, h => by
    simp only [allR]
    rw [h i (Nat.le_refl _) (by omega), allR_congr d (i + 1) (fun j h1 h2 => h j (by omega) (by omega))]

theorem sign_ev (c : Int) : Ev (fun k => name_sign.f k c) (sg c) := by
  refine ⟨2, fun k hk => ?_⟩
  obtain ⟨m, rfl⟩ : ∃ m, k = m + 2 := ⟨k - 2, by omega⟩
  unfold name_sign.f
  simp only [name_sign.j0, name_sign.j1, sg, lo, up, dg]
  by_cases a1 : 97 ≤ c
  · by_cases a2 : c ≤ 122
    · simp [a1, a2]
    · have a3 : ¬ c ≤ 90 := by omega
      have a4 : 65 ≤ c := by omega
      have a5 : 48 ≤ c := by omega
      have a6 : ¬ c ≤ 57 := by omega
      simp [a1, a2, a3, a4, a5, a6]
  · by_cases a3 : 65 ≤ c
    · by_cases a4 : c ≤ 90
      · simp [a1, a3, a4]
      · have a5 : 48 ≤ c := by omega
        have a6 : ¬ c ≤ 57 := by omega
        simp [a1, a3, a4, a5, a6]
    · by_cases a5 : 48 ≤ c
      · by_cases a6 : c ≤ 57
        · simp [a1, a3, a5, a6]
        · simp [a1, a3, a5, a6]
      · simp [a1, a3, a5]

theorem bits_tab : Go.bits .and .i64 1 1 = 1 ∧ Go.bits .and .i64 1 2 = 0 ∧ Go.bits .and .i64 2 1 = 0 ∧ Go.bits .and .i64 2 2 = 2 ∧ Go.bits .and .i64 3 1 = 1 ∧ Go.bits .and .i64 3 2 = 2 ∧ Go.bits .and .i64 0 1 = 0 ∧ Go.bits .and .i64 0 2 = 0 ∧ Go.bits .and .i64 1 0 = 0 ∧ Go.bits .and .i64 2 0 = 0 ∧ Go.bits .and .i64 3 0 = 0 ∧ Go.bits .and .i64 0 0 = 0 := by
  refine ⟨?_, ?_, ?_, ?_, ?_, ?_, ?_, ?_, ?_, ?_, ?_, ?_⟩ <;> decide +kernel

def cp (k c : Int) : Bool := decide (Go.bits .and .i64 (sg c).2 k ≠ 0)
theorem cp1 (c : Int) : cp 1 c = (lo c || dg c) := by
  obtain ⟨b1, b2, b3, b4, b5, b6, b7, b8, b9, b10, b11, b12⟩ := bits_tab
  unfold cp sg
  by_cases h1 : lo c = true
  · simp [h1, b1]
  · by_cases h2 : up c = true
    · have : dg c = false := by simp [up, dg] at h2 ⊢; omega
      simp [h1, h2, this, b3]
    · by_cases h3 : dg c = true
      · simp [h1, h2, h3, b5]
      · simp [h1, h2, h3, b7]
theorem cp2 (c : Int) : cp 2 c = (up c || dg c) := by
  obtain ⟨b1, b2, b3, b4, b5, b6, b7, b8, b9, b10, b11, b12⟩ := bits_tab
  unfold cp sg
  by_cases h1 : lo c = true
  · have h2 : up c = false := by simp [up, lo] at h1 ⊢; omega
    have h3 : dg c = false := by simp [dg, lo] at h1 ⊢; omega
    simp [h1, h2, h3, b2]
  · by_cases h2 : up c = true
    · simp [h1, h2, b4]
    · by_cases h3 : dg c = true
      · simp [h1, h2, h3, b6]
      · simp [h1, h2, h3, b8]

theorem kind_l0 (s : ByteArray) (kd : Int) (hs : s.size ≤ 4611686018427387904) : ∀ d i : Nat, i + d = s.size → Ev (fun k => name_Kind.l0 k s kd (s.size : Int) (i : Int)) (if allR (fun j => cp kd (bt s j)) d i then kd else 0)
  | 0, i, h => by
    refine Ev.step (f := fun _ => some kd) (fun k => ?_) (by simpa [allR] using Ev.now kd)
    simp only [name_Kind.l0]
    rw [if_neg (by omega)]
  | d + 1, i, h => by
    have ih := kind_l0 s kd hs d (i + 1) (by omega)
    have hw : wrap64 ((i : Int) + 1) = ((i + 1 : Nat) : Int) := by unfold wrap64; omega
    refine Ev.step (f := fun k => (name_sign.f k (bt s i)).bind fun bt104 => (if (Go.bits .and .i64 bt104.2 kd) = 0 then (some 0) else (name_Kind.l0 k s kd (s.size : Int) ((i + 1 : Nat) : Int)))) (fun k => ?_) ?_
    · simp only [name_Kind.l0]
      rw [if_pos (by omega), if_pos (by omega), if_pos (by omega), hw]
    · refine Ev.bind (sign_ev _) ?_
      by_cases hb : Go.bits .and .i64 (sg (bt s i)).2 kd = 0
      · simp only [hb, if_true]
        have : cp kd (bt s i) = false := by simp [cp, hb]
        simpa [allR, this] using Ev.now (0 : Int)
      · simp only [hb, if_false]
        have : cp kd (bt s i) = true := by simp [cp, hb]
        simpa only [allR, this, Bool.true_and] using ih


theorem kind_first (s : ByteArray) (n : Nat) (hn : s.size = n + 1) : (if allR (fun j => cp (sg (bt s 0)).1 (bt s j)) s.size 0 then (sg (bt s 0)).1 else 0) = (if allR (smB s) s.size 0 then 1 else if allR (grB s) s.size 0 then 2 else 0) := by
  have hsm : allR (smB s) s.size 0 = (lo (bt s 0) && allR (fun j => cp 1 (bt s j)) n 1) := by
    rw [hn]
    simp only [allR]
    have h0 : smB s 0 = lo (bt s 0) := by simp [smB]
    rw [h0, allR_congr n 1 (q := fun j => cp 1 (bt s j)) (fun j h1 h2 => by simp only [cp1, smB]; simp [show 0 < j from h1])]
  have hgr : allR (grB s) s.size 0 = (up (bt s 0) && allR (fun j => cp 2 (bt s j)) n 1) := by
    rw [hn]
    simp only [allR]
    have h0 : grB s 0 = up (bt s 0) := by simp [grB]
    rw [h0, allR_congr n 1 (q := fun j => cp 2 (bt s j)) (fun j h1 h2 => by simp only [cp2, grB]; simp [show 0 < j from h1])]
  rw [hsm, hgr]
  by_cases h1 : lo (bt s 0) = true
  · have h2 : up (bt s 0) = false := by simp [up, lo] at h1 ⊢; omega
    have hsg : (sg (bt s 0)).1 = 1 := by simp [sg, h1]
    have : cp 1 (bt s (0 : Nat)) = true := by rw [cp1]; simp [h1]
    rw [hsg, hn, show allR (fun j => cp 1 (bt s j)) (n + 1) 0 = (cp 1 (bt s (0 : Nat)) && allR (fun j => cp 1 (bt s j)) n 1) from rfl, this]
    simp [h1, h2]
  · by_cases h2 : up (bt s 0) = true
    · have hsg : (sg (bt s 0)).1 = 2 := by simp [sg, h1, h2]
      have : cp 2 (bt s (0 : Nat)) = true := by rw [cp2]; simp [h2]
      rw [hsg, hn, show allR (fun j => cp 2 (bt s j)) (n + 1) 0 = (cp 2 (bt s (0 : Nat)) && allR (fun j => cp 2 (bt s j)) n 1) from rfl, this]
      simp [h1, h2]
    · have hsg : (sg (bt s 0)).1 = 0 := by unfold sg; simp [h1, h2]; split <;> rfl
      rw [hsg]
      simp [h1, h2]

theorem tl_len (s : ByteArray) : s.toList.length = s.size := by rw [ByteArray.toList_eq, data_length]
theorem kind_ev (s : ByteArray) : Ev (fun k => name_Kind.f k s) (kindOf s) := by
  have hj1 : Ev (fun k => name_Kind.j0 k s true) 0 := Ev.step (f := fun _ => some 0) (fun k => by simp only [name_Kind.j0, if_true]) (Ev.now 0)
  by_cases h0 : s.toList = ([] : List UInt8)
  · have hz : s.size = 0 := by
      have : s.toList.length = 0 := by rw [h0]; rfl
      rwa [tl_len] at this
    have : kindOf s = 0 := by simp [kindOf, hz]
    rw [this]
    exact Ev.congr (fun k => by unfold name_Kind.f; rw [if_pos h0]) hj1
  · have hz : s.size ≠ 0 := by
      intro hz
      apply h0
      apply List.eq_nil_of_length_eq_zero
      rw [tl_len]
      exact hz
    by_cases h8 : 8 < s.size
    · have : kindOf s = 0 := by simp [kindOf, h8]
      rw [this]
      refine Ev.congr (fun k => ?_) hj1
      unfold name_Kind.f
      rw [if_neg h0]
      rw [show decide ((s.size : Int) > 8) = true from decide_eq_true (by omega)]
    · obtain ⟨n, hn⟩ : ∃ n, s.size = n + 1 := ⟨s.size - 1, by omega⟩
      have hk : kindOf s = (if allR (fun j => cp (sg (bt s 0)).1 (bt s j)) s.size 0 then (sg (bt s 0)).1 else 0) := by
        rw [kind_first s n hn]
        unfold kindOf
        rw [if_neg (by omega)]
      rw [hk]
      refine Ev.congr (f := fun k => name_Kind.j0 k s false) (fun k => ?_) ?_
      · unfold name_Kind.f
        rw [if_neg h0]
        rw [show decide ((s.size : Int) > 8) = false from decide_eq_false (by omega)]
      · refine Ev.step (f := fun k => (name_sign.f k (bt s 0)).bind fun bt102 => name_Kind.l0 k s bt102.1 (s.size : Int) 0) (fun k => ?_) ?_
        · simp only [name_Kind.j0]
          rw [if_neg (by decide), if_pos (by omega)]
        · exact Ev.bind (sign_ev _) (kind_l0 s _ (by omega) s.size 0 (by omega))

theorem rkind_step (k : Nat) (s : ByteArray) (a b : Bool) (i : Nat) (hi : i < s.size) (hs : s.size ≤ 4611686018427387904) :
    aumbryref03_Kind.l0 (k + 1) s a b (i : Int) = aumbryref03_Kind.l0 k s (a && smB s i) (b && grB s i) ((i + 1 : Nat) : Int) := by
  have hw : wrap64 ((i : Int) + 1) = ((i + 1 : Nat) : Int) := by unfold wrap64; omega
  have hd : decide ((i : Int) > 0) = decide (0 < i) := by
    by_cases h : 0 < i
    · rw [decide_eq_true h, decide_eq_true (by omega)]
    · rw [decide_eq_false h, decide_eq_false (by omega)]
  simp only [aumbryref03_Kind.l0]
  rw [if_pos (by omega), if_pos (by omega), hw, hd]
  unfold smB grB lo up dg
  generalize bt s i = c
  generalize decide (0 < i) = z
  by_cases c1 : c ≥ 48
  · by_cases c2 : c ≤ 57
    · have e1 : ¬ c ≥ 97 := by omega
      have e2 : ¬ c ≥ 65 := by omega
      have e3 : ¬ 97 ≤ c := by omega
      have e4 : ¬ 65 ≤ c := by omega
      have e5 : 48 ≤ c := by omega
      cases a <;> cases b <;> simp [c1, c2, e1, e2, e3, e4, e5]
    · by_cases c3 : c ≥ 65
      · by_cases c4 : c ≤ 90
        · have e1 : ¬ c ≥ 97 := by omega
          have e3 : ¬ 97 ≤ c := by omega
          have e4 : 65 ≤ c := by omega
          have e5 : 48 ≤ c := by omega
          cases a <;> cases b <;> simp [c1, c2, c3, c4, e1, e3, e4, e5]
        · by_cases c5 : c ≥ 97
          · by_cases c6 : c ≤ 122
            · have e3 : 97 ≤ c := by omega
              have e4 : 65 ≤ c := by omega
              have e5 : 48 ≤ c := by omega
              cases a <;> cases b <;> simp [c1, c2, c3, c4, c5, c6, e3, e4, e5]
            · have e3 : 97 ≤ c := by omega
              have e4 : 65 ≤ c := by omega
              have e5 : 48 ≤ c := by omega
              cases a <;> cases b <;> simp [c1, c2, c3, c4, c5, c6, e3, e4, e5]
          · have e3 : ¬ 97 ≤ c := by omega
            have e4 : 65 ≤ c := by omega
            have e5 : 48 ≤ c := by omega
            cases a <;> cases b <;> simp [c1, c2, c3, c4, c5, e3, e4, e5]
      · have e1 : ¬ c ≥ 97 := by omega
        have e3 : ¬ 97 ≤ c := by omega
        have e4 : ¬ 65 ≤ c := by omega
        have e5 : 48 ≤ c := by omega
        cases a <;> cases b <;> simp [c1, c2, c3, e1, e3, e4, e5]
  · have e1 : ¬ c ≥ 97 := by omega
    have e2 : ¬ c ≥ 65 := by omega
    have e3 : ¬ 97 ≤ c := by omega
    have e4 : ¬ 65 ≤ c := by omega
    have e5 : ¬ 48 ≤ c := by omega
    cases a <;> cases b <;> simp [c1, e1, e2, e3, e4, e5]

theorem rkind_l0 (s : ByteArray) (hs : s.size ≤ 4611686018427387904) : ∀ (d i : Nat) (a b : Bool), i + d = s.size → Ev (fun k => aumbryref03_Kind.l0 k s a b (i : Int)) (if (a && allR (smB s) d i) then 1 else if (b && allR (grB s) d i) then 2 else 0)
  | 0, i, a, b, h => by
    refine Ev.step (f := fun _ => some (if (a && allR (smB s) 0 i) then 1 else if (b && allR (grB s) 0 i) then 2 else 0)) (fun k => ?_) (Ev.now _)
    simp only [aumbryref03_Kind.l0]
    rw [if_neg (by omega)]
    cases a <;> cases b <;> simp [allR]
  | d + 1, i, a, b, h => by
    have ih := rkind_l0 s hs d (i + 1) (a && smB s i) (b && grB s i) (by omega)
    refine Ev.step (f := fun k => aumbryref03_Kind.l0 k s (a && smB s i) (b && grB s i) ((i + 1 : Nat) : Int)) (fun k => rkind_step k s a b i (by omega) hs) ?_
    have e1 : (a && allR (smB s) (d + 1) i) = ((a && smB s i) && allR (smB s) d (i + 1)) := by simp only [allR, Bool.and_assoc]
    have e2 : (b && allR (grB s) (d + 1) i) = ((b && grB s i) && allR (grB s) d (i + 1)) := by simp only [allR, Bool.and_assoc]
    rw [e1, e2]
    exact ih

theorem rkind_ev (s : ByteArray) : Ev (fun k => aumbryref03_Kind.f k s) (kindOf s) := by
  have hj1 : Ev (fun k => aumbryref03_Kind.j0 k s true) 0 := Ev.step (f := fun _ => some 0) (fun k => by simp only [aumbryref03_Kind.j0, if_true]) (Ev.now 0)
  by_cases hz : s.size = 0
  · have : kindOf s = 0 := by simp [kindOf, hz]
    rw [this]
    exact Ev.congr (fun k => by unfold aumbryref03_Kind.f; rw [if_pos (by omega)]) hj1
  · by_cases h8 : 8 < s.size
    · have : kindOf s = 0 := by simp [kindOf, h8]
      rw [this]
      refine Ev.congr (fun k => ?_) hj1
      unfold aumbryref03_Kind.f
      rw [if_neg (by omega)]
      rw [show decide ((s.size : Int) > 8) = true from decide_eq_true (by omega)]
    · have hk : kindOf s = (if (true && allR (smB s) s.size 0) then 1 else if (true && allR (grB s) s.size 0) then 2 else 0) := by
        unfold kindOf
        rw [if_neg (by omega)]
        simp
      rw [hk]
      refine Ev.congr (f := fun k => aumbryref03_Kind.j0 k s false) (fun k => ?_) ?_
      · unfold aumbryref03_Kind.f
        rw [if_neg (by omega)]
        rw [show decide ((s.size : Int) > 8) = false from decide_eq_false (by omega)]
      · refine Ev.step (f := fun k => aumbryref03_Kind.l0 k s true true 0) (fun k => ?_) ?_
        · simp only [aumbryref03_Kind.j0]
          rw [if_neg (by decide)]
        · exact rkind_l0 s (by omega) s.size 0 true true (by omega)

theorem Ev.det {α : Type} {g : Nat → Option α} {a b : α} (h : Ev g a) (k : Ev g b) : a = b := by
  obtain ⟨K, h⟩ := h
  obtain ⟨K', k⟩ := k
  have h1 := h (max K K') (by omega)
  have h2 := k (max K K') (by omega)
  exact Option.some.inj (h1.symm.trans h2)

end Go.Proofs.YtnkpcnnbeaomnaaDoor.C
end

section
-- Written by a program of this session (a scratch print over hand-made contracts), out of the translation. Not trusted: Lean checks it.
namespace Go.Proofs.YtnkpcnnbeaomnaaDoor.C
open Go.RowKit Go.Proofs.YtnkpcnnbeaomnaaDoorW.PrintWords Go.Proofs.YtnkpcnnbeaomnaaDoorW.PrintLast Go.Proofs.YtnkpcnnbeaomnaaDoorW.PrintMore
attribute [local go_sem] max2_int min2_int max_two min_two max_three min_three max_four min_four   -- for this text's walks alone
set_option linter.unusedVariables false
set_option linter.unusedSimpArgs false

/-! ### aumbryref04_Behind: function 61 -/

end Go.Proofs.YtnkpcnnbeaomnaaDoor.C
end

section
-- Written by a program of this session (a scratch print over hand-made contracts), out of the translation. Not trusted: Lean checks it.
namespace Go.Proofs.YtnkpcnnbeaomnaaDoor.C
open Go.RowKit Go.Proofs.YtnkpcnnbeaomnaaDoorW.PrintWords Go.Proofs.YtnkpcnnbeaomnaaDoorW.PrintLast Go.Proofs.YtnkpcnnbeaomnaaDoorW.PrintMore
attribute [local go_sem] max2_int min2_int max_two min_two max_three min_three max_four min_four   -- for this text's walks alone
set_option linter.unusedVariables false
set_option linter.unusedSimpArgs false

/-! ### aumbryref04_Check: function 36 -/

end Go.Proofs.YtnkpcnnbeaomnaaDoor.C
end
