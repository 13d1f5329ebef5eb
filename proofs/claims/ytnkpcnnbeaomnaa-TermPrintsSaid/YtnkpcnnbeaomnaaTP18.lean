import Derived.Test.YtnkpcnnbeaomnaaTP6
import Derived.Test.YtnkpcnnbeaomnaaTP11
import Derived.Test.YtnkpcnnbeaomnaaTP12
import Derived.Test.YtnkpcnnbeaomnaaTP14
import Derived.Test.YtnkpcnnbeaomnaaTP15
import Derived.Test.YtnkpcnnbeaomnaaTP16
import Derived.Test.YtnkpcnnbeaomnaaTP17
import Derived.Test.YtnkpcnnbeaomnaaTP10

section
-- Written by a program of this session (a scratch print over hand-made contracts), out of the translation. Not trusted: Lean checks it.
namespace Go.Proofs.Ytnkpcnnbeaomnaa.C
open Go.RowKit Go.Proofs.YtnkpcnnbeaomnaaW.PrintWords Go.Proofs.YtnkpcnnbeaomnaaW.PrintLast Go.Proofs.YtnkpcnnbeaomnaaW.PrintMore
attribute [local go_sem] max2_int min2_int max_two min_two max_three min_three max_four min_four   -- for this text's walks alone
set_option linter.unusedVariables false
set_option linter.unusedSimpArgs false

/-! ### aumbrylaw04_TermPrints: function 8 -/
def aumbrylaw04_TermPrints.j0 : Nat → List (S28) → ByteArray → Int → List ByteArray → Int → List (List (S28)) → ByteArray → Bool → Option (Bool)
  | 0, _, _, _, _, _, _, _, _ => none
  | k + 1, x0, x3, x4, x5, x7, x9, x11, x61 => if x61 = true then (some false) else (if x4 = 0 then (if x3.toList = x11.toList then ((aumbryref04_Vars.f k x0).bind fun t515 => ((aumbryref03_Same.f k x5 t515).bind fun t518 => (if t518 = true then ((aumbryref04_Depth.f k x0).bind fun t519 => (if x7 = t519 then ((aumbryref04_Kids.f k x0).bind fun t520 => ((aumbryref04_SameAll.f k x9 t520).bind fun t523 => (some t523))) else (some false))) else (some false)))) else (some false)) else (if x3.toList = ([] : List UInt8) then (if (x5.length : Int) = 0 then (if x7 = 0 then (some ((x9.length : Int) == 0)) else (some false)) else (some false)) else (some false)))
def aumbrylaw04_TermPrints.f (k : Nat) (l0 : List (S28)) : Option (Bool) := (aumbrylaw04_wakes.f k).bind fun t488 => (if t488 = true then ((aumbryref04_Copy.f l0).bind fun t489 => ((term_Print.f k t489).bind fun bt492 => ((aumbryref04_Copy.f l0).bind fun t494 => ((term_Vars.f k t494).bind fun bt497 => ((aumbryref04_Copy.f l0).bind fun t501 => ((term_Depth.f k t501).bind fun bt504 => ((aumbryref04_Copy.f l0).bind fun t506 => ((term_Kids.f k t506).bind fun bt509 => ((aumbryref04_Print.f k l0).bind fun bt513 => (if bt492.2 = bt513.2 then (if bt497.2 = bt492.2 then (if bt504.2 = bt492.2 then (aumbrylaw04_TermPrints.j0 k l0 bt492.1 bt492.2 bt497.1 bt504.1 bt509.1 bt513.1 (bt509.2 != bt492.2)) else (aumbrylaw04_TermPrints.j0 k l0 bt492.1 bt492.2 bt497.1 bt504.1 bt509.1 bt513.1 true)) else (aumbrylaw04_TermPrints.j0 k l0 bt492.1 bt492.2 bt497.1 bt504.1 bt509.1 bt513.1 true)) else (aumbrylaw04_TermPrints.j0 k l0 bt492.1 bt492.2 bt497.1 bt504.1 bt509.1 bt513.1 true))))))))))) else (some false))
theorem aumbrylaw04_TermPrints.mono_l : ∀ k, (∀ y0 y1 y2 y3 y4 y5 y6 y7, LeO (aumbrylaw04_TermPrints.j0 k y0 y1 y2 y3 y4 y5 y6 y7) (aumbrylaw04_TermPrints.j0 (k + 1) y0 y1 y2 y3 y4 y5 y6 y7))
  | 0 => fun _ _ _ _ _ _ _ _ r h => by simp [aumbrylaw04_TermPrints.j0] at h
  | k + 1 => by
    have ih0 := aumbrylaw04_TermPrints.mono_l k
    · intro y0 y1 y2 y3 y4 y5 y6 y7
      unfold aumbrylaw04_TermPrints.j0
      repeat' first
      | (with_reducible exact ih0 _ _ _ _ _ _ _ _)
      | (with_reducible exact aumbrylaw04_wakes.mono _)
      | (with_reducible exact aumbryref03_Same.mono _ _ _)
      | (with_reducible exact aumbryref04_Depth.mono _ _)
      | (with_reducible exact aumbryref04_Kids.mono _ _)
      | (with_reducible exact aumbryref04_Print.mono _ _)
      | (with_reducible exact aumbryref04_SameAll.mono _ _ _)
      | (with_reducible exact aumbryref04_Vars.mono _ _)
      | (with_reducible exact term_Depth.mono _ _)
      | (with_reducible exact term_Kids.mono _ _)
      | (with_reducible exact term_Print.mono _ _)
      | (with_reducible exact term_Vars.mono _ _)
      | (with_reducible exact LeO.refl _)
      | (with_reducible exact LeO.none _)
      | (with_reducible refine LeO.ite ?_ ?_)
      | (with_reducible refine LeO.bind ?_ (fun _ => ?_))
      | exact ih0 _ _ _ _ _ _ _ _
      | exact aumbrylaw04_wakes.mono _
      | exact aumbryref03_Same.mono _ _ _
      | exact aumbryref04_Depth.mono _ _
      | exact aumbryref04_Kids.mono _ _
      | exact aumbryref04_Print.mono _ _
      | exact aumbryref04_SameAll.mono _ _ _
      | exact aumbryref04_Vars.mono _ _
      | exact term_Depth.mono _ _
      | exact term_Kids.mono _ _
      | exact term_Print.mono _ _
      | exact term_Vars.mono _ _
      | exact LeO.none _
      | refine LeO.ite ?_ ?_
      | refine LeO.bind ?_ (fun _ => ?_)
theorem aumbrylaw04_TermPrints.mono : ∀ a0 k, LeO (aumbrylaw04_TermPrints.f k a0) (aumbrylaw04_TermPrints.f (k + 1) a0) := by
  intro a0 k
  have ih0 := aumbrylaw04_TermPrints.mono_l k
  unfold aumbrylaw04_TermPrints.f
  repeat' first
      | (with_reducible exact ih0 _ _ _ _ _ _ _ _)
      | (with_reducible exact aumbrylaw04_wakes.mono _)
      | (with_reducible exact aumbryref03_Same.mono _ _ _)
      | (with_reducible exact aumbryref04_Depth.mono _ _)
      | (with_reducible exact aumbryref04_Kids.mono _ _)
      | (with_reducible exact aumbryref04_Print.mono _ _)
      | (with_reducible exact aumbryref04_SameAll.mono _ _ _)
      | (with_reducible exact aumbryref04_Vars.mono _ _)
      | (with_reducible exact term_Depth.mono _ _)
      | (with_reducible exact term_Kids.mono _ _)
      | (with_reducible exact term_Print.mono _ _)
      | (with_reducible exact term_Vars.mono _ _)
      | (with_reducible exact LeO.refl _)
      | (with_reducible exact LeO.none _)
      | (with_reducible refine LeO.ite ?_ ?_)
      | (with_reducible refine LeO.bind ?_ (fun _ => ?_))
      | exact ih0 _ _ _ _ _ _ _ _
      | exact aumbrylaw04_wakes.mono _
      | exact aumbryref03_Same.mono _ _ _
      | exact aumbryref04_Depth.mono _ _
      | exact aumbryref04_Kids.mono _ _
      | exact aumbryref04_Print.mono _ _
      | exact aumbryref04_SameAll.mono _ _ _
      | exact aumbryref04_Vars.mono _ _
      | exact term_Depth.mono _ _
      | exact term_Kids.mono _ _
      | exact term_Print.mono _ _
      | exact term_Vars.mono _ _
      | exact LeO.none _
      | refine LeO.ite ?_ ?_
      | refine LeO.bind ?_ (fun _ => ?_)
set_option maxHeartbeats 8000000 in
set_option maxRecDepth 100000 in
theorem aumbrylaw04_TermPrints.calls (k : Nat) (A0 : Option Addr) (c0 : Nat) (l0 : List (S28)) (r : Bool) (w : World) (hr0 : Kd.C k28 w A0 l0.length l0) (hc0 : l0.length ≤ c0) (h : aumbrylaw04_TermPrints.f k l0 = some r) :
    Calls Try.prog 8 #[.slice A0 l0.length c0] w fun e w' => e = .returned (.bool r) ∧ Below w.heap.size w w' := by
  have HR0 := Aside0.mk hr0
  have HC0 := Aside0.mk hc0
  clear hr0 hc0
  have HB := Aside0.mk (Below.refl w.heap.size w)
  have H : ((aumbrylaw04_wakes.f k).bind fun t488 => (if t488 = true then ((aumbryref04_Copy.f l0).bind fun t489 => ((term_Print.f k t489).bind fun bt492 => ((aumbryref04_Copy.f l0).bind fun t494 => ((term_Vars.f k t494).bind fun bt497 => ((aumbryref04_Copy.f l0).bind fun t501 => ((term_Depth.f k t501).bind fun bt504 => ((aumbryref04_Copy.f l0).bind fun t506 => ((term_Kids.f k t506).bind fun bt509 => ((aumbryref04_Print.f k l0).bind fun bt513 => (if bt492.2 = bt513.2 then (if bt497.2 = bt492.2 then (if bt504.2 = bt492.2 then (aumbrylaw04_TermPrints.j0 k l0 bt492.1 bt492.2 bt497.1 bt504.1 bt509.1 bt513.1 (bt509.2 != bt492.2)) else (aumbrylaw04_TermPrints.j0 k l0 bt492.1 bt492.2 bt497.1 bt504.1 bt509.1 bt513.1 true)) else (aumbrylaw04_TermPrints.j0 k l0 bt492.1 bt492.2 bt497.1 bt504.1 bt509.1 bt513.1 true)) else (aumbrylaw04_TermPrints.j0 k l0 bt492.1 bt492.2 bt497.1 bt504.1 bt509.1 bt513.1 true))))))))))) else (some false))) = some r := h
  clear h
  replace H := Option.bind_eq_some_iff.mp H
  obtain ⟨t488, A20, H⟩ := H
  replace H : (if t488 = true then ((aumbryref04_Copy.f l0).bind fun t489 => ((term_Print.f k t489).bind fun bt492 => ((aumbryref04_Copy.f l0).bind fun t494 => ((term_Vars.f k t494).bind fun bt497 => ((aumbryref04_Copy.f l0).bind fun t501 => ((term_Depth.f k t501).bind fun bt504 => ((aumbryref04_Copy.f l0).bind fun t506 => ((term_Kids.f k t506).bind fun bt509 => ((aumbryref04_Print.f k l0).bind fun bt513 => (if bt492.2 = bt513.2 then (if bt497.2 = bt492.2 then (if bt504.2 = bt492.2 then (aumbrylaw04_TermPrints.j0 k l0 bt492.1 bt492.2 bt497.1 bt504.1 bt509.1 bt513.1 (bt509.2 != bt492.2)) else (aumbrylaw04_TermPrints.j0 k l0 bt492.1 bt492.2 bt497.1 bt504.1 bt509.1 bt513.1 true)) else (aumbrylaw04_TermPrints.j0 k l0 bt492.1 bt492.2 bt497.1 bt504.1 bt509.1 bt513.1 true)) else (aumbrylaw04_TermPrints.j0 k l0 bt492.1 bt492.2 bt497.1 bt504.1 bt509.1 bt513.1 true))))))))))) else (some false)) = some r := H
  have A2 := Aside0.mk A20
  clear A20
  by_cases c3 : t488 = true
  · subst c3
    have H1 : ((aumbryref04_Copy.f l0).bind fun t489 => ((term_Print.f k t489).bind fun bt492 => ((aumbryref04_Copy.f l0).bind fun t494 => ((term_Vars.f k t494).bind fun bt497 => ((aumbryref04_Copy.f l0).bind fun t501 => ((term_Depth.f k t501).bind fun bt504 => ((aumbryref04_Copy.f l0).bind fun t506 => ((term_Kids.f k t506).bind fun bt509 => ((aumbryref04_Print.f k l0).bind fun bt513 => (if bt492.2 = bt513.2 then (if bt497.2 = bt492.2 then (if bt504.2 = bt492.2 then (aumbrylaw04_TermPrints.j0 k l0 bt492.1 bt492.2 bt497.1 bt504.1 bt509.1 bt513.1 (bt509.2 != bt492.2)) else (aumbrylaw04_TermPrints.j0 k l0 bt492.1 bt492.2 bt497.1 bt504.1 bt509.1 bt513.1 true)) else (aumbrylaw04_TermPrints.j0 k l0 bt492.1 bt492.2 bt497.1 bt504.1 bt509.1 bt513.1 true)) else (aumbrylaw04_TermPrints.j0 k l0 bt492.1 bt492.2 bt497.1 bt504.1 bt509.1 bt513.1 true))))))))))) = some r := by rw [if_pos rfl] at H; exact H
    clear H
    have H := H1
    clear H1
    replace H := Option.bind_eq_some_iff.mp H
    obtain ⟨t489, A40, H⟩ := H
    replace H : ((term_Print.f k t489).bind fun bt492 => ((aumbryref04_Copy.f l0).bind fun t494 => ((term_Vars.f k t494).bind fun bt497 => ((aumbryref04_Copy.f l0).bind fun t501 => ((term_Depth.f k t501).bind fun bt504 => ((aumbryref04_Copy.f l0).bind fun t506 => ((term_Kids.f k t506).bind fun bt509 => ((aumbryref04_Print.f k l0).bind fun bt513 => (if bt492.2 = bt513.2 then (if bt497.2 = bt492.2 then (if bt504.2 = bt492.2 then (aumbrylaw04_TermPrints.j0 k l0 bt492.1 bt492.2 bt497.1 bt504.1 bt509.1 bt513.1 (bt509.2 != bt492.2)) else (aumbrylaw04_TermPrints.j0 k l0 bt492.1 bt492.2 bt497.1 bt504.1 bt509.1 bt513.1 true)) else (aumbrylaw04_TermPrints.j0 k l0 bt492.1 bt492.2 bt497.1 bt504.1 bt509.1 bt513.1 true)) else (aumbrylaw04_TermPrints.j0 k l0 bt492.1 bt492.2 bt497.1 bt504.1 bt509.1 bt513.1 true)))))))))) = some r := H
    have A4 := Aside0.mk A40
    clear A40
    replace H := Option.bind_eq_some_iff.mp H
    obtain ⟨⟨t492, t493⟩, A50, H⟩ := H
    replace H : ((aumbryref04_Copy.f l0).bind fun t494 => ((term_Vars.f k t494).bind fun bt497 => ((aumbryref04_Copy.f l0).bind fun t501 => ((term_Depth.f k t501).bind fun bt504 => ((aumbryref04_Copy.f l0).bind fun t506 => ((term_Kids.f k t506).bind fun bt509 => ((aumbryref04_Print.f k l0).bind fun bt513 => (if t493 = bt513.2 then (if bt497.2 = t493 then (if bt504.2 = t493 then (aumbrylaw04_TermPrints.j0 k l0 t492 t493 bt497.1 bt504.1 bt509.1 bt513.1 (bt509.2 != t493)) else (aumbrylaw04_TermPrints.j0 k l0 t492 t493 bt497.1 bt504.1 bt509.1 bt513.1 true)) else (aumbrylaw04_TermPrints.j0 k l0 t492 t493 bt497.1 bt504.1 bt509.1 bt513.1 true)) else (aumbrylaw04_TermPrints.j0 k l0 t492 t493 bt497.1 bt504.1 bt509.1 bt513.1 true))))))))) = some r := H
    have A5 := Aside0.mk A50
    clear A50
    replace H := Option.bind_eq_some_iff.mp H
    obtain ⟨t494, A60, H⟩ := H
    replace H : ((term_Vars.f k t494).bind fun bt497 => ((aumbryref04_Copy.f l0).bind fun t501 => ((term_Depth.f k t501).bind fun bt504 => ((aumbryref04_Copy.f l0).bind fun t506 => ((term_Kids.f k t506).bind fun bt509 => ((aumbryref04_Print.f k l0).bind fun bt513 => (if t493 = bt513.2 then (if bt497.2 = t493 then (if bt504.2 = t493 then (aumbrylaw04_TermPrints.j0 k l0 t492 t493 bt497.1 bt504.1 bt509.1 bt513.1 (bt509.2 != t493)) else (aumbrylaw04_TermPrints.j0 k l0 t492 t493 bt497.1 bt504.1 bt509.1 bt513.1 true)) else (aumbrylaw04_TermPrints.j0 k l0 t492 t493 bt497.1 bt504.1 bt509.1 bt513.1 true)) else (aumbrylaw04_TermPrints.j0 k l0 t492 t493 bt497.1 bt504.1 bt509.1 bt513.1 true)))))))) = some r := H
    have A6 := Aside0.mk A60
    clear A60
    replace H := Option.bind_eq_some_iff.mp H
    obtain ⟨⟨t497, t498⟩, A70, H⟩ := H
    replace H : ((aumbryref04_Copy.f l0).bind fun t501 => ((term_Depth.f k t501).bind fun bt504 => ((aumbryref04_Copy.f l0).bind fun t506 => ((term_Kids.f k t506).bind fun bt509 => ((aumbryref04_Print.f k l0).bind fun bt513 => (if t493 = bt513.2 then (if t498 = t493 then (if bt504.2 = t493 then (aumbrylaw04_TermPrints.j0 k l0 t492 t493 t497 bt504.1 bt509.1 bt513.1 (bt509.2 != t493)) else (aumbrylaw04_TermPrints.j0 k l0 t492 t493 t497 bt504.1 bt509.1 bt513.1 true)) else (aumbrylaw04_TermPrints.j0 k l0 t492 t493 t497 bt504.1 bt509.1 bt513.1 true)) else (aumbrylaw04_TermPrints.j0 k l0 t492 t493 t497 bt504.1 bt509.1 bt513.1 true))))))) = some r := H
    have A7 := Aside0.mk A70
    clear A70
    replace H := Option.bind_eq_some_iff.mp H
    obtain ⟨t501, A80, H⟩ := H
    replace H : ((term_Depth.f k t501).bind fun bt504 => ((aumbryref04_Copy.f l0).bind fun t506 => ((term_Kids.f k t506).bind fun bt509 => ((aumbryref04_Print.f k l0).bind fun bt513 => (if t493 = bt513.2 then (if t498 = t493 then (if bt504.2 = t493 then (aumbrylaw04_TermPrints.j0 k l0 t492 t493 t497 bt504.1 bt509.1 bt513.1 (bt509.2 != t493)) else (aumbrylaw04_TermPrints.j0 k l0 t492 t493 t497 bt504.1 bt509.1 bt513.1 true)) else (aumbrylaw04_TermPrints.j0 k l0 t492 t493 t497 bt504.1 bt509.1 bt513.1 true)) else (aumbrylaw04_TermPrints.j0 k l0 t492 t493 t497 bt504.1 bt509.1 bt513.1 true)))))) = some r := H
    have A8 := Aside0.mk A80
    clear A80
    replace H := Option.bind_eq_some_iff.mp H
    obtain ⟨⟨t504, t505⟩, A90, H⟩ := H
    replace H : ((aumbryref04_Copy.f l0).bind fun t506 => ((term_Kids.f k t506).bind fun bt509 => ((aumbryref04_Print.f k l0).bind fun bt513 => (if t493 = bt513.2 then (if t498 = t493 then (if t505 = t493 then (aumbrylaw04_TermPrints.j0 k l0 t492 t493 t497 t504 bt509.1 bt513.1 (bt509.2 != t493)) else (aumbrylaw04_TermPrints.j0 k l0 t492 t493 t497 t504 bt509.1 bt513.1 true)) else (aumbrylaw04_TermPrints.j0 k l0 t492 t493 t497 t504 bt509.1 bt513.1 true)) else (aumbrylaw04_TermPrints.j0 k l0 t492 t493 t497 t504 bt509.1 bt513.1 true))))) = some r := H
    have A9 := Aside0.mk A90
    clear A90
    replace H := Option.bind_eq_some_iff.mp H
    obtain ⟨t506, A100, H⟩ := H
    replace H : ((term_Kids.f k t506).bind fun bt509 => ((aumbryref04_Print.f k l0).bind fun bt513 => (if t493 = bt513.2 then (if t498 = t493 then (if t505 = t493 then (aumbrylaw04_TermPrints.j0 k l0 t492 t493 t497 t504 bt509.1 bt513.1 (bt509.2 != t493)) else (aumbrylaw04_TermPrints.j0 k l0 t492 t493 t497 t504 bt509.1 bt513.1 true)) else (aumbrylaw04_TermPrints.j0 k l0 t492 t493 t497 t504 bt509.1 bt513.1 true)) else (aumbrylaw04_TermPrints.j0 k l0 t492 t493 t497 t504 bt509.1 bt513.1 true)))) = some r := H
    have A10 := Aside0.mk A100
    clear A100
    replace H := Option.bind_eq_some_iff.mp H
    obtain ⟨⟨t509, t510⟩, A110, H⟩ := H
    replace H : ((aumbryref04_Print.f k l0).bind fun bt513 => (if t493 = bt513.2 then (if t498 = t493 then (if t505 = t493 then (aumbrylaw04_TermPrints.j0 k l0 t492 t493 t497 t504 t509 bt513.1 (t510 != t493)) else (aumbrylaw04_TermPrints.j0 k l0 t492 t493 t497 t504 t509 bt513.1 true)) else (aumbrylaw04_TermPrints.j0 k l0 t492 t493 t497 t504 t509 bt513.1 true)) else (aumbrylaw04_TermPrints.j0 k l0 t492 t493 t497 t504 t509 bt513.1 true))) = some r := H
    have A11 := Aside0.mk A110
    clear A110
    replace H := Option.bind_eq_some_iff.mp H
    obtain ⟨⟨t513, t514⟩, A120, H⟩ := H
    replace H : (if t493 = t514 then (if t498 = t493 then (if t505 = t493 then (aumbrylaw04_TermPrints.j0 k l0 t492 t493 t497 t504 t509 t513 (t510 != t493)) else (aumbrylaw04_TermPrints.j0 k l0 t492 t493 t497 t504 t509 t513 true)) else (aumbrylaw04_TermPrints.j0 k l0 t492 t493 t497 t504 t509 t513 true)) else (aumbrylaw04_TermPrints.j0 k l0 t492 t493 t497 t504 t509 t513 true)) = some r := H
    have A12 := Aside0.mk A120
    clear A120
    have HC13 := Aside0.mk H
    clear H
    go_enter Try.func8, Try.ntmps8
    go_upto_region 8 with (first | ((with_reducible refine gate_callee (f := 16) rfl ?_); refine goesL_ (some 13) rfl rfl Try.func16 (by kernel_rfl) rfl #[] rfl (by (try simp only [List.map_toArray, List.map_cons, List.map_nil]); first | done | rfl | (simp only [List.length_drop, List.length_take]; rfl)) ?_; (with_reducible refine (aumbrylaw04_wakes.calls k  true _ A2.out).mono ?_); rintro e w14 ⟨rfl, hb⟩; refine ⟨_, rfl, ?_⟩; have n0_ := Aside0.mk (below_step (by repeat (first | (with_reducible first | exact HB.out | apply below_alloc | apply pw_below_drewN | apply below_drew1) | exact HB.out)) hb); clear HB; have HB := n0_; clear n0_; (try clear hb); (try clear hb2); (try clear hk); (try clear hi)) | ((with_reducible refine gate_callee (f := 20) rfl ?_); refine goesL_ (some 17) rfl rfl Try.func20 (by kernel_rfl) rfl #[.slice A0 l0.length c0] rfl (by (try simp only [List.map_toArray, List.map_cons, List.map_nil]); first | done | rfl | (simp only [List.length_drop, List.length_take]; rfl)) ?_; (with_reducible refine (aumbryref04_Copy.calls _ _ l0 t489 _ ?side1 ?side2 A4.out).mono ?_); (case side1 => repeat (first | exact (Kd.C_below HR0.out HB.out) | (with_reducible refine Kd.C_alloc ?_ _) | (with_reducible refine Kd.C_drewN ?_ _) | (with_reducible refine Kd.C_drew ?_))); (case side2 => exact HC0.out); rintro e w15 ⟨v490, rfl, ho0, hb⟩; refine ⟨_, rfl, ?_⟩; have n0_ := Aside0.mk (Kd.R_lower ho0 (below_size (by repeat (first | (with_reducible first | exact HB.out | apply below_alloc | apply pw_below_drewN | apply below_drew1) | exact HB.out)))); have n1_ := Aside0.mk (below_step (by repeat (first | (with_reducible first | exact HB.out | apply below_alloc | apply pw_below_drewN | apply below_drew1) | exact HB.out)) hb); clear HB; have HO491 := n0_; have HB := n1_; clear n0_ n1_; (try clear hb); (try clear hb2); (try clear hk); (try clear hi); (try clear ho0); obtain ⟨Ao16, co16, eo16⟩ := Kd.R_slice HO491.out; subst eo16) | ((with_reducible refine gate_callee (f := 19) rfl ?_); refine goesL_ (some 18) rfl rfl Try.func19 (by kernel_rfl) rfl #[.slice Ao16 t489.length co16] rfl (by (try simp only [List.map_toArray, List.map_cons, List.map_nil]); first | done | rfl | (simp only [List.length_drop, List.length_take]; rfl)) ?_; (with_reducible refine (term_Print.calls k _ _ t489 t492 t493 _ ?side1 ?side2 A5.out).mono ?_); (case side1 => repeat (first | exact (Kd.R_reads' HO491.out).2.2 | (with_reducible refine Kd.C_alloc ?_ _) | (with_reducible refine Kd.C_drewN ?_ _) | (with_reducible refine Kd.C_drew ?_))); (case side2 => exact (Kd.R_reads' HO491.out).2.1); rintro e w17 ⟨rfl, hb⟩; refine ⟨_, rfl, ?_⟩; have n0_ := Aside0.mk (Kd.R_below (by (with_reducible repeat (first | apply Kd.R_alloc | apply Kd.R_drewN | apply Kd.R_drew)); exact HO491.out) hb); have n1_ := Aside0.mk (below_step (by repeat (first | (with_reducible first | exact HB.out | apply below_alloc | apply pw_below_drewN | apply below_drew1) | exact HB.out)) hb); clear HO491; clear HB; have HO491 := n0_; have HB := n1_; clear n0_ n1_; (try clear hb); (try clear hb2); (try clear hk); (try clear hi)) | ((with_reducible refine gate_callee (f := 20) rfl ?_); refine goesL_ (some 23) rfl rfl Try.func20 (by kernel_rfl) rfl #[.slice A0 l0.length c0] rfl (by (try simp only [List.map_toArray, List.map_cons, List.map_nil]); first | done | rfl | (simp only [List.length_drop, List.length_take]; rfl)) ?_; (with_reducible refine (aumbryref04_Copy.calls _ _ l0 t494 _ ?side1 ?side2 A6.out).mono ?_); (case side1 => repeat (first | exact (Kd.C_below HR0.out HB.out) | (with_reducible refine Kd.C_alloc ?_ _) | (with_reducible refine Kd.C_drewN ?_ _) | (with_reducible refine Kd.C_drew ?_))); (case side2 => exact HC0.out); rintro e w18 ⟨v495, rfl, ho0, hb⟩; refine ⟨_, rfl, ?_⟩; have n0_ := Aside0.mk (Kd.R_elder' (by (with_reducible repeat (first | apply Kd.R_alloc | apply Kd.R_drewN | apply Kd.R_drew)); exact HO491.out) (Kd.R_base ho0) hb); have n1_ := Aside0.mk (Kd.R_lower (Kd.R_new' ho0 (Kd.R_lt (by (with_reducible repeat (first | apply Kd.R_alloc | apply Kd.R_drewN | apply Kd.R_drew)); exact HO491.out))) (below_size (by repeat (first | (with_reducible first | exact HB.out | apply below_alloc | apply pw_below_drewN | apply below_drew1) | exact HB.out)))); have n2_ := Aside0.mk (below_step (by repeat (first | (with_reducible first | exact HB.out | apply below_alloc | apply pw_below_drewN | apply below_drew1) | exact HB.out)) hb); clear HO491; clear HB; have HO491 := n0_; have HO496 := n1_; have HB := n2_; clear n0_ n1_ n2_; (try clear hb); (try clear hb2); (try clear hk); (try clear hi); (try clear ho0); obtain ⟨Ao19, co19, eo19⟩ := Kd.R_slice HO496.out; subst eo19) | ((with_reducible refine gate_callee (f := 28) rfl ?_); refine goesL_ (some 24) rfl rfl Try.func28 (by kernel_rfl) rfl #[.slice Ao19 t494.length co19] rfl (by (try simp only [List.map_toArray, List.map_cons, List.map_nil]); first | done | rfl | (simp only [List.length_drop, List.length_take]; rfl)) ?_; (with_reducible refine (term_Vars.calls k _ _ t494 t497 t498 _ ?side1 ?side2 A7.out).mono ?_); (case side1 => repeat (first | exact (Kd.R_reads' HO496.out).2.2 | (with_reducible refine Kd.C_alloc ?_ _) | (with_reducible refine Kd.C_drewN ?_ _) | (with_reducible refine Kd.C_drew ?_))); (case side2 => exact (Kd.R_reads' HO496.out).2.1); rintro e w20 ⟨v499, rfl, ho0, hb⟩; refine ⟨_, rfl, ?_⟩; have n0_ := Aside0.mk (Kd.R_below (by (with_reducible repeat (first | apply Kd.R_alloc | apply Kd.R_drewN | apply Kd.R_drew)); exact HO491.out) hb); have n1_ := Aside0.mk (Kd.R_below (by (with_reducible repeat (first | apply Kd.R_alloc | apply Kd.R_drewN | apply Kd.R_drew)); exact HO496.out) hb); have n2_ := Aside0.mk (Kd.R_lower ho0 (below_size (by repeat (first | (with_reducible first | exact HB.out | apply below_alloc | apply pw_below_drewN | apply below_drew1) | exact HB.out)))); have n3_ := Aside0.mk (below_step (by repeat (first | (with_reducible first | exact HB.out | apply below_alloc | apply pw_below_drewN | apply below_drew1) | exact HB.out)) hb); clear HO491; clear HO496; clear HB; have HO491 := n0_; have HO496 := n1_; have HO500 := n2_; have HB := n3_; clear n0_ n1_ n2_ n3_; (try clear hb); (try clear hb2); (try clear hk); (try clear hi); (try clear ho0)) | ((with_reducible refine gate_callee (f := 20) rfl ?_); refine goesL_ (some 29) rfl rfl Try.func20 (by kernel_rfl) rfl #[.slice A0 l0.length c0] rfl (by (try simp only [List.map_toArray, List.map_cons, List.map_nil]); first | done | rfl | (simp only [List.length_drop, List.length_take]; rfl)) ?_; (with_reducible refine (aumbryref04_Copy.calls _ _ l0 t501 _ ?side1 ?side2 A8.out).mono ?_); (case side1 => repeat (first | exact (Kd.C_below HR0.out HB.out) | (with_reducible refine Kd.C_alloc ?_ _) | (with_reducible refine Kd.C_drewN ?_ _) | (with_reducible refine Kd.C_drew ?_))); (case side2 => exact HC0.out); rintro e w21 ⟨v502, rfl, ho0, hb⟩; refine ⟨_, rfl, ?_⟩; have n0_ := Aside0.mk (Kd.R_elder' (by (with_reducible repeat (first | apply Kd.R_alloc | apply Kd.R_drewN | apply Kd.R_drew)); exact HO491.out) (Kd.R_base ho0) hb); have n1_ := Aside0.mk (Kd.R_elder' (by (with_reducible repeat (first | apply Kd.R_alloc | apply Kd.R_drewN | apply Kd.R_drew)); exact HO496.out) (Kd.R_base ho0) hb); have n2_ := Aside0.mk (Kd.R_below (by (with_reducible repeat (first | apply Kd.R_alloc | apply Kd.R_drewN | apply Kd.R_drew)); exact HO500.out) hb); have n3_ := Aside0.mk (Kd.R_lower (Kd.R_new' (Kd.R_new' ho0 (Kd.R_lt (by (with_reducible repeat (first | apply Kd.R_alloc | apply Kd.R_drewN | apply Kd.R_drew)); exact HO491.out))) (Kd.R_lt (by (with_reducible repeat (first | apply Kd.R_alloc | apply Kd.R_drewN | apply Kd.R_drew)); exact HO496.out))) (below_size (by repeat (first | (with_reducible first | exact HB.out | apply below_alloc | apply pw_below_drewN | apply below_drew1) | exact HB.out)))); have n4_ := Aside0.mk (below_step (by repeat (first | (with_reducible first | exact HB.out | apply below_alloc | apply pw_below_drewN | apply below_drew1) | exact HB.out)) hb); clear HO491; clear HO496; clear HO500; clear HB; have HO491 := n0_; have HO496 := n1_; have HO500 := n2_; have HO503 := n3_; have HB := n4_; clear n0_ n1_ n2_ n3_ n4_; (try clear hb); (try clear hb2); (try clear hk); (try clear hi); (try clear ho0); obtain ⟨Ao22, co22, eo22⟩ := Kd.R_slice HO503.out; subst eo22) | ((with_reducible refine gate_callee (f := 29) rfl ?_); refine goesL_ (some 30) rfl rfl Try.func29 (by kernel_rfl) rfl #[.slice Ao22 t501.length co22] rfl (by (try simp only [List.map_toArray, List.map_cons, List.map_nil]); first | done | rfl | (simp only [List.length_drop, List.length_take]; rfl)) ?_; (with_reducible refine (term_Depth.calls k _ _ t501 t504 t505 _ ?side1 ?side2 A9.out).mono ?_); (case side1 => repeat (first | exact (Kd.R_reads' HO503.out).2.2 | (with_reducible refine Kd.C_alloc ?_ _) | (with_reducible refine Kd.C_drewN ?_ _) | (with_reducible refine Kd.C_drew ?_))); (case side2 => exact (Kd.R_reads' HO503.out).2.1); rintro e w23 ⟨rfl, hb⟩; refine ⟨_, rfl, ?_⟩; have n0_ := Aside0.mk (Kd.R_below (by (with_reducible repeat (first | apply Kd.R_alloc | apply Kd.R_drewN | apply Kd.R_drew)); exact HO491.out) hb); have n1_ := Aside0.mk (Kd.R_below (by (with_reducible repeat (first | apply Kd.R_alloc | apply Kd.R_drewN | apply Kd.R_drew)); exact HO496.out) hb); have n2_ := Aside0.mk (Kd.R_below (by (with_reducible repeat (first | apply Kd.R_alloc | apply Kd.R_drewN | apply Kd.R_drew)); exact HO500.out) hb); have n3_ := Aside0.mk (Kd.R_below (by (with_reducible repeat (first | apply Kd.R_alloc | apply Kd.R_drewN | apply Kd.R_drew)); exact HO503.out) hb); have n4_ := Aside0.mk (below_step (by repeat (first | (with_reducible first | exact HB.out | apply below_alloc | apply pw_below_drewN | apply below_drew1) | exact HB.out)) hb); clear HO491; clear HO496; clear HO500; clear HO503; clear HB; have HO491 := n0_; have HO496 := n1_; have HO500 := n2_; have HO503 := n3_; have HB := n4_; clear n0_ n1_ n2_ n3_ n4_; (try clear hb); (try clear hb2); (try clear hk); (try clear hi)) | ((with_reducible refine gate_callee (f := 20) rfl ?_); refine goesL_ (some 35) rfl rfl Try.func20 (by kernel_rfl) rfl #[.slice A0 l0.length c0] rfl (by (try simp only [List.map_toArray, List.map_cons, List.map_nil]); first | done | rfl | (simp only [List.length_drop, List.length_take]; rfl)) ?_; (with_reducible refine (aumbryref04_Copy.calls _ _ l0 t506 _ ?side1 ?side2 A10.out).mono ?_); (case side1 => repeat (first | exact (Kd.C_below HR0.out HB.out) | (with_reducible refine Kd.C_alloc ?_ _) | (with_reducible refine Kd.C_drewN ?_ _) | (with_reducible refine Kd.C_drew ?_))); (case side2 => exact HC0.out); rintro e w24 ⟨v507, rfl, ho0, hb⟩; refine ⟨_, rfl, ?_⟩; have n0_ := Aside0.mk (Kd.R_elder' (by (with_reducible repeat (first | apply Kd.R_alloc | apply Kd.R_drewN | apply Kd.R_drew)); exact HO491.out) (Kd.R_base ho0) hb); have n1_ := Aside0.mk (Kd.R_elder' (by (with_reducible repeat (first | apply Kd.R_alloc | apply Kd.R_drewN | apply Kd.R_drew)); exact HO496.out) (Kd.R_base ho0) hb); have n2_ := Aside0.mk (Kd.R_below (by (with_reducible repeat (first | apply Kd.R_alloc | apply Kd.R_drewN | apply Kd.R_drew)); exact HO500.out) hb); have n3_ := Aside0.mk (Kd.R_elder' (by (with_reducible repeat (first | apply Kd.R_alloc | apply Kd.R_drewN | apply Kd.R_drew)); exact HO503.out) (Kd.R_base ho0) hb); have n4_ := Aside0.mk (Kd.R_lower (Kd.R_new' (Kd.R_new' (Kd.R_new' ho0 (Kd.R_lt (by (with_reducible repeat (first | apply Kd.R_alloc | apply Kd.R_drewN | apply Kd.R_drew)); exact HO491.out))) (Kd.R_lt (by (with_reducible repeat (first | apply Kd.R_alloc | apply Kd.R_drewN | apply Kd.R_drew)); exact HO496.out))) (Kd.R_lt (by (with_reducible repeat (first | apply Kd.R_alloc | apply Kd.R_drewN | apply Kd.R_drew)); exact HO503.out))) (below_size (by repeat (first | (with_reducible first | exact HB.out | apply below_alloc | apply pw_below_drewN | apply below_drew1) | exact HB.out)))); have n5_ := Aside0.mk (below_step (by repeat (first | (with_reducible first | exact HB.out | apply below_alloc | apply pw_below_drewN | apply below_drew1) | exact HB.out)) hb); clear HO491; clear HO496; clear HO500; clear HO503; clear HB; have HO491 := n0_; have HO496 := n1_; have HO500 := n2_; have HO503 := n3_; have HO508 := n4_; have HB := n5_; clear n0_ n1_ n2_ n3_ n4_ n5_; (try clear hb); (try clear hb2); (try clear hk); (try clear hi); (try clear ho0); obtain ⟨Ao25, co25, eo25⟩ := Kd.R_slice HO508.out; subst eo25) | ((with_reducible refine gate_callee (f := 24) rfl ?_); refine goesL_ (some 36) rfl rfl Try.func24 (by kernel_rfl) rfl #[.slice Ao25 t506.length co25] rfl (by (try simp only [List.map_toArray, List.map_cons, List.map_nil]); first | done | rfl | (simp only [List.length_drop, List.length_take]; rfl)) ?_; (with_reducible refine (term_Kids.calls k _ _ t506 t509 t510 _ ?side1 ?side2 A11.out).mono ?_); (case side1 => repeat (first | exact (Kd.R_reads' HO508.out).2.2 | (with_reducible refine Kd.C_alloc ?_ _) | (with_reducible refine Kd.C_drewN ?_ _) | (with_reducible refine Kd.C_drew ?_))); (case side2 => exact (Kd.R_reads' HO508.out).2.1); rintro e w26 ⟨v511, rfl, ho0, hb⟩; refine ⟨_, rfl, ?_⟩; have n0_ := Aside0.mk (Kd.R_below (by (with_reducible repeat (first | apply Kd.R_alloc | apply Kd.R_drewN | apply Kd.R_drew)); exact HO491.out) hb); have n1_ := Aside0.mk (Kd.R_below (by (with_reducible repeat (first | apply Kd.R_alloc | apply Kd.R_drewN | apply Kd.R_drew)); exact HO496.out) hb); have n2_ := Aside0.mk (Kd.R_below (by (with_reducible repeat (first | apply Kd.R_alloc | apply Kd.R_drewN | apply Kd.R_drew)); exact HO500.out) hb); have n3_ := Aside0.mk (Kd.R_below (by (with_reducible repeat (first | apply Kd.R_alloc | apply Kd.R_drewN | apply Kd.R_drew)); exact HO503.out) hb); have n4_ := Aside0.mk (Kd.R_below (by (with_reducible repeat (first | apply Kd.R_alloc | apply Kd.R_drewN | apply Kd.R_drew)); exact HO508.out) hb); have n5_ := Aside0.mk (Kd.S_lower (Kd.S_new' (Kd.S_new' (Kd.S_new' (Kd.S_new' ho0 (Kd.R_lt (by (with_reducible repeat (first | apply Kd.R_alloc | apply Kd.R_drewN | apply Kd.R_drew)); exact HO491.out))) (Kd.R_lt (by (with_reducible repeat (first | apply Kd.R_alloc | apply Kd.R_drewN | apply Kd.R_drew)); exact HO496.out))) (Kd.R_lt (by (with_reducible repeat (first | apply Kd.R_alloc | apply Kd.R_drewN | apply Kd.R_drew)); exact HO503.out))) (Kd.R_lt (by (with_reducible repeat (first | apply Kd.R_alloc | apply Kd.R_drewN | apply Kd.R_drew)); exact HO508.out))) (below_size (by repeat (first | (with_reducible first | exact HB.out | apply below_alloc | apply pw_below_drewN | apply below_drew1) | exact HB.out)))); have n6_ := Aside0.mk (below_step (by repeat (first | (with_reducible first | exact HB.out | apply below_alloc | apply pw_below_drewN | apply below_drew1) | exact HB.out)) hb); clear HO491; clear HO496; clear HO500; clear HO503; clear HO508; clear HB; have HO491 := n0_; have HO496 := n1_; have HO500 := n2_; have HO503 := n3_; have HO508 := n4_; have HO512 := n5_; have HB := n6_; clear n0_ n1_ n2_ n3_ n4_ n5_ n6_; (try clear hb); (try clear hb2); (try clear hk); (try clear hi); (try clear ho0)) | ((with_reducible refine gate_callee (f := 25) rfl ?_); refine goesL_ (some 41) rfl rfl Try.func25 (by kernel_rfl) rfl #[.slice A0 l0.length c0] rfl (by (try simp only [List.map_toArray, List.map_cons, List.map_nil]); first | done | rfl | (simp only [List.length_drop, List.length_take]; rfl)) ?_; (with_reducible refine (aumbryref04_Print.calls k _ _ l0 t513 t514 _ ?side1 ?side2 A12.out).mono ?_); (case side1 => repeat (first | exact (Kd.C_below HR0.out HB.out) | (with_reducible refine Kd.C_alloc ?_ _) | (with_reducible refine Kd.C_drewN ?_ _) | (with_reducible refine Kd.C_drew ?_))); (case side2 => exact HC0.out); rintro e w27 ⟨rfl, hb⟩; refine ⟨_, rfl, ?_⟩; have n0_ := Aside0.mk (Kd.R_below (by (with_reducible repeat (first | apply Kd.R_alloc | apply Kd.R_drewN | apply Kd.R_drew)); exact HO491.out) hb); have n1_ := Aside0.mk (Kd.R_below (by (with_reducible repeat (first | apply Kd.R_alloc | apply Kd.R_drewN | apply Kd.R_drew)); exact HO496.out) hb); have n2_ := Aside0.mk (Kd.R_below (by (with_reducible repeat (first | apply Kd.R_alloc | apply Kd.R_drewN | apply Kd.R_drew)); exact HO500.out) hb); have n3_ := Aside0.mk (Kd.R_below (by (with_reducible repeat (first | apply Kd.R_alloc | apply Kd.R_drewN | apply Kd.R_drew)); exact HO503.out) hb); have n4_ := Aside0.mk (Kd.R_below (by (with_reducible repeat (first | apply Kd.R_alloc | apply Kd.R_drewN | apply Kd.R_drew)); exact HO508.out) hb); have n5_ := Aside0.mk (Kd.S_below (by (with_reducible repeat (first | apply Kd.S_alloc | apply Kd.S_drewN | apply Kd.S_drew)); exact HO512.out) hb); have n6_ := Aside0.mk (below_step (by repeat (first | (with_reducible first | exact HB.out | apply below_alloc | apply pw_below_drewN | apply below_drew1) | exact HB.out)) hb); clear HO491; clear HO496; clear HO500; clear HO503; clear HO508; clear HO512; clear HB; have HO491 := n0_; have HO496 := n1_; have HO500 := n2_; have HO503 := n3_; have HO508 := n4_; have HO512 := n5_; have HB := n6_; clear n0_ n1_ n2_ n3_ n4_ n5_ n6_; (try clear hb); (try clear hb2); (try clear hk); (try clear hi)))
    (try simp only [Act.put, List.setIfInBounds_toArray, List.set_cons_zero, List.set_cons_succ])
    go_cut [61] (fun v61 wc => ∃ (kq : Nat) (x61_12 : Bool), v61 = .bool x61_12 ∧ Aside0 (aumbrylaw04_TermPrints.j0 kq l0 t492 t493 t497 t504 t509 t513 x61_12 = some r) ∧ Aside0 (kq ≤ k) ∧ Aside0 (Kd.R Kd.string 9 wc w.heap.size (fun _ => True) v499 t497) ∧ Aside0 (Kd.S (Kd.slice 28 k28) 23 wc w.heap.size (fun _ => True) v511 t509) ∧ Aside0 (Below w.heap.size w wc))
    case first =>
      have H := HC13.out
      clear HC13
      by_cases c28 : t493 = t514
      · rw [if_pos c28] at H
        have c28b0 : (t493 == t514) = true := beq_iff_eq.mpr c28
        have c28b1 : (t493 != t514) = false := bne_eq_false_iff_eq.mpr c28
        clear c28
        (first | rw [c28b0] | (simp only [i64_w, i32_w]; rw [c28b0]) | skip)
        by_cases c29 : t498 = t493
        · rw [if_pos c29] at H
          have c29b0 : (t498 == t493) = true := beq_iff_eq.mpr c29
          have c29b1 : (t498 != t493) = false := bne_eq_false_iff_eq.mpr c29
          clear c29
          by_cases c30 : t505 = t493
          · rw [if_pos c30] at H
            have c30b0 : (t505 == t493) = true := beq_iff_eq.mpr c30
            have c30b1 : (t505 != t493) = false := bne_eq_false_iff_eq.mpr c30
            clear c30
            have H' := Aside0.mk H
            clear H
            go_wp2
            go_meet
            case rel => exact ⟨_, ((t510 != t493)), (by first | rfl | (simp; done) | (simp [*]; done)), H', ⟨by first | omega | exact Nat.le_refl _⟩, ⟨by (with_reducible repeat (first | apply Kd.R_alloc | apply Kd.R_drewN | apply Kd.R_drew)); exact HO500.out⟩, ⟨by (with_reducible repeat (first | apply Kd.S_alloc | apply Kd.S_drewN | apply Kd.S_drew)); exact Kd.S_mono HO512.out (fun _ hk => trivial)⟩, ⟨by repeat (first | (with_reducible first | exact HB.out | apply below_alloc | apply pw_below_drewN | apply below_drew1) | exact HB.out)⟩⟩
          · rw [if_neg c30] at H
            have c30b0 : (t505 == t493) = false := beq_eq_false_iff_ne.mpr c30
            have c30b1 : (t505 != t493) = true := bne_iff_ne.mpr c30
            have H' := Aside0.mk H
            clear H
            go_wp2
            go_meet
            case rel => exact ⟨_, (true), (by first | rfl | (simp; done) | (simp [*]; done)), H', ⟨by first | omega | exact Nat.le_refl _⟩, ⟨by (with_reducible repeat (first | apply Kd.R_alloc | apply Kd.R_drewN | apply Kd.R_drew)); exact HO500.out⟩, ⟨by (with_reducible repeat (first | apply Kd.S_alloc | apply Kd.S_drewN | apply Kd.S_drew)); exact Kd.S_mono HO512.out (fun _ hk => trivial)⟩, ⟨by repeat (first | (with_reducible first | exact HB.out | apply below_alloc | apply pw_below_drewN | apply below_drew1) | exact HB.out)⟩⟩
        · rw [if_neg c29] at H
          have c29b0 : (t498 == t493) = false := beq_eq_false_iff_ne.mpr c29
          have c29b1 : (t498 != t493) = true := bne_iff_ne.mpr c29
          have H' := Aside0.mk H
          clear H
          go_wp2
          go_meet
          case rel => exact ⟨_, (true), (by first | rfl | (simp; done) | (simp [*]; done)), H', ⟨by first | omega | exact Nat.le_refl _⟩, ⟨by (with_reducible repeat (first | apply Kd.R_alloc | apply Kd.R_drewN | apply Kd.R_drew)); exact HO500.out⟩, ⟨by (with_reducible repeat (first | apply Kd.S_alloc | apply Kd.S_drewN | apply Kd.S_drew)); exact Kd.S_mono HO512.out (fun _ hk => trivial)⟩, ⟨by repeat (first | (with_reducible first | exact HB.out | apply below_alloc | apply pw_below_drewN | apply below_drew1) | exact HB.out)⟩⟩
      · rw [if_neg c28] at H
        have c28b0 : (t493 == t514) = false := beq_eq_false_iff_ne.mpr c28
        have c28b1 : (t493 != t514) = true := bne_iff_ne.mpr c28
        (first | rw [c28b0] | (simp only [i64_w, i32_w]; rw [c28b0]) | skip)
        have H' := Aside0.mk H
        clear H
        go_wp2
        go_meet
        case rel => exact ⟨_, (true), (by first | rfl | (simp; done) | (simp [*]; done)), H', ⟨by first | omega | exact Nat.le_refl _⟩, ⟨by (with_reducible repeat (first | apply Kd.R_alloc | apply Kd.R_drewN | apply Kd.R_drew)); exact HO500.out⟩, ⟨by (with_reducible repeat (first | apply Kd.S_alloc | apply Kd.S_drewN | apply Kd.S_drew)); exact Kd.S_mono HO512.out (fun _ hk => trivial)⟩, ⟨by repeat (first | (with_reducible first | exact HB.out | apply below_alloc | apply pw_below_drewN | apply below_drew1) | exact HB.out)⟩⟩
    case rest =>
      clear HC13
      try clear c1
      try clear c2
      try clear p2
      try clear c3
      try clear c8
      try clear c16
      try clear c19
      try clear c20
      try clear c24
      try clear c25
      try clear c28
      try clear c28b0
      try clear c28b1
      try clear c29
      try clear c29b0
      try clear c29b1
      try clear c30
      try clear c30b0
      try clear c30b1
      obtain ⟨kq, x61_12, rfl, HA, HJ12, HO_5, HO_9, HB⟩ := hcut
      cases kq with
      | zero => exact absurd HA.out (by simp [aumbrylaw04_TermPrints.j0])
      | succ kj12 =>
        have H := HA.out
        clear HA
        simp only [aumbrylaw04_TermPrints.j0] at H
        by_cases c31 : x61_12 = true
        · subst c31
          have H1 : (some false) = some r := by rw [if_pos rfl] at H; exact H
          clear H
          have H := H1
          clear H1
          obtain rfl := Option.some.inj H
          go_wp2
          go_ret
          exact ⟨by first | rfl | (simp [errW_none, errW_some] <;> rfl) | (simp [*, errW_none, errW_some] <;> rfl), by repeat (first | (with_reducible first | exact HB.out | apply below_alloc | apply pw_below_drewN | apply below_drew1) | exact HB.out)⟩
        · replace c31 := Bool.eq_false_iff.mpr c31
          subst c31
          have H1 : (if t493 = 0 then (if t492.toList = t513.toList then ((aumbryref04_Vars.f kj12 l0).bind fun t515 => ((aumbryref03_Same.f kj12 t497 t515).bind fun t518 => (if t518 = true then ((aumbryref04_Depth.f kj12 l0).bind fun t519 => (if t504 = t519 then ((aumbryref04_Kids.f kj12 l0).bind fun t520 => ((aumbryref04_SameAll.f kj12 t509 t520).bind fun t523 => (some t523))) else (some false))) else (some false)))) else (some false)) else (if t492.toList = ([] : List UInt8) then (if (t497.length : Int) = 0 then (if t504 = 0 then (some ((t509.length : Int) == 0)) else (some false)) else (some false)) else (some false))) = some r := by rw [if_neg (show ¬ (false = true) by decide)] at H; exact H
          clear H
          have H := H1
          clear H1
          by_cases c32 : t493 = 0
          · rw [if_pos c32] at H
            have c32b0 : (t493 == 0) = true := beq_iff_eq.mpr c32
            have c32b1 : (t493 != 0) = false := bne_eq_false_iff_eq.mpr c32
            clear c32
            by_cases c33 : t492.toList = t513.toList
            · rw [if_pos c33] at H
              have c33b0 : (t492.toList == t513.toList) = true := beq_iff_eq.mpr c33
              have c33b1 : (t492.toList != t513.toList) = false := bne_eq_false_iff_eq.mpr c33
              clear c33
              replace H := Option.bind_eq_some_iff.mp H
              obtain ⟨t515, A340, H⟩ := H
              replace H : ((aumbryref03_Same.f kj12 t497 t515).bind fun t518 => (if t518 = true then ((aumbryref04_Depth.f kj12 l0).bind fun t519 => (if t504 = t519 then ((aumbryref04_Kids.f kj12 l0).bind fun t520 => ((aumbryref04_SameAll.f kj12 t509 t520).bind fun t523 => (some t523))) else (some false))) else (some false))) = some r := H
              have A34 := Aside0.mk A340
              clear A340
              replace H := Option.bind_eq_some_iff.mp H
              obtain ⟨t518, A350, H⟩ := H
              replace H : (if t518 = true then ((aumbryref04_Depth.f kj12 l0).bind fun t519 => (if t504 = t519 then ((aumbryref04_Kids.f kj12 l0).bind fun t520 => ((aumbryref04_SameAll.f kj12 t509 t520).bind fun t523 => (some t523))) else (some false))) else (some false)) = some r := H
              have A35 := Aside0.mk A350
              clear A350
              by_cases c36 : t518 = true
              · subst c36
                have H1 : ((aumbryref04_Depth.f kj12 l0).bind fun t519 => (if t504 = t519 then ((aumbryref04_Kids.f kj12 l0).bind fun t520 => ((aumbryref04_SameAll.f kj12 t509 t520).bind fun t523 => (some t523))) else (some false))) = some r := by rw [if_pos rfl] at H; exact H
                clear H
                have H := H1
                clear H1
                replace H := Option.bind_eq_some_iff.mp H
                obtain ⟨t519, A370, H⟩ := H
                replace H : (if t504 = t519 then ((aumbryref04_Kids.f kj12 l0).bind fun t520 => ((aumbryref04_SameAll.f kj12 t509 t520).bind fun t523 => (some t523))) else (some false)) = some r := H
                have A37 := Aside0.mk A370
                clear A370
                by_cases c38 : t504 = t519
                · rw [if_pos c38] at H
                  have c38b0 : (t504 == t519) = true := beq_iff_eq.mpr c38
                  have c38b1 : (t504 != t519) = false := bne_eq_false_iff_eq.mpr c38
                  clear c38
                  replace H := Option.bind_eq_some_iff.mp H
                  obtain ⟨t520, A390, H⟩ := H
                  replace H : ((aumbryref04_SameAll.f kj12 t509 t520).bind fun t523 => (some t523)) = some r := H
                  have A39 := Aside0.mk A390
                  clear A390
                  replace H := Option.bind_eq_some_iff.mp H
                  obtain ⟨t523, A400, H⟩ := H
                  replace H : (some t523) = some r := H
                  have A40 := Aside0.mk A400
                  clear A400
                  obtain rfl := Option.some.inj H
                  go_wp2_with (first | (go_at_call 31; (with_reducible refine (aumbryref04_Vars.calls kj12 _ _ l0 t515 _ ?side1 ?side2 A34.out).mono ?_); (case side1 => repeat (first | exact (Kd.C_below HR0.out HB.out) | (with_reducible refine Kd.C_alloc ?_ _) | (with_reducible refine Kd.C_drewN ?_ _) | (with_reducible refine Kd.C_drew ?_))); (case side2 => exact HC0.out); rintro e w41 ⟨v516, rfl, ho0, hb⟩; have n0_ := Aside0.mk (Kd.R_elder' (by (with_reducible repeat (first | apply Kd.R_alloc | apply Kd.R_drewN | apply Kd.R_drew)); exact HO_5.out) (Kd.R_base ho0) hb); have n1_ := Aside0.mk (Kd.S_below (by (with_reducible repeat (first | apply Kd.S_alloc | apply Kd.S_drewN | apply Kd.S_drew)); exact HO_9.out) hb); have n2_ := Aside0.mk (Kd.R_lower (Kd.R_new' ho0 (Kd.R_lt (by (with_reducible repeat (first | apply Kd.R_alloc | apply Kd.R_drewN | apply Kd.R_drew)); exact HO_5.out))) (below_size (by repeat (first | (with_reducible first | exact HB.out | apply below_alloc | apply pw_below_drewN | apply below_drew1) | exact HB.out)))); have n3_ := Aside0.mk (below_step (by repeat (first | (with_reducible first | exact HB.out | apply below_alloc | apply pw_below_drewN | apply below_drew1) | exact HB.out)) hb); clear HO_5; clear HO_9; clear HB; have HO_5 := n0_; have HO_9 := n1_; have HO517 := n2_; have HB := n3_; clear n0_ n1_ n2_ n3_; (try clear hb); (try clear hb2); (try clear hk); (try clear hi); (try clear ho0); obtain ⟨Ao42, co42, eo42⟩ := Kd.R_slice HO_5.out; subst eo42; obtain ⟨Ao43, co43, eo43⟩ := Kd.R_slice HO517.out; subst eo43) | (go_at_call 30; (with_reducible refine (aumbryref03_Same.calls kj12 _ _ t497 _ _ t515 true _ ?side1 ?side2 ?side3 ?side4 A35.out).mono ?_); (case side1 => repeat (first | exact (Kd.R_reads' HO_5.out).2.2 | (with_reducible refine Kd.C_alloc ?_ _) | (with_reducible refine Kd.C_drewN ?_ _) | (with_reducible refine Kd.C_drew ?_))); (case side2 => exact (Kd.R_reads' HO_5.out).2.1); (case side3 => repeat (first | exact (Kd.R_reads' HO517.out).2.2 | (with_reducible refine Kd.C_alloc ?_ _) | (with_reducible refine Kd.C_drewN ?_ _) | (with_reducible refine Kd.C_drew ?_))); (case side4 => exact (Kd.R_reads' HO517.out).2.1); rintro e w' ⟨rfl, ⟨nd, rfl⟩⟩) | (go_at_call 32; (with_reducible refine (aumbryref04_Depth.calls kj12 _ _ l0 t519 _ ?side1 ?side2 A37.out).mono ?_); (case side1 => repeat (first | exact (Kd.C_below HR0.out (by repeat (first | (with_reducible first | exact HB.out | apply below_alloc | apply pw_below_drewN | apply below_drew1) | exact HB.out))) | (with_reducible refine Kd.C_alloc ?_ _) | (with_reducible refine Kd.C_drewN ?_ _) | (with_reducible refine Kd.C_drew ?_))); (case side2 => exact HC0.out); rintro e w44 ⟨rfl, hb⟩; have n0_ := Aside0.mk (Kd.R_below (by (with_reducible repeat (first | apply Kd.R_alloc | apply Kd.R_drewN | apply Kd.R_drew)); exact HO_5.out) hb); have n1_ := Aside0.mk (Kd.S_below (by (with_reducible repeat (first | apply Kd.S_alloc | apply Kd.S_drewN | apply Kd.S_drew)); exact HO_9.out) hb); have n2_ := Aside0.mk (Kd.R_below (by (with_reducible repeat (first | apply Kd.R_alloc | apply Kd.R_drewN | apply Kd.R_drew)); exact HO517.out) hb); have n3_ := Aside0.mk (below_step (by repeat (first | (with_reducible first | exact HB.out | apply below_alloc | apply pw_below_drewN | apply below_drew1) | exact HB.out)) hb); clear HO_5; clear HO_9; clear HO517; clear HB; have HO_5 := n0_; have HO_9 := n1_; have HO517 := n2_; have HB := n3_; clear n0_ n1_ n2_ n3_; (try clear hb); (try clear hb2); (try clear hk); (try clear hi)) | (go_at_call 27; (with_reducible refine (aumbryref04_Kids.calls kj12 _ _ l0 t520 _ ?side1 ?side2 A39.out).mono ?_); (case side1 => repeat (first | exact (Kd.C_below HR0.out HB.out) | (with_reducible refine Kd.C_alloc ?_ _) | (with_reducible refine Kd.C_drewN ?_ _) | (with_reducible refine Kd.C_drew ?_))); (case side2 => exact HC0.out); rintro e w45 ⟨v521, rfl, ho0, hb⟩; have n0_ := Aside0.mk (Kd.R_below (by (with_reducible repeat (first | apply Kd.R_alloc | apply Kd.R_drewN | apply Kd.R_drew)); exact HO_5.out) hb); have n1_ := Aside0.mk (Kd.S_elder' (by (with_reducible repeat (first | apply Kd.S_alloc | apply Kd.S_drewN | apply Kd.S_drew)); exact HO_9.out) (Kd.S_base ho0) hb); have n2_ := Aside0.mk (Kd.R_below (by (with_reducible repeat (first | apply Kd.R_alloc | apply Kd.R_drewN | apply Kd.R_drew)); exact HO517.out) hb); have n3_ := Aside0.mk (Kd.S_lower (Kd.S_new' ho0 (Kd.S_lt (by (with_reducible repeat (first | apply Kd.S_alloc | apply Kd.S_drewN | apply Kd.S_drew)); exact HO_9.out))) (below_size (by repeat (first | (with_reducible first | exact HB.out | apply below_alloc | apply pw_below_drewN | apply below_drew1) | exact HB.out)))); have n4_ := Aside0.mk (below_step (by repeat (first | (with_reducible first | exact HB.out | apply below_alloc | apply pw_below_drewN | apply below_drew1) | exact HB.out)) hb); clear HO_5; clear HO_9; clear HO517; clear HB; have HO_5 := n0_; have HO_9 := n1_; have HO517 := n2_; have HO522 := n3_; have HB := n4_; clear n0_ n1_ n2_ n3_ n4_; (try clear hb); (try clear hb2); (try clear hk); (try clear hi); (try clear ho0); obtain ⟨Ao46, co46, eo46⟩ := Kd.S_slice HO_9.out; subst eo46; obtain ⟨Ao47, co47, eo47⟩ := Kd.S_slice HO522.out; subst eo47) | (go_at_call 26; (with_reducible refine (aumbryref04_SameAll.calls kj12 _ _ t509 _ _ t520 t523 _ ?side1 ?side2 ?side3 ?side4 A40.out).mono ?_); (case side1 => repeat (first | exact (Kd.S_reads' HO_9.out).2.2 | (with_reducible refine Kd.C_alloc ?_ _) | (with_reducible refine Kd.C_drewN ?_ _) | (with_reducible refine Kd.C_drew ?_))); (case side2 => exact (Kd.S_reads' HO_9.out).2.1); (case side3 => repeat (first | exact (Kd.S_reads' HO522.out).2.2 | (with_reducible refine Kd.C_alloc ?_ _) | (with_reducible refine Kd.C_drewN ?_ _) | (with_reducible refine Kd.C_drew ?_))); (case side4 => exact (Kd.S_reads' HO522.out).2.1); rintro e w' ⟨rfl, ⟨nd, rfl⟩⟩))
                  go_ret
                  exact ⟨by first | rfl | (simp [errW_none, errW_some] <;> rfl) | (simp [*, errW_none, errW_some] <;> rfl), by repeat (first | (with_reducible first | exact HB.out | apply below_alloc | apply pw_below_drewN | apply below_drew1) | exact HB.out)⟩
                · rw [if_neg c38] at H
                  have c38b0 : (t504 == t519) = false := beq_eq_false_iff_ne.mpr c38
                  have c38b1 : (t504 != t519) = true := bne_iff_ne.mpr c38
                  obtain rfl := Option.some.inj H
                  go_wp2_with (first | (go_at_call 31; (with_reducible refine (aumbryref04_Vars.calls kj12 _ _ l0 t515 _ ?side1 ?side2 A34.out).mono ?_); (case side1 => repeat (first | exact (Kd.C_below HR0.out HB.out) | (with_reducible refine Kd.C_alloc ?_ _) | (with_reducible refine Kd.C_drewN ?_ _) | (with_reducible refine Kd.C_drew ?_))); (case side2 => exact HC0.out); rintro e w48 ⟨v516, rfl, ho0, hb⟩; have n0_ := Aside0.mk (Kd.R_elder' (by (with_reducible repeat (first | apply Kd.R_alloc | apply Kd.R_drewN | apply Kd.R_drew)); exact HO_5.out) (Kd.R_base ho0) hb); have n1_ := Aside0.mk (Kd.S_below (by (with_reducible repeat (first | apply Kd.S_alloc | apply Kd.S_drewN | apply Kd.S_drew)); exact HO_9.out) hb); have n2_ := Aside0.mk (Kd.R_lower (Kd.R_new' ho0 (Kd.R_lt (by (with_reducible repeat (first | apply Kd.R_alloc | apply Kd.R_drewN | apply Kd.R_drew)); exact HO_5.out))) (below_size (by repeat (first | (with_reducible first | exact HB.out | apply below_alloc | apply pw_below_drewN | apply below_drew1) | exact HB.out)))); have n3_ := Aside0.mk (below_step (by repeat (first | (with_reducible first | exact HB.out | apply below_alloc | apply pw_below_drewN | apply below_drew1) | exact HB.out)) hb); clear HO_5; clear HO_9; clear HB; have HO_5 := n0_; have HO_9 := n1_; have HO517 := n2_; have HB := n3_; clear n0_ n1_ n2_ n3_; (try clear hb); (try clear hb2); (try clear hk); (try clear hi); (try clear ho0); obtain ⟨Ao49, co49, eo49⟩ := Kd.R_slice HO_5.out; subst eo49; obtain ⟨Ao50, co50, eo50⟩ := Kd.R_slice HO517.out; subst eo50) | (go_at_call 30; (with_reducible refine (aumbryref03_Same.calls kj12 _ _ t497 _ _ t515 true _ ?side1 ?side2 ?side3 ?side4 A35.out).mono ?_); (case side1 => repeat (first | exact (Kd.R_reads' HO_5.out).2.2 | (with_reducible refine Kd.C_alloc ?_ _) | (with_reducible refine Kd.C_drewN ?_ _) | (with_reducible refine Kd.C_drew ?_))); (case side2 => exact (Kd.R_reads' HO_5.out).2.1); (case side3 => repeat (first | exact (Kd.R_reads' HO517.out).2.2 | (with_reducible refine Kd.C_alloc ?_ _) | (with_reducible refine Kd.C_drewN ?_ _) | (with_reducible refine Kd.C_drew ?_))); (case side4 => exact (Kd.R_reads' HO517.out).2.1); rintro e w' ⟨rfl, ⟨nd, rfl⟩⟩) | (go_at_call 32; (with_reducible refine (aumbryref04_Depth.calls kj12 _ _ l0 t519 _ ?side1 ?side2 A37.out).mono ?_); (case side1 => repeat (first | exact (Kd.C_below HR0.out (by repeat (first | (with_reducible first | exact HB.out | apply below_alloc | apply pw_below_drewN | apply below_drew1) | exact HB.out))) | (with_reducible refine Kd.C_alloc ?_ _) | (with_reducible refine Kd.C_drewN ?_ _) | (with_reducible refine Kd.C_drew ?_))); (case side2 => exact HC0.out); rintro e w51 ⟨rfl, hb⟩; have n0_ := Aside0.mk (Kd.R_below (by (with_reducible repeat (first | apply Kd.R_alloc | apply Kd.R_drewN | apply Kd.R_drew)); exact HO_5.out) hb); have n1_ := Aside0.mk (Kd.S_below (by (with_reducible repeat (first | apply Kd.S_alloc | apply Kd.S_drewN | apply Kd.S_drew)); exact HO_9.out) hb); have n2_ := Aside0.mk (Kd.R_below (by (with_reducible repeat (first | apply Kd.R_alloc | apply Kd.R_drewN | apply Kd.R_drew)); exact HO517.out) hb); have n3_ := Aside0.mk (below_step (by repeat (first | (with_reducible first | exact HB.out | apply below_alloc | apply pw_below_drewN | apply below_drew1) | exact HB.out)) hb); clear HO_5; clear HO_9; clear HO517; clear HB; have HO_5 := n0_; have HO_9 := n1_; have HO517 := n2_; have HB := n3_; clear n0_ n1_ n2_ n3_; (try clear hb); (try clear hb2); (try clear hk); (try clear hi)))
                  go_ret
                  exact ⟨by first | rfl | (simp [errW_none, errW_some] <;> rfl) | (simp [*, errW_none, errW_some] <;> rfl), by repeat (first | (with_reducible first | exact HB.out | apply below_alloc | apply pw_below_drewN | apply below_drew1) | exact HB.out)⟩
              · replace c36 := Bool.eq_false_iff.mpr c36
                subst c36
                have H1 : (some false) = some r := by rw [if_neg (show ¬ (false = true) by decide)] at H; exact H
                clear H
                have H := H1
                clear H1
                obtain rfl := Option.some.inj H
                go_wp2_with (first | (go_at_call 31; (with_reducible refine (aumbryref04_Vars.calls kj12 _ _ l0 t515 _ ?side1 ?side2 A34.out).mono ?_); (case side1 => repeat (first | exact (Kd.C_below HR0.out HB.out) | (with_reducible refine Kd.C_alloc ?_ _) | (with_reducible refine Kd.C_drewN ?_ _) | (with_reducible refine Kd.C_drew ?_))); (case side2 => exact HC0.out); rintro e w52 ⟨v516, rfl, ho0, hb⟩; have n0_ := Aside0.mk (Kd.R_elder' (by (with_reducible repeat (first | apply Kd.R_alloc | apply Kd.R_drewN | apply Kd.R_drew)); exact HO_5.out) (Kd.R_base ho0) hb); have n1_ := Aside0.mk (Kd.S_below (by (with_reducible repeat (first | apply Kd.S_alloc | apply Kd.S_drewN | apply Kd.S_drew)); exact HO_9.out) hb); have n2_ := Aside0.mk (Kd.R_lower (Kd.R_new' ho0 (Kd.R_lt (by (with_reducible repeat (first | apply Kd.R_alloc | apply Kd.R_drewN | apply Kd.R_drew)); exact HO_5.out))) (below_size (by repeat (first | (with_reducible first | exact HB.out | apply below_alloc | apply pw_below_drewN | apply below_drew1) | exact HB.out)))); have n3_ := Aside0.mk (below_step (by repeat (first | (with_reducible first | exact HB.out | apply below_alloc | apply pw_below_drewN | apply below_drew1) | exact HB.out)) hb); clear HO_5; clear HO_9; clear HB; have HO_5 := n0_; have HO_9 := n1_; have HO517 := n2_; have HB := n3_; clear n0_ n1_ n2_ n3_; (try clear hb); (try clear hb2); (try clear hk); (try clear hi); (try clear ho0); obtain ⟨Ao53, co53, eo53⟩ := Kd.R_slice HO_5.out; subst eo53; obtain ⟨Ao54, co54, eo54⟩ := Kd.R_slice HO517.out; subst eo54) | (go_at_call 30; (with_reducible refine (aumbryref03_Same.calls kj12 _ _ t497 _ _ t515 false _ ?side1 ?side2 ?side3 ?side4 A35.out).mono ?_); (case side1 => repeat (first | exact (Kd.R_reads' HO_5.out).2.2 | (with_reducible refine Kd.C_alloc ?_ _) | (with_reducible refine Kd.C_drewN ?_ _) | (with_reducible refine Kd.C_drew ?_))); (case side2 => exact (Kd.R_reads' HO_5.out).2.1); (case side3 => repeat (first | exact (Kd.R_reads' HO517.out).2.2 | (with_reducible refine Kd.C_alloc ?_ _) | (with_reducible refine Kd.C_drewN ?_ _) | (with_reducible refine Kd.C_drew ?_))); (case side4 => exact (Kd.R_reads' HO517.out).2.1); rintro e w' ⟨rfl, ⟨nd, rfl⟩⟩))
                go_ret
                exact ⟨by first | rfl | (simp [errW_none, errW_some] <;> rfl) | (simp [*, errW_none, errW_some] <;> rfl), by repeat (first | (with_reducible first | exact HB.out | apply below_alloc | apply pw_below_drewN | apply below_drew1) | exact HB.out)⟩
            · rw [if_neg c33] at H
              have c33b0 : (t492.toList == t513.toList) = false := beq_eq_false_iff_ne.mpr c33
              have c33b1 : (t492.toList != t513.toList) = true := bne_iff_ne.mpr c33
              obtain rfl := Option.some.inj H
              go_wp2
              go_ret
              exact ⟨by first | rfl | (simp [errW_none, errW_some] <;> rfl) | (simp [*, errW_none, errW_some] <;> rfl), by repeat (first | (with_reducible first | exact HB.out | apply below_alloc | apply pw_below_drewN | apply below_drew1) | exact HB.out)⟩
          · rw [if_neg c32] at H
            have c32b0 : (t493 == 0) = false := beq_eq_false_iff_ne.mpr c32
            have c32b1 : (t493 != 0) = true := bne_iff_ne.mpr c32
            by_cases c55 : t492.toList = ([] : List UInt8)
            · rw [if_pos c55] at H
              have c55b0 : (t492.toList == ([] : List UInt8)) = true := beq_iff_eq.mpr c55
              have c55b1 : (t492.toList != ([] : List UInt8)) = false := bne_eq_false_iff_eq.mpr c55
              clear c55
              by_cases c56 : (t497.length : Int) = 0
              · rw [if_pos c56] at H
                have c56b0 : ((t497.length : Int) == 0) = true := beq_iff_eq.mpr c56
                have c56b1 : ((t497.length : Int) != 0) = false := bne_eq_false_iff_eq.mpr c56
                clear c56
                by_cases c57 : t504 = 0
                · rw [if_pos c57] at H
                  have c57b0 : (t504 == 0) = true := beq_iff_eq.mpr c57
                  have c57b1 : (t504 != 0) = false := bne_eq_false_iff_eq.mpr c57
                  clear c57
                  obtain rfl := Option.some.inj H
                  obtain ⟨Ao58, co58, eo58⟩ := Kd.R_slice HO_5.out
                  subst eo58
                  obtain ⟨Ao59, co59, eo59⟩ := Kd.S_slice HO_9.out
                  subst eo59
                  go_wp2
                  go_ret
                  exact ⟨by first | rfl | (simp [errW_none, errW_some] <;> rfl) | (simp [*, errW_none, errW_some] <;> rfl), by repeat (first | (with_reducible first | exact HB.out | apply below_alloc | apply pw_below_drewN | apply below_drew1) | exact HB.out)⟩
                · rw [if_neg c57] at H
                  have c57b0 : (t504 == 0) = false := beq_eq_false_iff_ne.mpr c57
                  have c57b1 : (t504 != 0) = true := bne_iff_ne.mpr c57
                  obtain rfl := Option.some.inj H
                  obtain ⟨Ao60, co60, eo60⟩ := Kd.R_slice HO_5.out
                  subst eo60
                  go_wp2
                  go_ret
                  exact ⟨by first | rfl | (simp [errW_none, errW_some] <;> rfl) | (simp [*, errW_none, errW_some] <;> rfl), by repeat (first | (with_reducible first | exact HB.out | apply below_alloc | apply pw_below_drewN | apply below_drew1) | exact HB.out)⟩
              · rw [if_neg c56] at H
                have c56b0 : ((t497.length : Int) == 0) = false := beq_eq_false_iff_ne.mpr c56
                have c56b1 : ((t497.length : Int) != 0) = true := bne_iff_ne.mpr c56
                have c56b2 : ¬ (t497 = []) := fun h_ => c56 (by rw [h_]; rfl)
                obtain rfl := Option.some.inj H
                obtain ⟨Ao61, co61, eo61⟩ := Kd.R_slice HO_5.out
                subst eo61
                go_wp2
                go_ret
                exact ⟨by first | rfl | (simp [errW_none, errW_some] <;> rfl) | (simp [*, errW_none, errW_some] <;> rfl), by repeat (first | (with_reducible first | exact HB.out | apply below_alloc | apply pw_below_drewN | apply below_drew1) | exact HB.out)⟩
            · rw [if_neg c55] at H
              have c55b0 : (t492.toList == ([] : List UInt8)) = false := beq_eq_false_iff_ne.mpr c55
              have c55b1 : (t492.toList != ([] : List UInt8)) = true := bne_iff_ne.mpr c55
              obtain rfl := Option.some.inj H
              go_wp2
              go_ret
              exact ⟨by first | rfl | (simp [errW_none, errW_some] <;> rfl) | (simp [*, errW_none, errW_some] <;> rfl), by repeat (first | (with_reducible first | exact HB.out | apply below_alloc | apply pw_below_drewN | apply below_drew1) | exact HB.out)⟩
  · replace c3 := Bool.eq_false_iff.mpr c3
    subst c3
    have H1 : (some false) = some r := by rw [if_neg (show ¬ (false = true) by decide)] at H; exact H
    clear H
    have H := H1
    clear H1
    obtain rfl := Option.some.inj H
    go_enter Try.func8, Try.ntmps8
    go_wp2_with (first | ((with_reducible refine gate_callee (f := 16) rfl ?_); refine goesL_ (some 13) rfl rfl Try.func16 (by kernel_rfl) rfl #[] rfl (by (try simp only [List.map_toArray, List.map_cons, List.map_nil]); first | done | rfl | (simp only [List.length_drop, List.length_take]; rfl)) ?_; (with_reducible refine (aumbrylaw04_wakes.calls k  false _ A2.out).mono ?_); rintro e w62 ⟨rfl, hb⟩; refine ⟨_, rfl, ?_⟩; have n0_ := Aside0.mk (below_step (by repeat (first | (with_reducible first | exact HB.out | apply below_alloc | apply pw_below_drewN | apply below_drew1) | exact HB.out)) hb); clear HB; have HB := n0_; clear n0_; (try clear hb); (try clear hb2); (try clear hk); (try clear hi)))
    go_ret
    exact ⟨by first | rfl | (simp [errW_none, errW_some] <;> rfl) | (simp [*, errW_none, errW_some] <;> rfl), by repeat (first | (with_reducible first | exact HB.out | apply below_alloc | apply pw_below_drewN | apply below_drew1) | exact HB.out)⟩

end Go.Proofs.Ytnkpcnnbeaomnaa.C
end
