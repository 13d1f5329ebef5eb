import Derived.Test.YtnkpcnnbeaomnaaTO6
import Derived.Test.YtnkpcnnbeaomnaaTO11
import Derived.Test.YtnkpcnnbeaomnaaTO12
import Derived.Test.YtnkpcnnbeaomnaaTO13
import Derived.Test.YtnkpcnnbeaomnaaTO15
import Derived.Test.YtnkpcnnbeaomnaaTO16

section
-- Written by a program of this session (a scratch print over hand-made contracts), out of the translation. Not trusted: Lean checks it.
namespace Go.Proofs.Ytnkpcnnbeaomnaa.C
open Go.RowKit Go.Proofs.YtnkpcnnbeaomnaaW.PrintWords Go.Proofs.YtnkpcnnbeaomnaaW.PrintLast Go.Proofs.YtnkpcnnbeaomnaaW.PrintMore
attribute [local go_sem] max2_int min2_int max_two min_two max_three min_three max_four min_four   -- for this text's walks alone
set_option linter.unusedVariables false
set_option linter.unusedSimpArgs false

/-! ### aumbrylaw04_TermOwn: function 7 -/
mutual
def aumbrylaw04_TermOwn.l0 : Nat → List (S28) → List (List (S28)) → List (S28) → List (List (S28)) → List (List (S28)) → List (List (S28)) → List (S28) → Int → Int → Option (Bool)
  | 0, _, _, _, _, _, _, _, _, _ => none
  | k + 1, x0, x1, x5, x6, x7, x9, x11, x51, x52 => if x52 < x51 then (if 0 ≤ x52 then (if x52 < (x7.length : Int) then (aumbrylaw04_TermOwn.l1 k x0 x1 x5 x6 x7 x9 x11 x52 x51 x52 ((rd_L3 x7 x52).length : Int) 0) else (none)) else (none)) else (aumbrylaw04_TermOwn.l2 k x0 x1 x5 x6 x9 x11 (x11.length : Int) 0)
def aumbrylaw04_TermOwn.l1 : Nat → List (S28) → List (List (S28)) → List (S28) → List (List (S28)) → List (List (S28)) → List (List (S28)) → List (S28) → Int → Int → Int → Int → Int → Option (Bool)
  | 0, _, _, _, _, _, _, _, _, _, _, _, _ => none
  | k + 1, x0, x1, x5, x6, x7, x9, x11, x13, x51, x52, x59, x60 => if x60 < x59 then (if 0 ≤ x13 then (if x13 < (x7.length : Int) then (if 0 ≤ x60 then (if x60 < ((rd_L3 x7 x13).length : Int) then (aumbrylaw04_TermOwn.l1 k x0 x1 x5 x6 (x7.set (x13 : Int).toNat ((rd_L3 x7 x13).set (x60 : Int).toNat (⟨(⟨#[120]⟩ : ByteArray), (rd_T28 (rd_L3 x7 x13) x60).f1⟩ : S28))) x9 x11 x13 x51 x52 x59 (wrap64 (x60 + 1))) else (none)) else (none)) else (none)) else (none)) else (aumbrylaw04_TermOwn.l0 k x0 x1 x5 x6 x7 x9 x11 x51 (wrap64 (x52 + 1)))
def aumbrylaw04_TermOwn.l2 : Nat → List (S28) → List (List (S28)) → List (S28) → List (List (S28)) → List (List (S28)) → List (S28) → Int → Int → Option (Bool)
  | 0, _, _, _, _, _, _, _, _ => none
  | k + 1, x0, x1, x5, x6, x9, x11, x73, x74 => if x74 < x73 then (if 0 ≤ x74 then (if x74 < (x11.length : Int) then (aumbrylaw04_TermOwn.l2 k x0 x1 x5 x6 x9 (x11.set (x74 : Int).toNat (⟨(⟨#[120]⟩ : ByteArray), (rd_T28 x11 x74).f1⟩ : S28)) x73 (wrap64 (x74 + 1))) else (none)) else (none)) else ((aumbryref04_Print.f k x0).bind fun bt254 => (if bt254.2 = 0 then ((aumbryref04_Kids.f k x0).bind fun t256 => ((aumbryref04_SameAll.f k x9 t256).bind fun t259 => (aumbrylaw04_TermOwn.j3 k x0 x1 x5 x6 bt254.1 (!t259)))) else (aumbrylaw04_TermOwn.j3 k x0 x1 x5 x6 bt254.1 false)))
def aumbrylaw04_TermOwn.j3 : Nat → List (S28) → List (List (S28)) → List (S28) → List (List (S28)) → ByteArray → Bool → Option (Bool)
  | 0, _, _, _, _, _, _ => none
  | k + 1, x0, x1, x5, x6, x16, x95 => if x95 = true then (some false) else (if 0 ≤ (x0.length : Int) then (if (x0.length : Int) ≤ (x5.length : Int) then ((aumbryref04_Print.f k (x5.take ((x0.length : Int) : Int).toNat)).bind fun bt264 => (if bt264.1.toList = x16.toList then (if (x0.length : Int) < (x5.length : Int) then (if ((rd_T28 x5 (x0.length : Int)).f0).toList = ([107, 101, 101, 112] : List UInt8) then ((aumbryref04_Same.f k (x5.take ((x0.length : Int) : Int).toNat) x0).bind fun t271 => (if t271 = true then ((aumbryref04_SameAll.f k x6 x1).bind fun t272 => (some t272)) else (some false))) else (some false)) else (none)) else (some false))) else (none)) else (none))
end
def aumbrylaw04_TermOwn.f (k : Nat) (l0 : List (S28)) (l1 : List (List (S28))) : Option (Bool) := (aumbrylaw04_wakes.f k).bind fun t218 => (if t218 = true then ((aumbryref04_Copy.f l0).bind fun t219 => (if t219.length < 5864062014805 then ((some (t219 ++ [(⟨(⟨#[107, 101, 101, 112]⟩ : ByteArray), 0⟩ : S28)] : List (S28))).bind fun y222 => ((aumbryref04_CopyAll.f k l1).bind fun t225 => (if 0 ≤ (l0.length : Int) then (if (l0.length : Int) ≤ (y222.length : Int) then ((term_Kids.f k (y222.take ((l0.length : Int) : Int).toNat)).bind fun bt232 => ((term_Kids.f k (y222.take ((l0.length : Int) : Int).toNat)).bind fun bt240 => ((term_Make.f k (⟨#[102]⟩ : ByteArray) t225).bind fun bt244 => (aumbrylaw04_TermOwn.l0 k l0 l1 y222 t225 bt232.1 bt240.1 bt244.1 (bt232.1.length : Int) 0)))) else (none)) else (none)))) else (none))) else (some false))
theorem aumbrylaw04_TermOwn.mono_l : ∀ k, (∀ y0 y1 y2 y3 y4 y5 y6 y7 y8, LeO (aumbrylaw04_TermOwn.l0 k y0 y1 y2 y3 y4 y5 y6 y7 y8) (aumbrylaw04_TermOwn.l0 (k + 1) y0 y1 y2 y3 y4 y5 y6 y7 y8)) ∧ (∀ y0 y1 y2 y3 y4 y5 y6 y7 y8 y9 y10 y11, LeO (aumbrylaw04_TermOwn.l1 k y0 y1 y2 y3 y4 y5 y6 y7 y8 y9 y10 y11) (aumbrylaw04_TermOwn.l1 (k + 1) y0 y1 y2 y3 y4 y5 y6 y7 y8 y9 y10 y11)) ∧ (∀ y0 y1 y2 y3 y4 y5 y6 y7, LeO (aumbrylaw04_TermOwn.l2 k y0 y1 y2 y3 y4 y5 y6 y7) (aumbrylaw04_TermOwn.l2 (k + 1) y0 y1 y2 y3 y4 y5 y6 y7)) ∧ (∀ y0 y1 y2 y3 y4 y5, LeO (aumbrylaw04_TermOwn.j3 k y0 y1 y2 y3 y4 y5) (aumbrylaw04_TermOwn.j3 (k + 1) y0 y1 y2 y3 y4 y5))
  | 0 => ⟨fun _ _ _ _ _ _ _ _ _ r h => by simp [aumbrylaw04_TermOwn.l0] at h, fun _ _ _ _ _ _ _ _ _ _ _ _ r h => by simp [aumbrylaw04_TermOwn.l1] at h, fun _ _ _ _ _ _ _ _ r h => by simp [aumbrylaw04_TermOwn.l2] at h, fun _ _ _ _ _ _ r h => by simp [aumbrylaw04_TermOwn.j3] at h⟩
  | k + 1 => by
    obtain ⟨ih0, ih1, ih2, ih3⟩ := aumbrylaw04_TermOwn.mono_l k
    refine ⟨?_, ?_, ?_, ?_⟩
    · intro y0 y1 y2 y3 y4 y5 y6 y7 y8
      unfold aumbrylaw04_TermOwn.l0
      repeat' first
      | (with_reducible exact ih0 _ _ _ _ _ _ _ _ _)
      | (with_reducible exact ih1 _ _ _ _ _ _ _ _ _ _ _ _)
      | (with_reducible exact ih2 _ _ _ _ _ _ _ _)
      | (with_reducible exact ih3 _ _ _ _ _ _)
      | (with_reducible exact aumbrylaw04_wakes.mono _)
      | (with_reducible exact aumbryref04_CopyAll.mono _ _)
      | (with_reducible exact aumbryref04_Kids.mono _ _)
      | (with_reducible exact aumbryref04_Print.mono _ _)
      | (with_reducible exact aumbryref04_Same.mono _ _ _)
      | (with_reducible exact aumbryref04_SameAll.mono _ _ _)
      | (with_reducible exact term_Kids.mono _ _)
      | (with_reducible exact term_Make.mono _ _ _)
      | (with_reducible exact LeO.refl _)
      | (with_reducible exact LeO.none _)
      | (with_reducible refine LeO.ite ?_ ?_)
      | (with_reducible refine LeO.bind ?_ (fun _ => ?_))
      | exact ih0 _ _ _ _ _ _ _ _ _
      | exact ih1 _ _ _ _ _ _ _ _ _ _ _ _
      | exact ih2 _ _ _ _ _ _ _ _
      | exact ih3 _ _ _ _ _ _
      | exact aumbrylaw04_wakes.mono _
      | exact aumbryref04_CopyAll.mono _ _
      | exact aumbryref04_Kids.mono _ _
      | exact aumbryref04_Print.mono _ _
      | exact aumbryref04_Same.mono _ _ _
      | exact aumbryref04_SameAll.mono _ _ _
      | exact term_Kids.mono _ _
      | exact term_Make.mono _ _ _
      | exact LeO.none _
      | refine LeO.ite ?_ ?_
      | refine LeO.bind ?_ (fun _ => ?_)
    · intro y0 y1 y2 y3 y4 y5 y6 y7 y8 y9 y10 y11
      unfold aumbrylaw04_TermOwn.l1
      repeat' first
      | (with_reducible exact ih0 _ _ _ _ _ _ _ _ _)
      | (with_reducible exact ih1 _ _ _ _ _ _ _ _ _ _ _ _)
      | (with_reducible exact ih2 _ _ _ _ _ _ _ _)
      | (with_reducible exact ih3 _ _ _ _ _ _)
      | (with_reducible exact aumbrylaw04_wakes.mono _)
      | (with_reducible exact aumbryref04_CopyAll.mono _ _)
      | (with_reducible exact aumbryref04_Kids.mono _ _)
      | (with_reducible exact aumbryref04_Print.mono _ _)
      | (with_reducible exact aumbryref04_Same.mono _ _ _)
      | (with_reducible exact aumbryref04_SameAll.mono _ _ _)
      | (with_reducible exact term_Kids.mono _ _)
      | (with_reducible exact term_Make.mono _ _ _)
      | (with_reducible exact LeO.refl _)
      | (with_reducible exact LeO.none _)
      | (with_reducible refine LeO.ite ?_ ?_)
      | (with_reducible refine LeO.bind ?_ (fun _ => ?_))
      | exact ih0 _ _ _ _ _ _ _ _ _
      | exact ih1 _ _ _ _ _ _ _ _ _ _ _ _
      | exact ih2 _ _ _ _ _ _ _ _
      | exact ih3 _ _ _ _ _ _
      | exact aumbrylaw04_wakes.mono _
      | exact aumbryref04_CopyAll.mono _ _
      | exact aumbryref04_Kids.mono _ _
      | exact aumbryref04_Print.mono _ _
      | exact aumbryref04_Same.mono _ _ _
      | exact aumbryref04_SameAll.mono _ _ _
      | exact term_Kids.mono _ _
      | exact term_Make.mono _ _ _
      | exact LeO.none _
      | refine LeO.ite ?_ ?_
      | refine LeO.bind ?_ (fun _ => ?_)
    · intro y0 y1 y2 y3 y4 y5 y6 y7
      unfold aumbrylaw04_TermOwn.l2
      repeat' first
      | (with_reducible exact ih0 _ _ _ _ _ _ _ _ _)
      | (with_reducible exact ih1 _ _ _ _ _ _ _ _ _ _ _ _)
      | (with_reducible exact ih2 _ _ _ _ _ _ _ _)
      | (with_reducible exact ih3 _ _ _ _ _ _)
      | (with_reducible exact aumbrylaw04_wakes.mono _)
      | (with_reducible exact aumbryref04_CopyAll.mono _ _)
      | (with_reducible exact aumbryref04_Kids.mono _ _)
      | (with_reducible exact aumbryref04_Print.mono _ _)
      | (with_reducible exact aumbryref04_Same.mono _ _ _)
      | (with_reducible exact aumbryref04_SameAll.mono _ _ _)
      | (with_reducible exact term_Kids.mono _ _)
      | (with_reducible exact term_Make.mono _ _ _)
      | (with_reducible exact LeO.refl _)
      | (with_reducible exact LeO.none _)
      | (with_reducible refine LeO.ite ?_ ?_)
      | (with_reducible refine LeO.bind ?_ (fun _ => ?_))
      | exact ih0 _ _ _ _ _ _ _ _ _
      | exact ih1 _ _ _ _ _ _ _ _ _ _ _ _
      | exact ih2 _ _ _ _ _ _ _ _
      | exact ih3 _ _ _ _ _ _
      | exact aumbrylaw04_wakes.mono _
      | exact aumbryref04_CopyAll.mono _ _
      | exact aumbryref04_Kids.mono _ _
      | exact aumbryref04_Print.mono _ _
      | exact aumbryref04_Same.mono _ _ _
      | exact aumbryref04_SameAll.mono _ _ _
      | exact term_Kids.mono _ _
      | exact term_Make.mono _ _ _
      | exact LeO.none _
      | refine LeO.ite ?_ ?_
      | refine LeO.bind ?_ (fun _ => ?_)
    · intro y0 y1 y2 y3 y4 y5
      unfold aumbrylaw04_TermOwn.j3
      repeat' first
      | (with_reducible exact ih0 _ _ _ _ _ _ _ _ _)
      | (with_reducible exact ih1 _ _ _ _ _ _ _ _ _ _ _ _)
      | (with_reducible exact ih2 _ _ _ _ _ _ _ _)
      | (with_reducible exact ih3 _ _ _ _ _ _)
      | (with_reducible exact aumbrylaw04_wakes.mono _)
      | (with_reducible exact aumbryref04_CopyAll.mono _ _)
      | (with_reducible exact aumbryref04_Kids.mono _ _)
      | (with_reducible exact aumbryref04_Print.mono _ _)
      | (with_reducible exact aumbryref04_Same.mono _ _ _)
      | (with_reducible exact aumbryref04_SameAll.mono _ _ _)
      | (with_reducible exact term_Kids.mono _ _)
      | (with_reducible exact term_Make.mono _ _ _)
      | (with_reducible exact LeO.refl _)
      | (with_reducible exact LeO.none _)
      | (with_reducible refine LeO.ite ?_ ?_)
      | (with_reducible refine LeO.bind ?_ (fun _ => ?_))
      | exact ih0 _ _ _ _ _ _ _ _ _
      | exact ih1 _ _ _ _ _ _ _ _ _ _ _ _
      | exact ih2 _ _ _ _ _ _ _ _
      | exact ih3 _ _ _ _ _ _
      | exact aumbrylaw04_wakes.mono _
      | exact aumbryref04_CopyAll.mono _ _
      | exact aumbryref04_Kids.mono _ _
      | exact aumbryref04_Print.mono _ _
      | exact aumbryref04_Same.mono _ _ _
      | exact aumbryref04_SameAll.mono _ _ _
      | exact term_Kids.mono _ _
      | exact term_Make.mono _ _ _
      | exact LeO.none _
      | refine LeO.ite ?_ ?_
      | refine LeO.bind ?_ (fun _ => ?_)
theorem aumbrylaw04_TermOwn.mono : ∀ a0 a1 k, LeO (aumbrylaw04_TermOwn.f k a0 a1) (aumbrylaw04_TermOwn.f (k + 1) a0 a1) := by
  intro a0 a1 k
  obtain ⟨ih0, ih1, ih2, ih3⟩ := aumbrylaw04_TermOwn.mono_l k
  unfold aumbrylaw04_TermOwn.f
  repeat' first
      | (with_reducible exact ih0 _ _ _ _ _ _ _ _ _)
      | (with_reducible exact ih1 _ _ _ _ _ _ _ _ _ _ _ _)
      | (with_reducible exact ih2 _ _ _ _ _ _ _ _)
      | (with_reducible exact ih3 _ _ _ _ _ _)
      | (with_reducible exact aumbrylaw04_wakes.mono _)
      | (with_reducible exact aumbryref04_CopyAll.mono _ _)
      | (with_reducible exact aumbryref04_Kids.mono _ _)
      | (with_reducible exact aumbryref04_Print.mono _ _)
      | (with_reducible exact aumbryref04_Same.mono _ _ _)
      | (with_reducible exact aumbryref04_SameAll.mono _ _ _)
      | (with_reducible exact term_Kids.mono _ _)
      | (with_reducible exact term_Make.mono _ _ _)
      | (with_reducible exact LeO.refl _)
      | (with_reducible exact LeO.none _)
      | (with_reducible refine LeO.ite ?_ ?_)
      | (with_reducible refine LeO.bind ?_ (fun _ => ?_))
      | exact ih0 _ _ _ _ _ _ _ _ _
      | exact ih1 _ _ _ _ _ _ _ _ _ _ _ _
      | exact ih2 _ _ _ _ _ _ _ _
      | exact ih3 _ _ _ _ _ _
      | exact aumbrylaw04_wakes.mono _
      | exact aumbryref04_CopyAll.mono _ _
      | exact aumbryref04_Kids.mono _ _
      | exact aumbryref04_Print.mono _ _
      | exact aumbryref04_Same.mono _ _ _
      | exact aumbryref04_SameAll.mono _ _ _
      | exact term_Kids.mono _ _
      | exact term_Make.mono _ _ _
      | exact LeO.none _
      | refine LeO.ite ?_ ?_
      | refine LeO.bind ?_ (fun _ => ?_)
set_option maxHeartbeats 8000000 in
set_option maxRecDepth 100000 in
theorem aumbrylaw04_TermOwn.calls (k : Nat) (A0 : Option Addr) (c0 : Nat) (l0 : List (S28)) (A1 : Option Addr) (c1 : Nat) (l1 : List (List (S28))) (r : Bool) (w : World) (hr0 : Kd.C k28 w A0 l0.length l0) (hc0 : l0.length ≤ c0) (hr1 : Kd.C (Kd.slice 28 k28) w A1 l1.length l1) (hc1 : l1.length ≤ c1) (h : aumbrylaw04_TermOwn.f k l0 l1 = some r) :
    Calls Try.prog 7 #[.slice A0 l0.length c0, .slice A1 l1.length c1] w fun e w' => e = .returned (.bool r) ∧ Below w.heap.size w w' := by
  have hu28 := Try.underlying28
  have HR0 := Aside0.mk hr0
  have HC0 := Aside0.mk hc0
  clear hr0 hc0
  have HR1 := Aside0.mk hr1
  have HC1 := Aside0.mk hc1
  clear hr1 hc1
  have HB := Aside0.mk (Below.refl w.heap.size w)
  have H : ((aumbrylaw04_wakes.f k).bind fun t218 => (if t218 = true then ((aumbryref04_Copy.f l0).bind fun t219 => (if t219.length < 5864062014805 then ((some (t219 ++ [(⟨(⟨#[107, 101, 101, 112]⟩ : ByteArray), 0⟩ : S28)] : List (S28))).bind fun y222 => ((aumbryref04_CopyAll.f k l1).bind fun t225 => (if 0 ≤ (l0.length : Int) then (if (l0.length : Int) ≤ (y222.length : Int) then ((term_Kids.f k (y222.take ((l0.length : Int) : Int).toNat)).bind fun bt232 => ((term_Kids.f k (y222.take ((l0.length : Int) : Int).toNat)).bind fun bt240 => ((term_Make.f k (⟨#[102]⟩ : ByteArray) t225).bind fun bt244 => (aumbrylaw04_TermOwn.l0 k l0 l1 y222 t225 bt232.1 bt240.1 bt244.1 (bt232.1.length : Int) 0)))) else (none)) else (none)))) else (none))) else (some false))) = some r := h
  clear h
  replace H := Option.bind_eq_some_iff.mp H
  obtain ⟨t218, A30, H⟩ := H
  replace H : (if t218 = true then ((aumbryref04_Copy.f l0).bind fun t219 => (if t219.length < 5864062014805 then ((some (t219 ++ [(⟨(⟨#[107, 101, 101, 112]⟩ : ByteArray), 0⟩ : S28)] : List (S28))).bind fun y222 => ((aumbryref04_CopyAll.f k l1).bind fun t225 => (if 0 ≤ (l0.length : Int) then (if (l0.length : Int) ≤ (y222.length : Int) then ((term_Kids.f k (y222.take ((l0.length : Int) : Int).toNat)).bind fun bt232 => ((term_Kids.f k (y222.take ((l0.length : Int) : Int).toNat)).bind fun bt240 => ((term_Make.f k (⟨#[102]⟩ : ByteArray) t225).bind fun bt244 => (aumbrylaw04_TermOwn.l0 k l0 l1 y222 t225 bt232.1 bt240.1 bt244.1 (bt232.1.length : Int) 0)))) else (none)) else (none)))) else (none))) else (some false)) = some r := H
  have A3 := Aside0.mk A30
  clear A30
  by_cases c4 : t218 = true
  · subst c4
    have H1 : ((aumbryref04_Copy.f l0).bind fun t219 => (if t219.length < 5864062014805 then ((some (t219 ++ [(⟨(⟨#[107, 101, 101, 112]⟩ : ByteArray), 0⟩ : S28)] : List (S28))).bind fun y222 => ((aumbryref04_CopyAll.f k l1).bind fun t225 => (if 0 ≤ (l0.length : Int) then (if (l0.length : Int) ≤ (y222.length : Int) then ((term_Kids.f k (y222.take ((l0.length : Int) : Int).toNat)).bind fun bt232 => ((term_Kids.f k (y222.take ((l0.length : Int) : Int).toNat)).bind fun bt240 => ((term_Make.f k (⟨#[102]⟩ : ByteArray) t225).bind fun bt244 => (aumbrylaw04_TermOwn.l0 k l0 l1 y222 t225 bt232.1 bt240.1 bt244.1 (bt232.1.length : Int) 0)))) else (none)) else (none)))) else (none))) = some r := by rw [if_pos rfl] at H; exact H
    clear H
    have H := H1
    clear H1
    replace H := Option.bind_eq_some_iff.mp H
    obtain ⟨t219, A50, H⟩ := H
    replace H : (if t219.length < 5864062014805 then ((some (t219 ++ [(⟨(⟨#[107, 101, 101, 112]⟩ : ByteArray), 0⟩ : S28)] : List (S28))).bind fun y222 => ((aumbryref04_CopyAll.f k l1).bind fun t225 => (if 0 ≤ (l0.length : Int) then (if (l0.length : Int) ≤ (y222.length : Int) then ((term_Kids.f k (y222.take ((l0.length : Int) : Int).toNat)).bind fun bt232 => ((term_Kids.f k (y222.take ((l0.length : Int) : Int).toNat)).bind fun bt240 => ((term_Make.f k (⟨#[102]⟩ : ByteArray) t225).bind fun bt244 => (aumbrylaw04_TermOwn.l0 k l0 l1 y222 t225 bt232.1 bt240.1 bt244.1 (bt232.1.length : Int) 0)))) else (none)) else (none)))) else (none)) = some r := H
    have A5 := Aside0.mk A50
    clear A50
    by_cases c6 : t219.length < 5864062014805
    · rw [if_pos c6] at H
      have LMc6 := Aside0.mk c6
      clear c6
      obtain ⟨y222, hy222⟩ : ∃ y_ : List (S28), y_ = (t219 ++ [(⟨(⟨#[107, 101, 101, 112]⟩ : ByteArray), 0⟩ : S28)]) := ⟨_, rfl⟩
      replace H : ((aumbryref04_CopyAll.f k l1).bind fun t225 => (if 0 ≤ (l0.length : Int) then (if (l0.length : Int) ≤ (y222.length : Int) then ((term_Kids.f k (y222.take ((l0.length : Int) : Int).toNat)).bind fun bt232 => ((term_Kids.f k (y222.take ((l0.length : Int) : Int).toNat)).bind fun bt240 => ((term_Make.f k (⟨#[102]⟩ : ByteArray) t225).bind fun bt244 => (aumbrylaw04_TermOwn.l0 k l0 l1 y222 t225 bt232.1 bt240.1 bt244.1 (bt232.1.length : Int) 0)))) else (none)) else (none))) = some r := by first | (rw [hy222]; with_reducible exact H) | (have H2_ := (Option.bind_some _ _).symm.trans H; rw [hy222]; with_reducible exact H2_) | (have H2_ := (Option.bind_some _ _).symm.trans H; with_reducible exact H2_) | with_reducible exact H | (rw [hy222]; exact H) | exact H
      have Ny222 := Aside0.mk hy222
      clear hy222
      replace H := Option.bind_eq_some_iff.mp H
      obtain ⟨t225, A70, H⟩ := H
      replace H : (if 0 ≤ (l0.length : Int) then (if (l0.length : Int) ≤ (y222.length : Int) then ((term_Kids.f k (y222.take ((l0.length : Int) : Int).toNat)).bind fun bt232 => ((term_Kids.f k (y222.take ((l0.length : Int) : Int).toNat)).bind fun bt240 => ((term_Make.f k (⟨#[102]⟩ : ByteArray) t225).bind fun bt244 => (aumbrylaw04_TermOwn.l0 k l0 l1 y222 t225 bt232.1 bt240.1 bt244.1 (bt232.1.length : Int) 0)))) else (none)) else (none)) = some r := H
      have A7 := Aside0.mk A70
      clear A70
      by_cases c8 : 0 ≤ (l0.length : Int)
      · rw [if_pos c8] at H
        have c8b0 := eq_true c8
        have c8b1 : decide (0 ≤ (l0.length : Int)) = true := decide_eq_true c8
        clear c8
        by_cases c9 : (l0.length : Int) ≤ (y222.length : Int)
        · rw [if_pos c9] at H
          have c9b0 := eq_true c9
          have c9b1 : decide ((l0.length : Int) ≤ (y222.length : Int)) = true := decide_eq_true c9
          clear c9
          obtain ⟨y228, hy228⟩ : ∃ y_ : List (S28), y_ = (y222.take ((l0.length : Int) : Int).toNat) := ⟨_, rfl⟩
          replace H : ((term_Kids.f k y228).bind fun bt232 => ((term_Kids.f k (y222.take ((l0.length : Int) : Int).toNat)).bind fun bt240 => ((term_Make.f k (⟨#[102]⟩ : ByteArray) t225).bind fun bt244 => (aumbrylaw04_TermOwn.l0 k l0 l1 y222 t225 bt232.1 bt240.1 bt244.1 (bt232.1.length : Int) 0)))) = some r := by first | (rw [hy228]; with_reducible exact H) | (have H2_ := (Option.bind_some _ _).symm.trans H; rw [hy228]; with_reducible exact H2_) | (have H2_ := (Option.bind_some _ _).symm.trans H; with_reducible exact H2_) | with_reducible exact H | (rw [hy228]; exact H) | exact H
          have Ny228 := Aside0.mk hy228
          clear hy228
          replace H := Option.bind_eq_some_iff.mp H
          obtain ⟨⟨t232, t233⟩, A100, H⟩ := H
          replace H : ((term_Kids.f k (y222.take ((l0.length : Int) : Int).toNat)).bind fun bt240 => ((term_Make.f k (⟨#[102]⟩ : ByteArray) t225).bind fun bt244 => (aumbrylaw04_TermOwn.l0 k l0 l1 y222 t225 t232 bt240.1 bt244.1 (t232.length : Int) 0))) = some r := H
          have A10 := Aside0.mk A100
          clear A100
          have c11b0 := eq_true (of_decide_eq_true (by first | (with_reducible assumption) | assumption) : 0 ≤ (l0.length : Int))
          have c12b0 := eq_true (of_decide_eq_true (by first | (with_reducible assumption) | assumption) : (l0.length : Int) ≤ (y222.length : Int))
          obtain ⟨y236, hy236⟩ : ∃ y_ : List (S28), y_ = (y222.take ((l0.length : Int) : Int).toNat) := ⟨_, rfl⟩
          replace H : ((term_Kids.f k y236).bind fun bt240 => ((term_Make.f k (⟨#[102]⟩ : ByteArray) t225).bind fun bt244 => (aumbrylaw04_TermOwn.l0 k l0 l1 y222 t225 t232 bt240.1 bt244.1 (t232.length : Int) 0))) = some r := by first | (rw [hy236]; with_reducible exact H) | (have H2_ := (Option.bind_some _ _).symm.trans H; rw [hy236]; with_reducible exact H2_) | (have H2_ := (Option.bind_some _ _).symm.trans H; with_reducible exact H2_) | with_reducible exact H | (rw [hy236]; exact H) | exact H
          have Ny236 := Aside0.mk hy236
          clear hy236
          replace H := Option.bind_eq_some_iff.mp H
          obtain ⟨⟨t240, t241⟩, A130, H⟩ := H
          replace H : ((term_Make.f k (⟨#[102]⟩ : ByteArray) t225).bind fun bt244 => (aumbrylaw04_TermOwn.l0 k l0 l1 y222 t225 t232 t240 bt244.1 (t232.length : Int) 0)) = some r := H
          have A13 := Aside0.mk A130
          clear A130
          replace H := Option.bind_eq_some_iff.mp H
          obtain ⟨⟨t244, t245⟩, A140, H⟩ := H
          replace H : (aumbrylaw04_TermOwn.l0 k l0 l1 y222 t225 t232 t240 t244 (t232.length : Int) 0) = some r := H
          have A14 := Aside0.mk A140
          clear A140
          have H' := Aside0.mk H
          clear H
          go_enter Try.func7, Try.ntmps7
          go_wp2_with (first | ((with_reducible refine gate_callee (f := 16) rfl ?_); refine goesL_ (some 20) rfl rfl Try.func16 (by kernel_rfl) rfl #[] rfl (by (try simp only [List.map_toArray, List.map_cons, List.map_nil]); first | done | rfl | (simp only [List.length_drop, List.length_take]; rfl)) ?_; (with_reducible refine (aumbrylaw04_wakes.calls k  true _ A3.out).mono ?_); rintro e w15 ⟨rfl, hb⟩; refine ⟨_, rfl, ?_⟩; have n0_ := Aside0.mk (below_step (by repeat (first | (with_reducible first | exact HB.out | apply below_alloc | apply pw_below_drewN | apply below_drew1) | exact HB.out)) hb); clear HB; have HB := n0_; clear n0_; (try clear hb); (try clear hb2); (try clear hk); (try clear hi)) | ((with_reducible refine gate_callee (f := 20) rfl ?_); refine goesL_ (some 23) rfl rfl Try.func20 (by kernel_rfl) rfl #[.slice A0 l0.length c0] rfl (by (try simp only [List.map_toArray, List.map_cons, List.map_nil]); first | done | rfl | (simp only [List.length_drop, List.length_take]; rfl)) ?_; (with_reducible refine (aumbryref04_Copy.calls _ _ l0 t219 _ ?side1 ?side2 A5.out).mono ?_); (case side1 => repeat (first | exact (Kd.C_below HR0.out HB.out) | (with_reducible refine Kd.C_alloc ?_ _) | (with_reducible refine Kd.C_drewN ?_ _) | (with_reducible refine Kd.C_drew ?_))); (case side2 => exact HC0.out); rintro e w16 ⟨v220, rfl, ho0, hb⟩; refine ⟨_, rfl, ?_⟩; have n0_ := Aside0.mk (Kd.R_lower ho0 (below_size (by repeat (first | (with_reducible first | exact HB.out | apply below_alloc | apply pw_below_drewN | apply below_drew1) | exact HB.out)))); have n1_ := Aside0.mk (below_step (by repeat (first | (with_reducible first | exact HB.out | apply below_alloc | apply pw_below_drewN | apply below_drew1) | exact HB.out)) hb); clear HB; have HO221 := n0_; have HB := n1_; clear n0_ n1_; (try clear hb); (try clear hb2); (try clear hk); (try clear hi); (try clear ho0)) | ((with_reducible refine gate_builtin (b := .append) (xs := #[.tmp 23, .tmp 25]) rfl ?_); (try (refine gate_guard (by rfl) ?_; dsimp only)); at_builtin; refine Kd.R_append k28 (w0 := w) w.heap.size rfl (.tmp 23) (.tmp 25) 23 28 (.agg #[(.string ⟨#[]⟩), (.int .i64 0)]) 24 rfl Try.underlying23 info28 rfl (by decide) (by omega) v220 t219 (⟨(⟨#[107, 101, 101, 112]⟩ : ByteArray), 0⟩ : S28) [.string (⟨#[107, 101, 101, 112]⟩ : ByteArray), .int .i64 0] (fun _ => True) (fun _ => False) rfl rfl ?aP (fun _ hk => hk.elim) ?aF ?aO ?aB ?aS ?aL ?_; (case aP => exact k28_mkM _ _ _ (⟨(⟨#[107, 101, 101, 112]⟩ : ByteArray), 0⟩ : S28)); (case aB => exact (by repeat (first | (with_reducible first | exact HB.out | apply below_alloc | apply pw_below_drewN | apply below_drew1) | exact HB.out))); (case aF => exact (fun _ _ => trivial)); (case aO => exact (by (with_reducible repeat (first | apply Kd.R_alloc | apply Kd.R_drewN | apply Kd.R_drew)); exact HO221.out)); (case aS => exact (below_size (by repeat (first | (with_reducible first | exact HB.out | apply below_alloc | apply pw_below_drewN | apply below_drew1) | exact HB.out)))); (case aL => have := LMc6.out; omega); intro v223 w17 ho hb hg hat; rw [← Ny222.out] at ho; have n0_ := Aside0.mk (hb); have n1_ := Aside0.mk (ho); clear HB; clear HO221; have HB := n0_; have HO224 := n1_; clear n0_ n1_; clear ho hb hg hat) | ((with_reducible refine gate_callee (f := 22) rfl ?_); refine goesL_ (some 28) rfl rfl Try.func22 (by kernel_rfl) rfl #[.slice A1 l1.length c1] rfl (by (try simp only [List.map_toArray, List.map_cons, List.map_nil]); first | done | rfl | (simp only [List.length_drop, List.length_take]; rfl)) ?_; (with_reducible refine (aumbryref04_CopyAll.calls k _ _ l1 t225 _ ?side1 ?side2 A7.out).mono ?_); (case side1 => repeat (first | exact (Kd.C_below HR1.out HB.out) | (with_reducible refine Kd.C_alloc ?_ _) | (with_reducible refine Kd.C_drewN ?_ _) | (with_reducible refine Kd.C_drew ?_))); (case side2 => exact HC1.out); rintro e w18 ⟨v226, rfl, ho0, hb⟩; refine ⟨_, rfl, ?_⟩; replace ho0 := Kd.S_mono (ok' := fun k_ => k_ < w18.heap.size) (Kd.S_bound ho0) (fun _ hk_ => hk_.2.2.1); have n0_ := Aside0.mk (Kd.R_below (by (with_reducible repeat (first | apply Kd.R_alloc | apply Kd.R_drewN | apply Kd.R_drew)); exact HO224.out) hb); have n1_ := Aside0.mk (Kd.S_lower (Kd.S_new' ho0 (Kd.R_lt (by (with_reducible repeat (first | apply Kd.R_alloc | apply Kd.R_drewN | apply Kd.R_drew)); exact HO224.out))) (below_size (by repeat (first | (with_reducible first | exact HB.out | apply below_alloc | apply pw_below_drewN | apply below_drew1) | exact HB.out)))); have n2_ := Aside0.mk (below_step (by repeat (first | (with_reducible first | exact HB.out | apply below_alloc | apply pw_below_drewN | apply below_drew1) | exact HB.out)) hb); clear HO224; clear HB; have HO224 := n0_; have HO227 := n1_; have HB := n2_; clear n0_ n1_ n2_; (try clear hb); (try clear hb2); (try clear hk); (try clear hi); (try clear ho0); obtain ⟨Ao20, co20, eo20⟩ := Kd.R_slice HO224.out; subst eo20; have q19 : ((l0.length : Int) : Int) ≤ ((y222.length : Int) : Int) := of_decide_eq_true (by first | (with_reducible assumption) | assumption); obtain ⟨i019, hi019, _, hsz19, _⟩ := info_parts info28; have hroom19 : y222.length ≤ co20 := (Kd.R_reads' HO224.out).2.1; have hC19 : Kd.C k28 _ Ao20 y222.length y222 := (Kd.R_reads' HO224.out).2.2; have hcut19 := cut_to (P := Try.prog) 23 28 .i64 Try.underlying23 hi019 Ao20 y222.length co20 (l0.length : Int) (of_decide_eq_true (by first | (with_reducible assumption) | assumption)) q19 hroom19; have hr19 := Kd.C_take (m := ((l0.length : Int) : Int).toNat) hC19 (by omega); have hy19 : y228.length = ((l0.length : Int) : Int).toNat := (by rw [Ny228.out, List.length_take]; omega); rw [← Ny228.out] at hr19; rw [← hy19] at hcut19; have HR231 := Aside0.mk hr19; have HC231 := Aside0.mk (show y228.length ≤ co20 from by omega); clear hr19 hC19 hroom19 hi019 hsz19; have KY19 := Aside0.mk hy19; clear hy19; have KL19 := Aside0.mk (show ((l0.length : Int) : Int).toNat ≤ y222.length from by omega); replace q19 := eq_true q19) | ((with_reducible refine gate_callee (f := 24) rfl ?_); refine goesL_ (some 34) rfl rfl Try.func24 (by kernel_rfl) rfl #[.slice Ao20 y228.length co20] rfl (by (try simp only [List.map_toArray, List.map_cons, List.map_nil]); first | done | rfl | (simp only [List.length_drop, List.length_take]; rfl)) ?_; (with_reducible refine (term_Kids.calls k _ _ y228 t232 t233 _ ?side1 ?side2 A10.out).mono ?_); (case side1 => repeat (first | exact (by repeat (first | (with_reducible exact HR231.out) | (with_reducible refine Kd.C_alloc ?_ _) | (with_reducible refine Kd.C_drewN ?_ _) | (with_reducible refine Kd.C_drew ?_) | exact HR231.out)) | (with_reducible refine Kd.C_alloc ?_ _) | (with_reducible refine Kd.C_drewN ?_ _) | (with_reducible refine Kd.C_drew ?_))); (case side2 => exact HC231.out); rintro e w21 ⟨v234, rfl, ho0, hb⟩; refine ⟨_, rfl, ?_⟩; replace ho0 := Kd.S_mono (ok' := fun k_ => w18.heap.size ≤ k_ ∧ k_ < w21.heap.size) (Kd.S_bound ho0) (fun _ hk_ => ⟨Nat.le_trans (below_size (by repeat (first | (with_reducible exact Below.refl _ _) | apply below_alloc | apply pw_below_drewN | apply below_drew1))) hk_.2.1, hk_.2.2.1⟩); have n0_ := Aside0.mk (Kd.R_below (by (with_reducible repeat (first | apply Kd.R_alloc | apply Kd.R_drewN | apply Kd.R_drew)); exact HO224.out) hb); have n1_ := Aside0.mk (Kd.S_elder' (by (with_reducible repeat (first | apply Kd.S_alloc | apply Kd.S_drewN | apply Kd.S_drew)); exact HO227.out) (Kd.S_base ho0) hb); have n2_ := Aside0.mk (Kd.S_lower (Kd.S_new' (Kd.S_new' ho0 (Kd.R_lt (by (with_reducible repeat (first | apply Kd.R_alloc | apply Kd.R_drewN | apply Kd.R_drew)); exact HO224.out))) (Kd.S_lt (by (with_reducible repeat (first | apply Kd.S_alloc | apply Kd.S_drewN | apply Kd.S_drew)); exact HO227.out))) (below_size (by repeat (first | (with_reducible first | exact HB.out | apply below_alloc | apply pw_below_drewN | apply below_drew1) | exact HB.out)))); have n3_ := Aside0.mk (Kd.C_below (by repeat (first | (with_reducible exact HR231.out) | (with_reducible refine Kd.C_alloc ?_ _) | (with_reducible refine Kd.C_drewN ?_ _) | (with_reducible refine Kd.C_drew ?_) | exact HR231.out)) hb); have n4_ := Aside0.mk (below_step (by repeat (first | (with_reducible first | exact HB.out | apply below_alloc | apply pw_below_drewN | apply below_drew1) | exact HB.out)) hb); clear HO224; clear HO227; clear HR231; clear HB; have HO224 := n0_; have HO227 := n1_; have HO235 := n2_; have HR231 := n3_; have HB := n4_; clear n0_ n1_ n2_ n3_ n4_; (try clear hb); (try clear hb2); (try clear hk); (try clear hi); (try clear ho0); have q22 : ((l0.length : Int) : Int) ≤ ((y222.length : Int) : Int) := of_decide_eq_true (by first | (with_reducible assumption) | assumption); obtain ⟨i022, hi022, _, hsz22, _⟩ := info_parts info28; have hroom22 : y222.length ≤ co20 := (Kd.R_reads' HO224.out).2.1; have hC22 : Kd.C k28 _ Ao20 y222.length y222 := (Kd.R_reads' HO224.out).2.2; have hcut22 := cut_to (P := Try.prog) 23 28 .i64 Try.underlying23 hi022 Ao20 y222.length co20 (l0.length : Int) (of_decide_eq_true (by first | (with_reducible assumption) | assumption)) q22 hroom22; have hr22 := Kd.C_take (m := ((l0.length : Int) : Int).toNat) hC22 (by omega); have hy22 : y236.length = ((l0.length : Int) : Int).toNat := (by rw [Ny236.out, List.length_take]; omega); rw [← Ny236.out] at hr22; rw [← hy22] at hcut22; have HR239 := Aside0.mk hr22; have HC239 := Aside0.mk (show y236.length ≤ co20 from by omega); clear hr22 hC22 hroom22 hi022 hsz22; have KY22 := Aside0.mk hy22; clear hy22; have KL22 := Aside0.mk (show ((l0.length : Int) : Int).toNat ≤ y222.length from by omega); replace q22 := eq_true q22) | ((with_reducible refine gate_callee (f := 24) rfl ?_); refine goesL_ (some 42) rfl rfl Try.func24 (by kernel_rfl) rfl #[.slice Ao20 y228.length co20] rfl (by (try simp only [List.map_toArray, List.map_cons, List.map_nil]); first | done | rfl | (simp only [List.length_drop, List.length_take]; rfl)) ?_; (with_reducible refine (term_Kids.calls k _ _ y228 t240 t241 _ ?side1 ?side2 (show term_Kids.f k y228 = some (t240, t241) from by have h_ := A13.out; rw [Ny236.out] at h_; rw [Ny228.out]; exact h_)).mono ?_); (case side1 => repeat (first | exact (by repeat (first | (with_reducible exact HR231.out) | (with_reducible refine Kd.C_alloc ?_ _) | (with_reducible refine Kd.C_drewN ?_ _) | (with_reducible refine Kd.C_drew ?_) | exact HR231.out)) | (with_reducible refine Kd.C_alloc ?_ _) | (with_reducible refine Kd.C_drewN ?_ _) | (with_reducible refine Kd.C_drew ?_))); (case side2 => exact HC231.out); rintro e w23 ⟨v242, rfl, ho0, hb⟩; refine ⟨_, rfl, ?_⟩; replace ho0 := Kd.S_mono (ok' := fun k_ => w21.heap.size ≤ k_) (Kd.S_bound ho0) (fun _ hk_ => Nat.le_trans (below_size (by repeat (first | (with_reducible exact Below.refl _ _) | apply below_alloc | apply pw_below_drewN | apply below_drew1))) hk_.2.1); have n0_ := Aside0.mk (Kd.R_below (by (with_reducible repeat (first | apply Kd.R_alloc | apply Kd.R_drewN | apply Kd.R_drew)); exact HO224.out) hb); have n1_ := Aside0.mk (Kd.S_elder' (by (with_reducible repeat (first | apply Kd.S_alloc | apply Kd.S_drewN | apply Kd.S_drew)); exact HO227.out) (Kd.S_base ho0) hb); have n2_ := Aside0.mk (Kd.S_elder' (by (with_reducible repeat (first | apply Kd.S_alloc | apply Kd.S_drewN | apply Kd.S_drew)); exact HO235.out) (Kd.S_base ho0) hb); have n3_ := Aside0.mk (Kd.S_lower (Kd.S_new' (Kd.S_new' (Kd.S_new' ho0 (Kd.R_lt (by (with_reducible repeat (first | apply Kd.R_alloc | apply Kd.R_drewN | apply Kd.R_drew)); exact HO224.out))) (Kd.S_lt (by (with_reducible repeat (first | apply Kd.S_alloc | apply Kd.S_drewN | apply Kd.S_drew)); exact HO227.out))) (Kd.S_lt (by (with_reducible repeat (first | apply Kd.S_alloc | apply Kd.S_drewN | apply Kd.S_drew)); exact HO235.out))) (below_size (by repeat (first | (with_reducible first | exact HB.out | apply below_alloc | apply pw_below_drewN | apply below_drew1) | exact HB.out)))); have n4_ := Aside0.mk (Kd.C_below (by repeat (first | (with_reducible exact HR231.out) | (with_reducible refine Kd.C_alloc ?_ _) | (with_reducible refine Kd.C_drewN ?_ _) | (with_reducible refine Kd.C_drew ?_) | exact HR231.out)) hb); have n5_ := Aside0.mk (Kd.C_below (by repeat (first | (with_reducible exact HR239.out) | (with_reducible refine Kd.C_alloc ?_ _) | (with_reducible refine Kd.C_drewN ?_ _) | (with_reducible refine Kd.C_drew ?_) | exact HR239.out)) hb); have n6_ := Aside0.mk (below_step (by repeat (first | (with_reducible first | exact HB.out | apply below_alloc | apply pw_below_drewN | apply below_drew1) | exact HB.out)) hb); clear HO224; clear HO227; clear HO235; clear HR231; clear HR239; clear HB; have HO224 := n0_; have HO227 := n1_; have HO235 := n2_; have HO243 := n3_; have HR231 := n4_; have HR239 := n5_; have HB := n6_; clear n0_ n1_ n2_ n3_ n4_ n5_ n6_; (try clear hb); (try clear hb2); (try clear hk); (try clear hi); (try clear ho0); obtain ⟨Ao24, co24, eo24⟩ := Kd.S_slice HO227.out; subst eo24) | ((with_reducible refine gate_callee (f := 21) rfl ?_); refine goesL_ (some 47) rfl rfl Try.func21 (by kernel_rfl) rfl #[.string (⟨#[102]⟩ : ByteArray), .slice Ao24 t225.length co24] rfl (by (try simp only [List.map_toArray, List.map_cons, List.map_nil]); first | done | rfl | (simp only [List.length_drop, List.length_take]; rfl)) ?_; (with_reducible refine (term_Make.calls k (⟨#[102]⟩ : ByteArray) _ _ t225 t244 t245 _ ?side1 ?side2 A14.out).mono ?_); (case side1 => repeat (first | exact (Kd.S_reads' HO227.out).2.2 | (with_reducible refine Kd.C_alloc ?_ _) | (with_reducible refine Kd.C_drewN ?_ _) | (with_reducible refine Kd.C_drew ?_))); (case side2 => exact (Kd.S_reads' HO227.out).2.1); rintro e w25 ⟨v246, rfl, ho0, hb⟩; refine ⟨_, rfl, ?_⟩; have n0_ := Aside0.mk (Kd.R_elder' (by (with_reducible repeat (first | apply Kd.R_alloc | apply Kd.R_drewN | apply Kd.R_drew)); exact HO224.out) (Kd.R_base ho0) hb); have n1_ := Aside0.mk (Kd.S_elder' (by (with_reducible repeat (first | apply Kd.S_alloc | apply Kd.S_drewN | apply Kd.S_drew)); exact HO227.out) (Kd.R_base ho0) hb); have n2_ := Aside0.mk (Kd.S_elder' (by (with_reducible repeat (first | apply Kd.S_alloc | apply Kd.S_drewN | apply Kd.S_drew)); exact HO235.out) (Kd.R_base ho0) hb); have n3_ := Aside0.mk (Kd.S_elder' (by (with_reducible repeat (first | apply Kd.S_alloc | apply Kd.S_drewN | apply Kd.S_drew)); exact HO243.out) (Kd.R_base ho0) hb); have n4_ := Aside0.mk (Kd.R_lower (Kd.R_new' ho0 (Kd.R_lt (by (with_reducible repeat (first | apply Kd.R_alloc | apply Kd.R_drewN | apply Kd.R_drew)); exact HO224.out))) (below_size (by repeat (first | (with_reducible first | exact HB.out | apply below_alloc | apply pw_below_drewN | apply below_drew1) | exact HB.out)))); have n5_ := Aside0.mk (Kd.C_below (by repeat (first | (with_reducible exact HR231.out) | (with_reducible refine Kd.C_alloc ?_ _) | (with_reducible refine Kd.C_drewN ?_ _) | (with_reducible refine Kd.C_drew ?_) | exact HR231.out)) hb); have n6_ := Aside0.mk (Kd.C_below (by repeat (first | (with_reducible exact HR239.out) | (with_reducible refine Kd.C_alloc ?_ _) | (with_reducible refine Kd.C_drewN ?_ _) | (with_reducible refine Kd.C_drew ?_) | exact HR239.out)) hb); have n7_ := Aside0.mk (below_step (by repeat (first | (with_reducible first | exact HB.out | apply below_alloc | apply pw_below_drewN | apply below_drew1) | exact HB.out)) hb); clear HO224; clear HO227; clear HO235; clear HO243; clear HR231; clear HR239; clear HB; have HO224 := n0_; have HO227 := n1_; have HO235 := n2_; have HO243 := n3_; have HO247 := n4_; have HR231 := n5_; have HR239 := n6_; have HB := n7_; clear n0_ n1_ n2_ n3_ n4_ n5_ n6_ n7_; (try clear hb); (try clear hb2); (try clear hk); (try clear hi); (try clear ho0); obtain ⟨Ao26, co26, eo26⟩ := Kd.S_slice HO235.out; subst eo26))
          go_loopg [52] k (fun kq v52 w' => ∃ (x5_1 : List (S28)) (x7_1 : List (List (S28))) (x11_1 : List (S28)) (x52_1 : Int), v52 = .int .i64 x52_1 ∧ Aside0 (aumbrylaw04_TermOwn.l0 kq l0 l1 x5_1 t225 x7_1 t240 x11_1 (t232.length : Int) x52_1 = some r) ∧ Aside0 (kq ≤ k) ∧ Aside0 (Kd.R k28 28 w' w.heap.size (fun k_ => some k_ ≠ (v246 : Value).ownBlock) (.slice Ao20 y222.length co20) x5_1) ∧ Aside0 (Kd.S (Kd.slice 28 k28) 23 w' w.heap.size (fun k_ => some k_ ≠ ((.slice Ao20 y222.length co20) : Value).ownBlock ∧ some k_ ≠ ((.slice Ao26 t232.length co26) : Value).ownBlock ∧ some k_ ≠ (v242 : Value).ownBlock ∧ some k_ ≠ (v246 : Value).ownBlock ∧ k_ < w18.heap.size) (.slice Ao24 t225.length co24) t225) ∧ Aside0 (Kd.S (Kd.slice 28 k28) 23 w' w.heap.size (fun k_ => some k_ ≠ ((.slice Ao20 y222.length co20) : Value).ownBlock ∧ some k_ ≠ ((.slice Ao24 t225.length co24) : Value).ownBlock ∧ some k_ ≠ (v242 : Value).ownBlock ∧ some k_ ≠ (v246 : Value).ownBlock ∧ w18.heap.size ≤ k_ ∧ k_ < w21.heap.size) (.slice Ao26 t232.length co26) x7_1) ∧ Aside0 (Kd.S (Kd.slice 28 k28) 23 w' w.heap.size (fun k_ => some k_ ≠ ((.slice Ao20 y222.length co20) : Value).ownBlock ∧ some k_ ≠ ((.slice Ao24 t225.length co24) : Value).ownBlock ∧ some k_ ≠ ((.slice Ao26 t232.length co26) : Value).ownBlock ∧ some k_ ≠ (v246 : Value).ownBlock ∧ w21.heap.size ≤ k_) v242 t240) ∧ Aside0 (Kd.R k28 28 w' w.heap.size (fun k_ => some k_ ≠ ((.slice Ao20 y222.length co20) : Value).ownBlock) v246 x11_1) ∧ Aside0 (Below w.heap.size w w'))
          case atStart => exact ⟨(y222), (t232), (t244), (0), (by first | rfl | (simp; done) | (simp [*]; done)), H', ⟨Nat.le_refl _⟩, ⟨by (with_reducible repeat (first | apply Kd.R_alloc | apply Kd.R_drewN | apply Kd.R_drew)); exact Kd.R_mono HO224.out (fun _ hk => hk.2)⟩, ⟨by (with_reducible repeat (first | apply Kd.S_alloc | apply Kd.S_drewN | apply Kd.S_drew)); exact Kd.S_mono HO227.out (fun _ hk => ⟨hk.1.1.1.2, hk.1.1.2, hk.1.2, hk.2, hk.1.1.1.1⟩)⟩, ⟨by (with_reducible repeat (first | apply Kd.S_alloc | apply Kd.S_drewN | apply Kd.S_drew)); exact Kd.S_mono HO235.out (fun _ hk => ⟨hk.1.1.1.2, hk.1.1.2, hk.1.2, hk.2, hk.1.1.1.1⟩)⟩, ⟨by (with_reducible repeat (first | apply Kd.S_alloc | apply Kd.S_drewN | apply Kd.S_drew)); exact Kd.S_mono HO243.out (fun _ hk => ⟨hk.1.1.1.2, hk.1.1.2, hk.1.2, hk.2, hk.1.1.1.1⟩)⟩, ⟨by (with_reducible repeat (first | apply Kd.R_alloc | apply Kd.R_drewN | apply Kd.R_drew)); exact Kd.R_mono HO247.out (fun _ hk => hk.2)⟩, ⟨by repeat (first | (with_reducible first | exact HB.out | apply below_alloc | apply pw_below_drewN | apply below_drew1) | exact HB.out)⟩⟩
          case round =>
            clear H'
            try clear c1
            try clear q1
            try clear c2
            try clear p2
            try clear q2
            try clear c4
            try clear c6
            try clear c7
            try clear c8
            try clear c8b0
            try clear c8b1
            try clear c9
            try clear c9b0
            try clear c9b1
            try clear c11
            try clear c11b0
            try clear c12
            try clear c12b0
            try clear c16
            try clear q19
            try clear c20
            try clear c21
            try clear c22
            try clear q22
            try clear c24
            try clear q19
            try clear q22
            obtain ⟨x5_1, x7_1, x11_1, x52_1, rfl, HA, HK1, HO_5, HO_6, HO_7, HO_9, HO_11, HB⟩ := hrel
            have hl5_1 := (Kd.R_reads' HO_5.out).1
            rw [hl5_1] at HO_5
            (try simp only [hl5_1])
            (try simp only [hl5_1] at HO_6)
            (try simp only [hl5_1] at HO_7)
            (try simp only [hl5_1] at HO_9)
            (try simp only [hl5_1] at HO_11)
            have hl7_1 := (Kd.S_reads' HO_7.out).1
            rw [hl7_1] at HO_7
            (try simp only [hl7_1])
            (try simp only [hl7_1] at HO_5)
            (try simp only [hl7_1] at HO_6)
            (try simp only [hl7_1] at HO_9)
            (try simp only [hl7_1] at HO_11)
            cases gk with
            | zero => exact absurd HA.out (by simp [aumbrylaw04_TermOwn.l0])
            | succ k1 =>
              have H := HA.out
              clear HA
              simp only [aumbrylaw04_TermOwn.l0] at H
              by_cases c27 : x52_1 < (t232.length : Int)
              · rw [if_pos c27] at H
                have c27b0 : decide (x52_1 < (t232.length : Int)) = true := decide_eq_true c27
                clear c27
                by_cases c28 : 0 ≤ x52_1
                · rw [if_pos c28] at H
                  have c28b0 : decide (0 ≤ x52_1) = true := decide_eq_true c28
                  clear c28
                  by_cases c29 : x52_1 < (x7_1.length : Int)
                  · rw [if_pos c29] at H
                    have c29b0 : decide (x52_1 < (x7_1.length : Int)) = true := decide_eq_true c29
                    clear c29
                    have H' := Aside0.mk H
                    clear H
                    have p248 : 0 ≤ (x52_1 : Int) := of_decide_eq_true (by first | (with_reducible assumption) | assumption)
                    have q248 : x52_1 < (x7_1.length : Int) := of_decide_eq_true (by first | (with_reducible assumption) | assumption)
                    obtain ⟨ad248, A248_0, c248_0, e248, hx248_0, hl248_0, hi248_0⟩ := at_L3 (Kd.S_reads' HO_7.out).2.2 x52_1 p248 q248
                    cases e248
                    obtain ⟨ce248, hce248, hMe248, hcc248⟩ := Kd.S_get HO_7.out [] x52_1 p248 (by first | exact q248 | exact of_decide_eq_true (by first | (with_reducible assumption) | assumption) | (have e_ := (Kd.S_reads' HO_7.out).1; omega))
                    obtain ⟨ve248_0, rfl, ge248_0⟩ := hMe248
                    have hv248_0 := hcc248 0 _ rfl
                    rw [Nat.add_zero, show ((Kd.slice 28 k28)).sz = 1 from rfl, Nat.mul_one] at hv248_0
                    replace hv248_0 := Option.some.inj (hv248_0.symm.trans hx248_0)
                    rw [hv248_0] at ge248_0
                    have HL248_0 := Aside0.mk (show Kd.R k28 28 _ _ _ _ (rd_L3 x7_1 x52_1) from ge248_0)
                    clear hv248_0 ge248_0
                    have HX248_0 := Aside0.mk hx248_0
                    clear hcc248 hce248
                    have HR248_0 := Aside0.mk hi248_0
                    have HC248_0 := Aside0.mk hl248_0
                    clear hi248_0 hl248_0
                    replace p248 := eq_true p248
                    replace q248 := eq_true q248
                    go_wp2
                    go_loopg [60] k1 (fun kq v60 w' => ∃ (x5_2 : List (S28)) (x7_2 : List (List (S28))) (x11_2 : List (S28)) (x60_2 : Int), v60 = .int .i64 x60_2 ∧ Aside0 (aumbrylaw04_TermOwn.l1 kq l0 l1 x5_2 t225 x7_2 t240 x11_2 x52_1 (t232.length : Int) x52_1 ((rd_L3 x7_1 x52_1).length : Int) x60_2 = some r) ∧ Aside0 (kq ≤ k1) ∧ Aside0 (Kd.R k28 28 w' w.heap.size (fun k_ => some k_ ≠ (v246 : Value).ownBlock) (.slice Ao20 x5_1.length co20) x5_2) ∧ Aside0 (Kd.S (Kd.slice 28 k28) 23 w' w.heap.size (fun k_ => some k_ ≠ ((.slice Ao20 x5_1.length co20) : Value).ownBlock ∧ some k_ ≠ ((.slice (some ad248) x7_1.length co26) : Value).ownBlock ∧ some k_ ≠ (v242 : Value).ownBlock ∧ some k_ ≠ (v246 : Value).ownBlock ∧ k_ < w18.heap.size) (.slice Ao24 t225.length co24) t225) ∧ Aside0 (Kd.S (Kd.slice 28 k28) 23 w' w.heap.size (fun k_ => some k_ ≠ ((.slice Ao20 x5_1.length co20) : Value).ownBlock ∧ some k_ ≠ ((.slice Ao24 t225.length co24) : Value).ownBlock ∧ some k_ ≠ (v242 : Value).ownBlock ∧ some k_ ≠ (v246 : Value).ownBlock ∧ w18.heap.size ≤ k_ ∧ k_ < w21.heap.size) (.slice (some ad248) x7_1.length co26) x7_2) ∧ Aside0 (Kd.S (Kd.slice 28 k28) 23 w' w.heap.size (fun k_ => some k_ ≠ ((.slice Ao20 x5_1.length co20) : Value).ownBlock ∧ some k_ ≠ ((.slice Ao24 t225.length co24) : Value).ownBlock ∧ some k_ ≠ ((.slice (some ad248) x7_1.length co26) : Value).ownBlock ∧ some k_ ≠ (v246 : Value).ownBlock ∧ w21.heap.size ≤ k_) v242 t240) ∧ Aside0 (Kd.R k28 28 w' w.heap.size (fun k_ => some k_ ≠ ((.slice Ao20 x5_1.length co20) : Value).ownBlock) v246 x11_2) ∧ Aside0 (Below w.heap.size w w'))
                    case atStart => exact ⟨(x5_1), (x7_1), (x11_1), (0), (by first | rfl | (simp; done) | (simp [*]; done)), H', ⟨Nat.le_refl _⟩, ⟨by (try simp only [hl5_1]); (try simp only [hl7_1]); (with_reducible repeat (first | apply Kd.R_alloc | apply Kd.R_drewN | apply Kd.R_drew)); exact HO_5.out⟩, ⟨by (try simp only [hl5_1]); (try simp only [hl7_1]); (with_reducible repeat (first | apply Kd.S_alloc | apply Kd.S_drewN | apply Kd.S_drew)); exact HO_6.out⟩, ⟨by (try simp only [hl5_1]); (try simp only [hl7_1]); (with_reducible repeat (first | apply Kd.S_alloc | apply Kd.S_drewN | apply Kd.S_drew)); exact HO_7.out⟩, ⟨by (try simp only [hl5_1]); (try simp only [hl7_1]); (with_reducible repeat (first | apply Kd.S_alloc | apply Kd.S_drewN | apply Kd.S_drew)); exact HO_9.out⟩, ⟨by (try simp only [hl5_1]); (try simp only [hl7_1]); (with_reducible repeat (first | apply Kd.R_alloc | apply Kd.R_drewN | apply Kd.R_drew)); exact HO_11.out⟩, ⟨by repeat (first | (with_reducible first | exact HB.out | apply below_alloc | apply pw_below_drewN | apply below_drew1) | exact HB.out)⟩⟩
                    case round =>
                      clear H'
                      try clear c1
                      try clear q1
                      try clear c2
                      try clear p2
                      try clear q2
                      try clear hx2
                      try clear c4
                      try clear c6
                      try clear c7
                      try clear c8
                      try clear c8b0
                      try clear c8b1
                      try clear c9
                      try clear c9b0
                      try clear c9b1
                      try clear c11
                      try clear c11b0
                      try clear c12
                      try clear c12b0
                      try clear c16
                      try clear q19
                      try clear c20
                      try clear c21
                      try clear c22
                      try clear q22
                      try clear c24
                      try clear p24
                      try clear q24
                      try clear hx24
                      try clear c27
                      try clear c27b0
                      try clear c28
                      try clear c28b0
                      try clear c29
                      try clear c29b0
                      try clear hx248_0
                      try clear p2
                      try clear p248
                      try clear q1
                      try clear q19
                      try clear q2
                      try clear q22
                      try clear q248
                      obtain ⟨x5_2, x7_2, x11_2, x60_2, rfl, HA, HK2, HO_5, HO_6, HO_7, HO_9, HO_11, HB⟩ := hrel
                      have hl5_2 := (Kd.R_reads' HO_5.out).1
                      rw [hl5_2] at HO_5
                      (try simp only [hl5_2])
                      (try simp only [hl5_2] at HO_6)
                      (try simp only [hl5_2] at HO_7)
                      (try simp only [hl5_2] at HO_9)
                      (try simp only [hl5_2] at HO_11)
                      have hl7_2 := (Kd.S_reads' HO_7.out).1
                      rw [hl7_2] at HO_7
                      (try simp only [hl7_2])
                      (try simp only [hl7_2] at HO_5)
                      (try simp only [hl7_2] at HO_6)
                      (try simp only [hl7_2] at HO_9)
                      (try simp only [hl7_2] at HO_11)
                      cases gk with
                      | zero => exact absurd HA.out (by simp [aumbrylaw04_TermOwn.l1])
                      | succ k2 =>
                        have H := HA.out
                        clear HA
                        simp only [aumbrylaw04_TermOwn.l1] at H
                        by_cases c30 : x60_2 < ((rd_L3 x7_1 x52_1).length : Int)
                        · rw [if_pos c30] at H
                          have c30b0 : decide (x60_2 < ((rd_L3 x7_1 x52_1).length : Int)) = true := decide_eq_true c30
                          clear c30
                          by_cases c31 : 0 ≤ x52_1
                          · rw [if_pos c31] at H
                            have c31b0 : decide (0 ≤ x52_1) = true := decide_eq_true c31
                            clear c31
                            by_cases c32 : x52_1 < (x7_2.length : Int)
                            · rw [if_pos c32] at H
                              have c32b0 : decide (x52_1 < (x7_2.length : Int)) = true := decide_eq_true c32
                              clear c32
                              by_cases c33 : 0 ≤ x60_2
                              · rw [if_pos c33] at H
                                have c33b0 : decide (0 ≤ x60_2) = true := decide_eq_true c33
                                clear c33
                                by_cases c34 : x60_2 < ((rd_L3 x7_2 x52_1).length : Int)
                                · rw [if_pos c34] at H
                                  have c34b0 : decide (x60_2 < ((rd_L3 x7_2 x52_1).length : Int)) = true := decide_eq_true c34
                                  clear c34
                                  obtain ⟨y250, hy250⟩ : ∃ y_ : List (S28), y_ = ((rd_L3 x7_2 x52_1).set (x60_2 : Int).toNat (⟨(⟨#[120]⟩ : ByteArray), (rd_T28 (rd_L3 x7_2 x52_1) x60_2).f1⟩ : S28)) := ⟨_, rfl⟩
                                  replace H : (aumbrylaw04_TermOwn.l1 k2 l0 l1 x5_2 t225 (x7_2.set (x52_1 : Int).toNat y250) t240 x11_2 x52_1 (t232.length : Int) x52_1 ((rd_L3 x7_1 x52_1).length : Int) (wrap64 (x60_2 + 1))) = some r := by first | (rw [hy250]; with_reducible exact H) | (have H2_ := (Option.bind_some _ _).symm.trans H; rw [hy250]; with_reducible exact H2_) | (have H2_ := (Option.bind_some _ _).symm.trans H; with_reducible exact H2_) | with_reducible exact H | (rw [hy250]; exact H) | exact H
                                  have Ny250 := Aside0.mk hy250
                                  clear hy250
                                  obtain ⟨y252, hy252⟩ : ∃ y_ : List (List (S28)), y_ = (x7_2.set (x52_1 : Int).toNat y250) := ⟨_, rfl⟩
                                  replace H : (aumbrylaw04_TermOwn.l1 k2 l0 l1 x5_2 t225 y252 t240 x11_2 x52_1 (t232.length : Int) x52_1 ((rd_L3 x7_1 x52_1).length : Int) (wrap64 (x60_2 + 1))) = some r := by first | (rw [hy252]; with_reducible exact H) | (have H2_ := (Option.bind_some _ _).symm.trans H; rw [hy252]; with_reducible exact H2_) | (have H2_ := (Option.bind_some _ _).symm.trans H; with_reducible exact H2_) | with_reducible exact H | (rw [hy252]; exact H) | exact H
                                  have Ny252 := Aside0.mk hy252
                                  clear hy252
                                  have H' := Aside0.mk H
                                  clear H
                                  have p249 : 0 ≤ (x52_1 : Int) := of_decide_eq_true (by first | (with_reducible assumption) | assumption)
                                  have q249 : x52_1 < (x7_2.length : Int) := of_decide_eq_true (by first | (with_reducible assumption) | assumption)
                                  obtain ⟨ad249, A249_0, c249_0, e249, hx249_0, hl249_0, hi249_0⟩ := at_L3 (Kd.S_reads' HO_7.out).2.2 x52_1 p249 q249
                                  obtain rfl : ad248 = ad249 := (by injection e249)
                                  obtain ⟨ce249, hce249, hMe249, hcc249⟩ := Kd.S_get HO_7.out [] x52_1 p249 (by first | exact q249 | exact of_decide_eq_true (by first | (with_reducible assumption) | assumption) | (have e_ := (Kd.S_reads' HO_7.out).1; omega))
                                  obtain ⟨ve249_0, rfl, ge249_0⟩ := hMe249
                                  have hv249_0 := hcc249 0 _ rfl
                                  rw [Nat.add_zero, show ((Kd.slice 28 k28)).sz = 1 from rfl, Nat.mul_one] at hv249_0
                                  replace hv249_0 := Option.some.inj (hv249_0.symm.trans hx249_0)
                                  rw [hv249_0] at ge249_0
                                  have HL249_0 := Aside0.mk (show Kd.R k28 28 _ _ _ _ (rd_L3 x7_2 x52_1) from ge249_0)
                                  clear hv249_0 ge249_0
                                  have HX249_0 := Aside0.mk hx249_0
                                  clear hcc249 hce249
                                  have HR249_0 := Aside0.mk hi249_0
                                  have HC249_0 := Aside0.mk hl249_0
                                  clear hi249_0 hl249_0
                                  replace p249 := eq_true p249
                                  replace q249 := eq_true q249
                                  have p35 : 0 ≤ (x60_2 : Int) := of_decide_eq_true (by first | (with_reducible assumption) | assumption)
                                  have q35 : (x60_2 : Int) < (((rd_L3 x7_2 x52_1).length : Int) : Int) := of_decide_eq_true (by first | (with_reducible assumption) | assumption)
                                  obtain ⟨go35, co35, eo35, gb35, gl35, cl35, HG35⟩ := Kd.R_form HL249_0.out (by omega)
                                  (first | cases eo35 | (injection eo35 with ea_ en_ ec_; (first | subst ea_ | (injection ea_ with ea_; subst ea_)); subst ec_; clear en_))
                                  have GB35 := Aside0.mk gb35
                                  have GG35 := Aside0.mk HG35
                                  clear gb35 gl35 HG35
                                  obtain ⟨ce35, hcl35, hM35, hcc35, hfr35⟩ := Kd.R_elem HL249_0.out z28 (x60_2 : Int) p35 q35
                                  obtain rfl := k28_openM hM35
                                  have hx35_0 : wr.cell? ⟨go35, (x60_2 : Int).toNat * 2, none⟩ = some (.string ((rd_T28 (rd_L3 x7_2 x52_1) x60_2).f0)) := hcc35 0 _ rfl
                                  have hx35_1 : wr.cell? ⟨go35, (x60_2 : Int).toNat * 2 + 1, none⟩ = some (.int .i64 ((rd_T28 (rd_L3 x7_2 x52_1) x60_2).f1)) := hcc35 1 _ rfl
                                  have hf35_0 : wr.frozen? ⟨go35, (x60_2 : Int).toNat * 2, none⟩ = false := hfr35 0
                                  have hf35_1 : wr.frozen? ⟨go35, (x60_2 : Int).toNat * 2 + 1, none⟩ = false := hfr35 1
                                  clear hcl35 hcc35 hfr35 hM35
                                  replace p35 := eq_true p35
                                  replace q35 := eq_true q35
                                  have hq36 : (x52_1 : Int) < (x7_2.length : Int) := (by have h_ : (x52_1 : Int) < ((x7_2.length : Int) : Int) := of_decide_eq_true (by first | (with_reducible assumption) | assumption); first | exact h_ | (have e_ := (Kd.S_reads' HO_7.out).1; omega) | simpa only [List.length_set, List.length_set] using h_)
                                  obtain ⟨oki36, ce36, hcl36, hM36, hcc36, hok36, hbk36⟩ := Kd.S_borrow HO_7.out [] (x52_1 : Int) (of_decide_eq_true (by first | (with_reducible assumption) | assumption)) hq36
                                  obtain ⟨ve36_0, rfl, ge36_0⟩ := hM36
                                  have hv36 := hcc36 0 _ rfl
                                  rw [Nat.add_zero, show ((Kd.slice 28 k28)).sz = 1 from rfl, Nat.mul_one] at hv36
                                  replace hv36 := Option.some.inj (hv36.symm.trans HX249_0.out)
                                  subst hv36
                                  clear hcc36 hcl36
                                  replace ge36_0 := (show Kd.R k28 28 _ _ _ _ (rd_L3 x7_2 x52_1) from ge36_0)
                                  obtain ⟨cf36, hcl36, hN36, hcc36, hfr36⟩ := Kd.R_elem ge36_0 z28 (x60_2 : Int) (of_decide_eq_true (by first | (with_reducible assumption) | assumption)) (by have h_ : (x60_2 : Int) < (((rd_L3 x7_2 x52_1).length : Int) : Int) := of_decide_eq_true (by first | (with_reducible assumption) | assumption); first | exact h_ | (have e_ := (Kd.R_reads' HR249_0.out).1; omega) | simpa using h_)
                                  obtain rfl := k28_openM hN36
                                  have HP36 := Kd.R_seg ge36_0 (x60_2 : Int) (of_decide_eq_true (by first | (with_reducible assumption) | assumption)) (by have h_ : (x60_2 : Int) < (((rd_L3 x7_2 x52_1).length : Int) : Int) := of_decide_eq_true (by first | (with_reducible assumption) | assumption); first | exact h_ | (have e_ := (Kd.R_reads' HR249_0.out).1; omega) | simpa using h_) (seg := [.string (⟨#[120]⟩ : ByteArray)]) (j := 0) hcl36 hcc36 (show 1 ≤ 2 from by decide) (x' := (⟨(⟨#[120]⟩ : ByteArray), (rd_T28 (rd_L3 x7_2 x52_1) x60_2).f1⟩ : S28)) (k28_mkM _ _ _ (⟨(⟨#[120]⟩ : ByteArray), (rd_T28 (rd_L3 x7_2 x52_1) x60_2).f1⟩ : S28)) (fun _ hk => hk)
                                  clear hcl36 hcc36 hfr36 hN36
                                  go_wp2_with (first | ((with_reducible refine gate_store (t := 9) (p := 69) rfl ?_); refine store_event (t := 9) (p := 69) (v := ?vo_w37) (w1 := (wr.setCell ⟨go35, (x60_2 : Int).toNat * 2, none⟩ (.string (⟨#[120]⟩ : ByteArray)))) ?hg ?ho ?hn ?hr ?_; (case ho => rfl); (case hg => rfl); (case hn => rfl); (case hr => first | (go_simp; done) | (go_simp; rfl)); intro w37 hw; have hg : wr.grownBy w37 (some go35) := (by rw [hw]; exact HP36.2); have hz_ : Kd.R k28 28 w37 w.heap.size oki36 (.slice (some ⟨go35, 0, none⟩) (rd_L3 x7_2 x52_1).length c249_0) y250 := (by rw [hw, Ny250.out]; exact HP36.1); have hp_ : Kd.S (Kd.slice 28 k28) 23 w37 w.heap.size (fun k_ => some k_ ≠ (.slice Ao20 x5_2.length co20 : Value).ownBlock ∧ some k_ ≠ (.slice Ao24 t225.length co24 : Value).ownBlock ∧ some k_ ≠ (v242 : Value).ownBlock ∧ some k_ ≠ (v246 : Value).ownBlock ∧ w18.heap.size ≤ k_ ∧ k_ < w21.heap.size) (.slice (some ad248) x7_2.length co26) y252 := (by rw [Ny252.out]; exact hbk36 hg (fun k_ e_ => by injection e_ with e_; subst e_; exact ge36_0.1 _ rfl) (Kd.M_row hz_)); have hm_ := Kd.R_mono hz_ hok36; clear HP36 hbk36; have n0_ := Aside0.mk (Kd.R_grown1 (by (with_reducible repeat (first | apply Kd.R_alloc | apply Kd.R_drewN | apply Kd.R_drew)); exact HO_5.out) rfl hg ((HL249_0.out.1 _ rfl).1.1)); have n1_ := Aside0.mk (Kd.S_grown (by (with_reducible repeat (first | apply Kd.S_alloc | apply Kd.S_drewN | apply Kd.S_drew)); exact HO_6.out) hg (fun k_ hk_ e_ => by have e2_ : k_ = go35 := Option.some.inj e_; have h1_ : w18.heap.size ≤ go35 := (HL249_0.out.1 _ rfl).1.2.2.2.2.1; have h2_ : k_ < w18.heap.size := hk_.2.2.2.2; omega)); have n2_ := Aside0.mk (hp_); have n3_ := Aside0.mk (Kd.S_grown (by (with_reducible repeat (first | apply Kd.S_alloc | apply Kd.S_drewN | apply Kd.S_drew)); exact HO_9.out) hg (fun k_ hk_ e_ => by have e2_ : k_ = go35 := Option.some.inj e_; have h1_ : go35 < w21.heap.size := (HL249_0.out.1 _ rfl).1.2.2.2.2.2; have h2_ : w21.heap.size ≤ k_ := hk_.2.2.2.2; omega)); have n4_ := Aside0.mk (Kd.R_grown1 (by (with_reducible repeat (first | apply Kd.R_alloc | apply Kd.R_drewN | apply Kd.R_drew)); exact HO_11.out) rfl hg ((HL249_0.out.1 _ rfl).1.2.2.2.1)); have n5_ := Aside0.mk ((by rw [hw]; exact below_set (HB.out) GB35.out : Below w.heap.size w w37)); have n6_ := Aside0.mk (hm_); have n7_ := Aside0.mk ((Kd.R_reads' hm_).2.1); clear HO_5; clear HO_6; clear HO_7; clear HO_9; clear HO_11; clear HB; clear HL249_0; have HO_5 := n0_; have HO_6 := n1_; have HO_7 := n2_; have HO_9 := n3_; have HO_11 := n4_; have HB := n5_; have HL273 := n6_; have HC251 := n7_; clear n0_ n1_ n2_ n3_ n4_ n5_ n6_ n7_; clear hg hw hp_ hz_ hm_ hok36))
                                  (try simp only [← hl5_2, ← hl7_2])
                                  go_roundg k2
                                  case measure => have := HK1.out; have := HK2.out; omega
                                  case rel => exact ⟨(x5_2), (y252), (x11_2), (wrap64 (x60_2 + 1)), (by first | rfl | (simp; done) | (simp [*]; done)), H', ⟨by have := HK1.out; have := HK2.out; omega⟩, ⟨by (try simp only [hl5_1]); (try simp only [hl7_1]); (try simp only [hl5_2]); (try simp only [hl7_2]); (with_reducible repeat (first | apply Kd.R_alloc | apply Kd.R_drewN | apply Kd.R_drew)); exact HO_5.out⟩, ⟨by (try simp only [hl5_1]); (try simp only [hl7_1]); (try simp only [hl5_2]); (try simp only [hl7_2]); (with_reducible repeat (first | apply Kd.S_alloc | apply Kd.S_drewN | apply Kd.S_drew)); exact HO_6.out⟩, ⟨by (try simp only [hl5_1]); (try simp only [hl7_1]); (try simp only [hl5_2]); (try simp only [hl7_2]); (with_reducible repeat (first | apply Kd.S_alloc | apply Kd.S_drewN | apply Kd.S_drew)); exact HO_7.out⟩, ⟨by (try simp only [hl5_1]); (try simp only [hl7_1]); (try simp only [hl5_2]); (try simp only [hl7_2]); (with_reducible repeat (first | apply Kd.S_alloc | apply Kd.S_drewN | apply Kd.S_drew)); exact HO_9.out⟩, ⟨by (try simp only [hl5_1]); (try simp only [hl7_1]); (try simp only [hl5_2]); (try simp only [hl7_2]); (with_reducible repeat (first | apply Kd.R_alloc | apply Kd.R_drewN | apply Kd.R_drew)); exact HO_11.out⟩, ⟨by repeat (first | (with_reducible first | exact HB.out | apply below_alloc | apply pw_below_drewN | apply below_drew1) | exact HB.out)⟩⟩
                                · rw [if_neg c34] at H
                                  exact absurd H (by simp)
                              · rw [if_neg c33] at H
                                exact absurd H (by simp)
                            · rw [if_neg c32] at H
                              exact absurd H (by simp)
                          · rw [if_neg c31] at H
                            exact absurd H (by simp)
                        · rw [if_neg c30] at H
                          have c30b0 : decide (x60_2 < ((rd_L3 x7_1 x52_1).length : Int)) = false := decide_eq_false c30
                          clear c30
                          have H' := Aside0.mk H
                          clear H
                          go_wp2
                          (try simp only [← hl5_1, ← hl7_1, ← hl5_2, ← hl7_2])
                          go_roundg k2
                          case measure => have := HK1.out; have := HK2.out; omega
                          case rel => exact ⟨(x5_2), (x7_2), (x11_2), (wrap64 (x52_1 + 1)), (by first | rfl | (simp; done) | (simp [*]; done)), H', ⟨by have := HK1.out; have := HK2.out; omega⟩, ⟨by (try simp only [hl5_1]); (try simp only [hl7_1]); (try simp only [hl5_2]); (try simp only [hl7_2]); (with_reducible repeat (first | apply Kd.R_alloc | apply Kd.R_drewN | apply Kd.R_drew)); exact HO_5.out⟩, ⟨by (try simp only [hl5_1]); (try simp only [hl7_1]); (try simp only [hl5_2]); (try simp only [hl7_2]); (with_reducible repeat (first | apply Kd.S_alloc | apply Kd.S_drewN | apply Kd.S_drew)); exact HO_6.out⟩, ⟨by (try simp only [hl5_1]); (try simp only [hl7_1]); (try simp only [hl5_2]); (try simp only [hl7_2]); (with_reducible repeat (first | apply Kd.S_alloc | apply Kd.S_drewN | apply Kd.S_drew)); exact HO_7.out⟩, ⟨by (try simp only [hl5_1]); (try simp only [hl7_1]); (try simp only [hl5_2]); (try simp only [hl7_2]); (with_reducible repeat (first | apply Kd.S_alloc | apply Kd.S_drewN | apply Kd.S_drew)); exact HO_9.out⟩, ⟨by (try simp only [hl5_1]); (try simp only [hl7_1]); (try simp only [hl5_2]); (try simp only [hl7_2]); (with_reducible repeat (first | apply Kd.R_alloc | apply Kd.R_drewN | apply Kd.R_drew)); exact HO_11.out⟩, ⟨by repeat (first | (with_reducible first | exact HB.out | apply below_alloc | apply pw_below_drewN | apply below_drew1) | exact HB.out)⟩⟩
                  · rw [if_neg c29] at H
                    exact absurd H (by simp)
                · rw [if_neg c28] at H
                  exact absurd H (by simp)
              · rw [if_neg c27] at H
                have c27b0 : decide (x52_1 < (t232.length : Int)) = false := decide_eq_false c27
                have c27b1 : decide (x52_1 < (x7_1.length : Int)) = false := (by rw [← hl7_1]; exact c27b0)
                clear c27
                have H' := Aside0.mk H
                clear H
                obtain ⟨Ao38, co38, eo38⟩ := Kd.R_slice HO_11.out
                subst eo38
                go_wp2
                go_loopg [74] k1 (fun kq v74 w' => ∃ (x11_2 : List (S28)) (x74_2 : Int), v74 = .int .i64 x74_2 ∧ Aside0 (aumbrylaw04_TermOwn.l2 kq l0 l1 x5_1 t225 t240 x11_2 (x11_1.length : Int) x74_2 = some r) ∧ Aside0 (kq ≤ k1) ∧ Aside0 (Kd.R k28 28 w' w.heap.size (fun k_ => some k_ ≠ ((.slice Ao38 x11_1.length co38) : Value).ownBlock) (.slice Ao20 x5_1.length co20) x5_1) ∧ Aside0 (Kd.S (Kd.slice 28 k28) 23 w' w.heap.size (fun k_ => some k_ ≠ ((.slice Ao20 x5_1.length co20) : Value).ownBlock ∧ some k_ ≠ (v242 : Value).ownBlock ∧ some k_ ≠ ((.slice Ao38 x11_1.length co38) : Value).ownBlock) (.slice Ao24 t225.length co24) t225) ∧ Aside0 (Kd.S (Kd.slice 28 k28) 23 w' w.heap.size (fun k_ => some k_ ≠ ((.slice Ao20 x5_1.length co20) : Value).ownBlock ∧ some k_ ≠ ((.slice Ao24 t225.length co24) : Value).ownBlock ∧ some k_ ≠ ((.slice Ao38 x11_1.length co38) : Value).ownBlock) v242 t240) ∧ Aside0 (Kd.R k28 28 w' w.heap.size (fun k_ => some k_ ≠ ((.slice Ao20 x5_1.length co20) : Value).ownBlock) (.slice Ao38 x11_1.length co38) x11_2) ∧ Aside0 (Below w.heap.size w w'))
                case atStart => exact ⟨(x11_1), (0), (by first | rfl | (simp; done) | (simp [*]; done)), H', ⟨Nat.le_refl _⟩, ⟨by (try simp only [hl5_1]); (try simp only [hl7_1]); (with_reducible repeat (first | apply Kd.R_alloc | apply Kd.R_drewN | apply Kd.R_drew)); exact HO_5.out⟩, ⟨by (try simp only [hl5_1]); (try simp only [hl7_1]); (with_reducible repeat (first | apply Kd.S_alloc | apply Kd.S_drewN | apply Kd.S_drew)); exact Kd.S_mono HO_6.out (fun _ hk => ⟨hk.1, ⟨hk.2.2.1, hk.2.2.2.1⟩⟩)⟩, ⟨by (try simp only [hl5_1]); (try simp only [hl7_1]); (with_reducible repeat (first | apply Kd.S_alloc | apply Kd.S_drewN | apply Kd.S_drew)); exact Kd.S_mono HO_9.out (fun _ hk => ⟨hk.1, ⟨hk.2.1, hk.2.2.2.1⟩⟩)⟩, ⟨by (try simp only [hl5_1]); (try simp only [hl7_1]); (with_reducible repeat (first | apply Kd.R_alloc | apply Kd.R_drewN | apply Kd.R_drew)); exact HO_11.out⟩, ⟨by repeat (first | (with_reducible first | exact HB.out | apply below_alloc | apply pw_below_drewN | apply below_drew1) | exact HB.out)⟩⟩
                case round =>
                  clear H'
                  try clear c1
                  try clear q1
                  try clear c2
                  try clear p2
                  try clear q2
                  try clear hx2
                  try clear c3
                  try clear p3
                  try clear q3
                  try clear hx3
                  try clear hf3
                  try clear c4
                  try clear c6
                  try clear p6
                  try clear c7
                  try clear c8
                  try clear c8b0
                  try clear c8b1
                  try clear c9
                  try clear c9b0
                  try clear c9b1
                  try clear c11
                  try clear c11b0
                  try clear c12
                  try clear c12b0
                  try clear c16
                  try clear q19
                  try clear c20
                  try clear c21
                  try clear c22
                  try clear q22
                  try clear c24
                  try clear p24
                  try clear q24
                  try clear hx24
                  try clear c27
                  try clear c27b0
                  try clear c28
                  try clear c28b0
                  try clear c29
                  try clear c29b0
                  try clear c30
                  try clear c30b0
                  try clear c31
                  try clear c31b0
                  try clear c32
                  try clear c32b0
                  try clear c33
                  try clear c33b0
                  try clear c34
                  try clear c34b0
                  try clear c35
                  try clear p35
                  try clear q35
                  try clear hx35
                  try clear hf35
                  try clear c36
                  try clear q36
                  try clear hx248_0
                  try clear hx249_0
                  try clear hx35_0
                  try clear hx35_1
                  try clear p2
                  try clear p24
                  try clear p248
                  try clear p249
                  try clear p35
                  try clear q1
                  try clear q19
                  try clear q2
                  try clear q22
                  try clear q24
                  try clear q248
                  try clear q249
                  try clear q35
                  obtain ⟨x11_2, x74_2, rfl, HA, HK2, HO_5, HO_6, HO_9, HO_11, HB⟩ := hrel
                  have hl11_2 := (Kd.R_reads' HO_11.out).1
                  rw [hl11_2] at HO_11
                  (try simp only [hl11_2])
                  (try simp only [hl11_2] at HO_5)
                  (try simp only [hl11_2] at HO_6)
                  (try simp only [hl11_2] at HO_9)
                  cases gk with
                  | zero => exact absurd HA.out (by simp [aumbrylaw04_TermOwn.l2])
                  | succ k2 =>
                    have H := HA.out
                    clear HA
                    simp only [aumbrylaw04_TermOwn.l2] at H
                    by_cases c39 : x74_2 < (x11_1.length : Int)
                    · rw [if_pos c39] at H
                      have c39b0 : decide (x74_2 < (x11_1.length : Int)) = true := decide_eq_true c39
                      clear c39
                      by_cases c40 : 0 ≤ x74_2
                      · rw [if_pos c40] at H
                        have c40b0 : decide (0 ≤ x74_2) = true := decide_eq_true c40
                        clear c40
                        by_cases c41 : x74_2 < (x11_2.length : Int)
                        · rw [if_pos c41] at H
                          have c41b0 : decide (x74_2 < (x11_2.length : Int)) = true := decide_eq_true c41
                          clear c41
                          obtain ⟨y253, hy253⟩ : ∃ y_ : List (S28), y_ = (x11_2.set (x74_2 : Int).toNat (⟨(⟨#[120]⟩ : ByteArray), (rd_T28 x11_2 x74_2).f1⟩ : S28)) := ⟨_, rfl⟩
                          replace H : (aumbrylaw04_TermOwn.l2 k2 l0 l1 x5_1 t225 t240 y253 (x11_1.length : Int) (wrap64 (x74_2 + 1))) = some r := by first | (rw [hy253]; with_reducible exact H) | (have H2_ := (Option.bind_some _ _).symm.trans H; rw [hy253]; with_reducible exact H2_) | (have H2_ := (Option.bind_some _ _).symm.trans H; with_reducible exact H2_) | with_reducible exact H | (rw [hy253]; exact H) | exact H
                          have Ny253 := Aside0.mk hy253
                          clear hy253
                          have H' := Aside0.mk H
                          clear H
                          have p42 : 0 ≤ (x74_2 : Int) := of_decide_eq_true (by first | (with_reducible assumption) | assumption)
                          have q42 : (x74_2 : Int) < ((x11_2.length : Int) : Int) := of_decide_eq_true (by first | (with_reducible assumption) | assumption)
                          obtain ⟨go42, co42, eo42, gb42, gl42, cl42, HG42⟩ := Kd.R_form HO_11.out (by omega)
                          (first | cases eo42 | (injection eo42 with ea_ en_ ec_; (first | subst ea_ | (injection ea_ with ea_; subst ea_)); subst ec_; clear en_))
                          have GB42 := Aside0.mk gb42
                          have GG42 := Aside0.mk HG42
                          clear gb42 gl42 HG42
                          obtain ⟨ce42, hcl42, hM42, hcc42, hfr42⟩ := Kd.R_elem HO_11.out z28 (x74_2 : Int) p42 q42
                          obtain rfl := k28_openM hM42
                          have hx42_0 : wr.cell? ⟨go42, (x74_2 : Int).toNat * 2, none⟩ = some (.string ((rd_T28 x11_2 x74_2).f0)) := hcc42 0 _ rfl
                          have hx42_1 : wr.cell? ⟨go42, (x74_2 : Int).toNat * 2 + 1, none⟩ = some (.int .i64 ((rd_T28 x11_2 x74_2).f1)) := hcc42 1 _ rfl
                          have hf42_0 : wr.frozen? ⟨go42, (x74_2 : Int).toNat * 2, none⟩ = false := hfr42 0
                          have hf42_1 : wr.frozen? ⟨go42, (x74_2 : Int).toNat * 2 + 1, none⟩ = false := hfr42 1
                          clear hcl42 hcc42 hfr42 hM42
                          replace p42 := eq_true p42
                          replace q42 := eq_true q42
                          have HX43 := Aside0.mk (show Kd.R k28 28 wr w.heap.size (fun k_ => some k_ ≠ (.slice Ao20 x5_1.length co20 : Value).ownBlock) (.slice (some ⟨go42, 0, none⟩) x11_2.length co38) x11_2 from (by (with_reducible repeat (first | apply Kd.R_alloc | apply Kd.R_drewN | apply Kd.R_drew)); exact HO_11.out))
                          obtain ⟨ce43, hcl43, hM43, hcc43, hfr43⟩ := Kd.R_elem HX43.out z28 (x74_2 : Int) (of_decide_eq_true (by first | (with_reducible assumption) | assumption)) (by have h_ : (x74_2 : Int) < ((x11_2.length : Int) : Int) := of_decide_eq_true (by first | (with_reducible assumption) | assumption); first | exact h_ | (have e_ := (Kd.R_reads' HO_11.out).1; omega) | simpa using h_)
                          obtain rfl := k28_openM hM43
                          have HP43 := Kd.R_seg HX43.out (x74_2 : Int) (of_decide_eq_true (by first | (with_reducible assumption) | assumption)) (by have h_ : (x74_2 : Int) < ((x11_2.length : Int) : Int) := of_decide_eq_true (by first | (with_reducible assumption) | assumption); first | exact h_ | (have e_ := (Kd.R_reads' HO_11.out).1; omega) | simpa using h_) (seg := [.string (⟨#[120]⟩ : ByteArray)]) (j := 0) hcl43 hcc43 (show 1 ≤ 2 from by decide) (x' := (⟨(⟨#[120]⟩ : ByteArray), (rd_T28 x11_2 x74_2).f1⟩ : S28)) (k28_mkM _ _ _ (⟨(⟨#[120]⟩ : ByteArray), (rd_T28 x11_2 x74_2).f1⟩ : S28) ) (fun _ hk => hk)
                          have hx43_0 := hcc43 0 _ rfl
                          (try simp only [show (k28).sz = 2 from rfl, Nat.mul_one, Nat.add_zero] at hx43_0)
                          have hf43_0 := hfr43 0
                          (try simp only [show (k28).sz = 2 from rfl, Nat.mul_one, Nat.add_zero] at hf43_0)
                          clear hcl43 hcc43 hfr43 hM43
                          go_wp2_with (first | ((with_reducible refine gate_store (t := 9) (p := 80) rfl ?_); refine store_event (t := 9) (p := 80) (v := ?vo_w44) (w1 := (wr.setCell ⟨go42, (x74_2 : Int).toNat * 2, none⟩ (.string (⟨#[120]⟩ : ByteArray)))) ?hg ?ho ?hn ?hr ?_; (case ho => rfl); (case hg => rfl); (case hn => rfl); (case hr => first | (go_simp; done) | (go_simp; rfl)); intro w44 hw; have hg : wr.grownBy w44 (some go42) := (by rw [hw]; exact HP43.2); have hp_ : Kd.R k28 28 w44 w.heap.size (fun k_ => some k_ ≠ (.slice Ao20 x5_1.length co20 : Value).ownBlock) (.slice (some ⟨go42, 0, none⟩) x11_2.length co38) y253 := (by rw [hw, Ny253.out]; exact HP43.1); clear HP43; have n0_ := Aside0.mk (Kd.R_after (v := (.slice (some ⟨go42, 0, none⟩) x11_2.length co38)) (v1 := (.slice (some ⟨go42, 0, none⟩) x11_2.length co38)) (ok := (fun _ => True)) (by (with_reducible repeat (first | apply Kd.R_alloc | apply Kd.R_drewN | apply Kd.R_drew)); exact Kd.R_mono HO_5.out (fun _ hk => ⟨trivial, hk⟩)) hg (.inl rfl)); have n1_ := Aside0.mk (Kd.S_after (v := (.slice (some ⟨go42, 0, none⟩) x11_2.length co38)) (v1 := (.slice (some ⟨go42, 0, none⟩) x11_2.length co38)) (ok := (fun k_ => some k_ ≠ (.slice Ao20 x5_1.length co20 : Value).ownBlock ∧ some k_ ≠ (v242 : Value).ownBlock)) (by (with_reducible repeat (first | apply Kd.S_alloc | apply Kd.S_drewN | apply Kd.S_drew)); exact Kd.S_mono HO_6.out (fun _ hk => ⟨⟨hk.1, hk.2.1⟩, hk.2.2⟩)) hg (.inl rfl)); have n2_ := Aside0.mk (Kd.S_after (v := (.slice (some ⟨go42, 0, none⟩) x11_2.length co38)) (v1 := (.slice (some ⟨go42, 0, none⟩) x11_2.length co38)) (ok := (fun k_ => some k_ ≠ (.slice Ao20 x5_1.length co20 : Value).ownBlock ∧ some k_ ≠ (.slice Ao24 t225.length co24 : Value).ownBlock)) (by (with_reducible repeat (first | apply Kd.S_alloc | apply Kd.S_drewN | apply Kd.S_drew)); exact Kd.S_mono HO_9.out (fun _ hk => ⟨⟨hk.1, hk.2.1⟩, hk.2.2⟩)) hg (.inl rfl)); have n3_ := Aside0.mk (hp_); have n4_ := Aside0.mk ((by rw [hw]; exact below_set (HB.out) GB42.out : Below w.heap.size w w44)); clear HO_5; clear HO_6; clear HO_9; clear HO_11; clear HB; have HO_5 := n0_; have HO_6 := n1_; have HO_9 := n2_; have HO_11 := n3_; have HB := n4_; clear n0_ n1_ n2_ n3_ n4_; clear hg hw hp_))
                          (try simp only [← hl11_2])
                          go_roundg k2
                          case measure => have := HK1.out; have := HK2.out; omega
                          case rel => exact ⟨(y253), (wrap64 (x74_2 + 1)), (by first | rfl | (simp; done) | (simp [*]; done)), H', ⟨by have := HK1.out; have := HK2.out; omega⟩, ⟨by (try simp only [hl5_1]); (try simp only [hl7_1]); (try simp only [hl11_2]); (with_reducible repeat (first | apply Kd.R_alloc | apply Kd.R_drewN | apply Kd.R_drew)); exact Kd.R_mono HO_5.out (fun _ hk => hk.2)⟩, ⟨by (try simp only [hl5_1]); (try simp only [hl7_1]); (try simp only [hl11_2]); (with_reducible repeat (first | apply Kd.S_alloc | apply Kd.S_drewN | apply Kd.S_drew)); exact Kd.S_mono HO_6.out (fun _ hk => ⟨hk.1.1, ⟨hk.1.2, hk.2⟩⟩)⟩, ⟨by (try simp only [hl5_1]); (try simp only [hl7_1]); (try simp only [hl11_2]); (with_reducible repeat (first | apply Kd.S_alloc | apply Kd.S_drewN | apply Kd.S_drew)); exact Kd.S_mono HO_9.out (fun _ hk => ⟨hk.1.1, ⟨hk.1.2, hk.2⟩⟩)⟩, ⟨by (try simp only [hl5_1]); (try simp only [hl7_1]); (try simp only [hl11_2]); (with_reducible repeat (first | apply Kd.R_alloc | apply Kd.R_drewN | apply Kd.R_drew)); exact HO_11.out⟩, ⟨by repeat (first | (with_reducible first | exact HB.out | apply below_alloc | apply pw_below_drewN | apply below_drew1) | exact HB.out)⟩⟩
                        · rw [if_neg c41] at H
                          exact absurd H (by simp)
                      · rw [if_neg c40] at H
                        exact absurd H (by simp)
                    · rw [if_neg c39] at H
                      have c39b0 : decide (x74_2 < (x11_1.length : Int)) = false := decide_eq_false c39
                      have c39b1 : decide (x74_2 < (x11_2.length : Int)) = false := (by rw [← hl11_2]; exact c39b0)
                      clear c39
                      replace H := Option.bind_eq_some_iff.mp H
                      obtain ⟨⟨t254, t255⟩, A450, H⟩ := H
                      replace H : (if t255 = 0 then ((aumbryref04_Kids.f k2 l0).bind fun t256 => ((aumbryref04_SameAll.f k2 t240 t256).bind fun t259 => (aumbrylaw04_TermOwn.j3 k2 l0 l1 x5_1 t225 t254 (!t259)))) else (aumbrylaw04_TermOwn.j3 k2 l0 l1 x5_1 t225 t254 false)) = some r := H
                      have A45 := Aside0.mk A450
                      clear A450
                      have HC46 := Aside0.mk H
                      clear H
                      go_upto_region 23 with (first | ((with_reducible refine gate_callee (f := 25) rfl ?_); refine goesL_ (some 84) rfl rfl Try.func25 (by kernel_rfl) rfl #[.slice A0 l0.length c0] rfl (by (try simp only [List.map_toArray, List.map_cons, List.map_nil]); first | done | rfl | (simp only [List.length_drop, List.length_take]; rfl)) ?_; (with_reducible refine (aumbryref04_Print.calls k2 _ _ l0 t254 t255 _ ?side1 ?side2 A45.out).mono ?_); (case side1 => repeat (first | exact (Kd.C_below HR0.out HB.out) | (with_reducible refine Kd.C_alloc ?_ _) | (with_reducible refine Kd.C_drewN ?_ _) | (with_reducible refine Kd.C_drew ?_))); (case side2 => exact HC0.out); rintro e w47 ⟨rfl, hb⟩; refine ⟨_, rfl, ?_⟩; have n0_ := Aside0.mk (Kd.R_below (by (with_reducible repeat (first | apply Kd.R_alloc | apply Kd.R_drewN | apply Kd.R_drew)); exact HO_5.out) hb); have n1_ := Aside0.mk (Kd.S_below (by (with_reducible repeat (first | apply Kd.S_alloc | apply Kd.S_drewN | apply Kd.S_drew)); exact HO_6.out) hb); have n2_ := Aside0.mk (Kd.S_below (by (with_reducible repeat (first | apply Kd.S_alloc | apply Kd.S_drewN | apply Kd.S_drew)); exact HO_9.out) hb); have n3_ := Aside0.mk (Kd.R_below (by (with_reducible repeat (first | apply Kd.R_alloc | apply Kd.R_drewN | apply Kd.R_drew)); exact HO_11.out) hb); have n4_ := Aside0.mk (below_step (by repeat (first | (with_reducible first | exact HB.out | apply below_alloc | apply pw_below_drewN | apply below_drew1) | exact HB.out)) hb); clear HO_5; clear HO_6; clear HO_9; clear HO_11; clear HB; have HO_5 := n0_; have HO_6 := n1_; have HO_9 := n2_; have HO_11 := n3_; have HB := n4_; clear n0_ n1_ n2_ n3_ n4_; (try clear hb); (try clear hb2); (try clear hk); (try clear hi)))
                      (try simp only [Act.put, List.setIfInBounds_toArray, List.set_cons_zero, List.set_cons_succ])
                      go_cut [95] (fun v95 wc => ∃ (kq : Nat) (x95_45 : Bool), v95 = .bool x95_45 ∧ Aside0 (aumbrylaw04_TermOwn.j3 kq l0 l1 x5_1 t225 t254 x95_45 = some r) ∧ Aside0 (kq ≤ k2) ∧ Aside0 (Kd.R k28 28 wc w.heap.size (fun _ => True) (.slice Ao20 x5_1.length co20) x5_1) ∧ Aside0 (Kd.S (Kd.slice 28 k28) 23 wc w.heap.size (fun k_ => some k_ ≠ ((.slice Ao20 x5_1.length co20) : Value).ownBlock) (.slice Ao24 t225.length co24) t225) ∧ Aside0 (Below w.heap.size w wc))
                      case first =>
                        have H := HC46.out
                        clear HC46
                        by_cases c48 : t255 = 0
                        · rw [if_pos c48] at H
                          have c48b0 : (t255 == 0) = true := beq_iff_eq.mpr c48
                          have c48b1 : (t255 != 0) = false := bne_eq_false_iff_eq.mpr c48
                          clear c48
                          (first | rw [c48b0] | (simp only [i64_w, i32_w]; rw [c48b0]) | skip)
                          replace H := Option.bind_eq_some_iff.mp H
                          obtain ⟨t256, A490, H⟩ := H
                          replace H : ((aumbryref04_SameAll.f k2 t240 t256).bind fun t259 => (aumbrylaw04_TermOwn.j3 k2 l0 l1 x5_1 t225 t254 (!t259))) = some r := H
                          have A49 := Aside0.mk A490
                          clear A490
                          replace H := Option.bind_eq_some_iff.mp H
                          obtain ⟨t259, A500, H⟩ := H
                          replace H : (aumbrylaw04_TermOwn.j3 k2 l0 l1 x5_1 t225 t254 (!t259)) = some r := H
                          have A50 := Aside0.mk A500
                          clear A500
                          have H' := Aside0.mk H
                          clear H
                          go_wp2_with (first | (go_at_call 27; (with_reducible refine (aumbryref04_Kids.calls k2 _ _ l0 t256 _ ?side1 ?side2 A49.out).mono ?_); (case side1 => repeat (first | exact (Kd.C_below HR0.out HB.out) | (with_reducible refine Kd.C_alloc ?_ _) | (with_reducible refine Kd.C_drewN ?_ _) | (with_reducible refine Kd.C_drew ?_))); (case side2 => exact HC0.out); rintro e w51 ⟨v257, rfl, ho0, hb⟩; have n0_ := Aside0.mk (Kd.R_below (by (with_reducible repeat (first | apply Kd.R_alloc | apply Kd.R_drewN | apply Kd.R_drew)); exact HO_5.out) hb); have n1_ := Aside0.mk (Kd.S_elder' (by (with_reducible repeat (first | apply Kd.S_alloc | apply Kd.S_drewN | apply Kd.S_drew)); exact HO_6.out) (Kd.S_base ho0) hb); have n2_ := Aside0.mk (Kd.S_elder' (by (with_reducible repeat (first | apply Kd.S_alloc | apply Kd.S_drewN | apply Kd.S_drew)); exact HO_9.out) (Kd.S_base ho0) hb); have n3_ := Aside0.mk (Kd.R_below (by (with_reducible repeat (first | apply Kd.R_alloc | apply Kd.R_drewN | apply Kd.R_drew)); exact HO_11.out) hb); have n4_ := Aside0.mk (Kd.S_lower (Kd.S_new' (Kd.S_new' (Kd.S_new' (Kd.S_new' ho0 (Kd.R_lt (by (with_reducible repeat (first | apply Kd.R_alloc | apply Kd.R_drewN | apply Kd.R_drew)); exact HO_5.out))) (Kd.S_lt (by (with_reducible repeat (first | apply Kd.S_alloc | apply Kd.S_drewN | apply Kd.S_drew)); exact HO_6.out))) (Kd.S_lt (by (with_reducible repeat (first | apply Kd.S_alloc | apply Kd.S_drewN | apply Kd.S_drew)); exact HO_9.out))) (Kd.R_lt (by (with_reducible repeat (first | apply Kd.R_alloc | apply Kd.R_drewN | apply Kd.R_drew)); exact HO_11.out))) (below_size (by repeat (first | (with_reducible first | exact HB.out | apply below_alloc | apply pw_below_drewN | apply below_drew1) | exact HB.out)))); have n5_ := Aside0.mk (below_step (by repeat (first | (with_reducible first | exact HB.out | apply below_alloc | apply pw_below_drewN | apply below_drew1) | exact HB.out)) hb); clear HO_5; clear HO_6; clear HO_9; clear HO_11; clear HB; have HO_5 := n0_; have HO_6 := n1_; have HO_9 := n2_; have HO_11 := n3_; have HO258 := n4_; have HB := n5_; clear n0_ n1_ n2_ n3_ n4_ n5_; (try clear hb); (try clear hb2); (try clear hk); (try clear hi); (try clear ho0); obtain ⟨Ao52, co52, eo52⟩ := Kd.S_slice HO_9.out; subst eo52; obtain ⟨Ao53, co53, eo53⟩ := Kd.S_slice HO258.out; subst eo53) | (go_at_call 26; (with_reducible refine (aumbryref04_SameAll.calls k2 _ _ t240 _ _ t256 t259 _ ?side1 ?side2 ?side3 ?side4 A50.out).mono ?_); (case side1 => repeat (first | exact (Kd.S_reads' HO_9.out).2.2 | (with_reducible refine Kd.C_alloc ?_ _) | (with_reducible refine Kd.C_drewN ?_ _) | (with_reducible refine Kd.C_drew ?_))); (case side2 => exact (Kd.S_reads' HO_9.out).2.1); (case side3 => repeat (first | exact (Kd.S_reads' HO258.out).2.2 | (with_reducible refine Kd.C_alloc ?_ _) | (with_reducible refine Kd.C_drewN ?_ _) | (with_reducible refine Kd.C_drew ?_))); (case side4 => exact (Kd.S_reads' HO258.out).2.1); rintro e w' ⟨rfl, ⟨nd, rfl⟩⟩))
                          go_meet
                          case rel => exact ⟨_, (!t259), (by first | rfl | (simp; done) | (simp [*]; done)), H', ⟨by have := HK1.out; have := HK2.out; first | omega | exact Nat.le_refl _⟩, ⟨by (try simp only [hl5_1]); (try simp only [hl7_1]); (try simp only [hl11_2]); (with_reducible repeat (first | apply Kd.R_alloc | apply Kd.R_drewN | apply Kd.R_drew)); exact Kd.R_mono HO_5.out (fun _ hk => trivial)⟩, ⟨by (try simp only [hl5_1]); (try simp only [hl7_1]); (try simp only [hl11_2]); (with_reducible repeat (first | apply Kd.S_alloc | apply Kd.S_drewN | apply Kd.S_drew)); exact Kd.S_mono HO_6.out (fun _ hk => hk.1.1)⟩, ⟨by repeat (first | (with_reducible first | exact HB.out | apply below_alloc | apply pw_below_drewN | apply below_drew1) | exact HB.out)⟩⟩
                        · rw [if_neg c48] at H
                          have c48b0 : (t255 == 0) = false := beq_eq_false_iff_ne.mpr c48
                          have c48b1 : (t255 != 0) = true := bne_iff_ne.mpr c48
                          (first | rw [c48b0] | (simp only [i64_w, i32_w]; rw [c48b0]) | skip)
                          have H' := Aside0.mk H
                          clear H
                          go_wp2
                          go_meet
                          case rel => exact ⟨_, (false), (by first | rfl | (simp; done) | (simp [*]; done)), H', ⟨by have := HK1.out; have := HK2.out; first | omega | exact Nat.le_refl _⟩, ⟨by (try simp only [hl5_1]); (try simp only [hl7_1]); (try simp only [hl11_2]); (with_reducible repeat (first | apply Kd.R_alloc | apply Kd.R_drewN | apply Kd.R_drew)); exact Kd.R_mono HO_5.out (fun _ hk => trivial)⟩, ⟨by (try simp only [hl5_1]); (try simp only [hl7_1]); (try simp only [hl11_2]); (with_reducible repeat (first | apply Kd.S_alloc | apply Kd.S_drewN | apply Kd.S_drew)); exact Kd.S_mono HO_6.out (fun _ hk => hk.1)⟩, ⟨by repeat (first | (with_reducible first | exact HB.out | apply below_alloc | apply pw_below_drewN | apply below_drew1) | exact HB.out)⟩⟩
                      case rest =>
                        clear HC46
                        try clear c1
                        try clear q1
                        try clear c2
                        try clear p2
                        try clear q2
                        try clear hx2
                        try clear c3
                        try clear p3
                        try clear q3
                        try clear hx3
                        try clear hf3
                        try clear c4
                        try clear p4
                        try clear q4
                        try clear hx4
                        try clear hf4
                        try clear c6
                        try clear p6
                        try clear c7
                        try clear c8
                        try clear c8b0
                        try clear c8b1
                        try clear c9
                        try clear c9b0
                        try clear c9b1
                        try clear c11
                        try clear c11b0
                        try clear c12
                        try clear c12b0
                        try clear c16
                        try clear q19
                        try clear c20
                        try clear c21
                        try clear c22
                        try clear q22
                        try clear c24
                        try clear p24
                        try clear q24
                        try clear hx24
                        try clear c25
                        try clear c27
                        try clear c27b0
                        try clear c28
                        try clear c28b0
                        try clear c29
                        try clear c29b0
                        try clear c30
                        try clear c30b0
                        try clear c31
                        try clear c31b0
                        try clear c32
                        try clear c32b0
                        try clear c33
                        try clear c33b0
                        try clear c34
                        try clear c34b0
                        try clear c35
                        try clear p35
                        try clear q35
                        try clear hx35
                        try clear hf35
                        try clear c36
                        try clear q36
                        try clear c39
                        try clear c39b0
                        try clear c40
                        try clear c40b0
                        try clear c41
                        try clear c41b0
                        try clear c42
                        try clear p42
                        try clear q42
                        try clear hx42
                        try clear hf42
                        try clear c43
                        try clear hx43
                        try clear hf43
                        try clear c48
                        try clear c48b0
                        try clear c48b1
                        try clear hx248_0
                        try clear hx249_0
                        try clear hx35_0
                        try clear hx35_1
                        try clear hx42_0
                        try clear hx42_1
                        try clear hx43_0
                        try clear p2
                        try clear p24
                        try clear p248
                        try clear p249
                        try clear p3
                        try clear p35
                        try clear p42
                        try clear p6
                        try clear q1
                        try clear q19
                        try clear q2
                        try clear q22
                        try clear q24
                        try clear q248
                        try clear q249
                        try clear q3
                        try clear q35
                        try clear q36
                        try clear q42
                        obtain ⟨kq, x95_45, rfl, HA, HJ45, HO_5, HO_6, HB⟩ := hcut
                        cases kq with
                        | zero => exact absurd HA.out (by simp [aumbrylaw04_TermOwn.j3])
                        | succ kj45 =>
                          have H := HA.out
                          clear HA
                          simp only [aumbrylaw04_TermOwn.j3] at H
                          by_cases c54 : x95_45 = true
                          · subst c54
                            have H1 : (some false) = some r := by rw [if_pos rfl] at H; exact H
                            clear H
                            have H := H1
                            clear H1
                            obtain rfl := Option.some.inj H
                            go_wp2
                            go_ret
                            exact ⟨by first | rfl | (simp [errW_none, errW_some] <;> rfl) | (simp [*, errW_none, errW_some] <;> rfl), by repeat (first | (with_reducible first | exact HB.out | apply below_alloc | apply pw_below_drewN | apply below_drew1) | exact HB.out)⟩
                          · replace c54 := Bool.eq_false_iff.mpr c54
                            subst c54
                            have H1 : (if 0 ≤ (l0.length : Int) then (if (l0.length : Int) ≤ (x5_1.length : Int) then ((aumbryref04_Print.f kj45 (x5_1.take ((l0.length : Int) : Int).toNat)).bind fun bt264 => (if bt264.1.toList = t254.toList then (if (l0.length : Int) < (x5_1.length : Int) then (if ((rd_T28 x5_1 (l0.length : Int)).f0).toList = ([107, 101, 101, 112] : List UInt8) then ((aumbryref04_Same.f kj45 (x5_1.take ((l0.length : Int) : Int).toNat) l0).bind fun t271 => (if t271 = true then ((aumbryref04_SameAll.f kj45 t225 l1).bind fun t272 => (some t272)) else (some false))) else (some false)) else (none)) else (some false))) else (none)) else (none)) = some r := by rw [if_neg (show ¬ (false = true) by decide)] at H; exact H
                            clear H
                            have H := H1
                            clear H1
                            by_cases c55 : 0 ≤ (l0.length : Int)
                            · rw [if_pos c55] at H
                              have c55b0 := eq_true c55
                              have c55b1 : decide (0 ≤ (l0.length : Int)) = true := decide_eq_true c55
                              clear c55
                              by_cases c56 : (l0.length : Int) ≤ (x5_1.length : Int)
                              · rw [if_pos c56] at H
                                have c56b0 := eq_true c56
                                have c56b1 : decide ((l0.length : Int) ≤ (x5_1.length : Int)) = true := decide_eq_true c56
                                clear c56
                                obtain ⟨y260, hy260⟩ : ∃ y_ : List (S28), y_ = (x5_1.take ((l0.length : Int) : Int).toNat) := ⟨_, rfl⟩
                                replace H : ((aumbryref04_Print.f kj45 y260).bind fun bt264 => (if bt264.1.toList = t254.toList then (if (l0.length : Int) < (x5_1.length : Int) then (if ((rd_T28 x5_1 (l0.length : Int)).f0).toList = ([107, 101, 101, 112] : List UInt8) then ((aumbryref04_Same.f kj45 (x5_1.take ((l0.length : Int) : Int).toNat) l0).bind fun t271 => (if t271 = true then ((aumbryref04_SameAll.f kj45 t225 l1).bind fun t272 => (some t272)) else (some false))) else (some false)) else (none)) else (some false))) = some r := by first | (rw [hy260]; with_reducible exact H) | (have H2_ := (Option.bind_some _ _).symm.trans H; rw [hy260]; with_reducible exact H2_) | (have H2_ := (Option.bind_some _ _).symm.trans H; with_reducible exact H2_) | with_reducible exact H | (rw [hy260]; exact H) | exact H
                                have Ny260 := Aside0.mk hy260
                                clear hy260
                                replace H := Option.bind_eq_some_iff.mp H
                                obtain ⟨⟨t264, t265⟩, A570, H⟩ := H
                                replace H : (if t264.toList = t254.toList then (if (l0.length : Int) < (x5_1.length : Int) then (if ((rd_T28 x5_1 (l0.length : Int)).f0).toList = ([107, 101, 101, 112] : List UInt8) then ((aumbryref04_Same.f kj45 (x5_1.take ((l0.length : Int) : Int).toNat) l0).bind fun t271 => (if t271 = true then ((aumbryref04_SameAll.f kj45 t225 l1).bind fun t272 => (some t272)) else (some false))) else (some false)) else (none)) else (some false)) = some r := H
                                have A57 := Aside0.mk A570
                                clear A570
                                by_cases c58 : t264.toList = t254.toList
                                · rw [if_pos c58] at H
                                  have c58b0 : (t264.toList == t254.toList) = true := beq_iff_eq.mpr c58
                                  have c58b1 : (t264.toList != t254.toList) = false := bne_eq_false_iff_eq.mpr c58
                                  clear c58
                                  by_cases c59 : (l0.length : Int) < (x5_1.length : Int)
                                  · rw [if_pos c59] at H
                                    have c59b0 : decide ((l0.length : Int) < (x5_1.length : Int)) = true := decide_eq_true c59
                                    have c59b1 : decide (l0.length < x5_1.length) = true := decide_eq_true (Int.ofNat_lt.mp c59)
                                    clear c59
                                    by_cases c60 : ((rd_T28 x5_1 (l0.length : Int)).f0).toList = ([107, 101, 101, 112] : List UInt8)
                                    · rw [if_pos c60] at H
                                      have c60b0 : (((rd_T28 x5_1 (l0.length : Int)).f0).toList == ([107, 101, 101, 112] : List UInt8)) = true := beq_iff_eq.mpr c60
                                      have c60b1 : (((rd_T28 x5_1 (l0.length : Int)).f0).toList != ([107, 101, 101, 112] : List UInt8)) = false := bne_eq_false_iff_eq.mpr c60
                                      clear c60
                                      have c61b0 := eq_true (of_decide_eq_true (by first | (with_reducible assumption) | assumption) : 0 ≤ (l0.length : Int))
                                      have c62b0 := eq_true (of_decide_eq_true (by first | (with_reducible assumption) | assumption) : (l0.length : Int) ≤ (x5_1.length : Int))
                                      obtain ⟨y267, hy267⟩ : ∃ y_ : List (S28), y_ = (x5_1.take ((l0.length : Int) : Int).toNat) := ⟨_, rfl⟩
                                      replace H : ((aumbryref04_Same.f kj45 y267 l0).bind fun t271 => (if t271 = true then ((aumbryref04_SameAll.f kj45 t225 l1).bind fun t272 => (some t272)) else (some false))) = some r := by first | (rw [hy267]; with_reducible exact H) | (have H2_ := (Option.bind_some _ _).symm.trans H; rw [hy267]; with_reducible exact H2_) | (have H2_ := (Option.bind_some _ _).symm.trans H; with_reducible exact H2_) | with_reducible exact H | (rw [hy267]; exact H) | exact H
                                      have Ny267 := Aside0.mk hy267
                                      clear hy267
                                      replace H := Option.bind_eq_some_iff.mp H
                                      obtain ⟨t271, A630, H⟩ := H
                                      replace H : (if t271 = true then ((aumbryref04_SameAll.f kj45 t225 l1).bind fun t272 => (some t272)) else (some false)) = some r := H
                                      have A63 := Aside0.mk A630
                                      clear A630
                                      by_cases c64 : t271 = true
                                      · subst c64
                                        have H1 : ((aumbryref04_SameAll.f kj45 t225 l1).bind fun t272 => (some t272)) = some r := by rw [if_pos rfl] at H; exact H
                                        clear H
                                        have H := H1
                                        clear H1
                                        replace H := Option.bind_eq_some_iff.mp H
                                        obtain ⟨t272, A650, H⟩ := H
                                        replace H : (some t272) = some r := H
                                        have A65 := Aside0.mk A650
                                        clear A650
                                        obtain rfl := Option.some.inj H
                                        have q66 : ((l0.length : Int) : Int) ≤ ((x5_1.length : Int) : Int) := of_decide_eq_true (by first | (with_reducible assumption) | assumption)
                                        obtain ⟨i066, hi066, _, hsz66, _⟩ := info_parts info28
                                        have hroom66 : x5_1.length ≤ co20 := (Kd.R_reads' HO_5.out).2.1
                                        have hC66 : Kd.C k28 _ Ao20 x5_1.length x5_1 := (Kd.R_reads' HO_5.out).2.2
                                        have hcut66 := cut_to (P := Try.prog) 23 28 .i64 Try.underlying23 hi066 Ao20 x5_1.length co20 (l0.length : Int) (of_decide_eq_true (by first | (with_reducible assumption) | assumption)) q66 hroom66
                                        have hr66 := Kd.C_take (m := ((l0.length : Int) : Int).toNat) hC66 (by omega)
                                        have hy66 : y260.length = ((l0.length : Int) : Int).toNat := (by rw [Ny260.out, List.length_take]; omega)
                                        rw [← Ny260.out] at hr66
                                        rw [← hy66] at hcut66
                                        have HR263 := Aside0.mk hr66
                                        have HC263 := Aside0.mk (show y260.length ≤ co20 from by omega)
                                        clear hr66 hC66 hroom66 hi066 hsz66
                                        have KY66 := Aside0.mk hy66
                                        clear hy66
                                        have KL66 := Aside0.mk (show ((l0.length : Int) : Int).toNat ≤ x5_1.length from by omega)
                                        replace q66 := eq_true q66
                                        go_wp2_with (first | ((with_reducible refine gate_callee (f := 25) rfl ?_); refine goesL_ (some 101) rfl rfl Try.func25 (by kernel_rfl) rfl #[.slice Ao20 y260.length co20] rfl (by (try simp only [List.map_toArray, List.map_cons, List.map_nil]); first | done | rfl | (simp only [List.length_drop, List.length_take]; rfl)) ?_; (with_reducible refine (aumbryref04_Print.calls kj45 _ _ y260 t264 t265 _ ?side1 ?side2 A57.out).mono ?_); (case side1 => repeat (first | exact (by repeat (first | (with_reducible exact HR263.out) | (with_reducible refine Kd.C_alloc ?_ _) | (with_reducible refine Kd.C_drewN ?_ _) | (with_reducible refine Kd.C_drew ?_) | exact HR263.out)) | (with_reducible refine Kd.C_alloc ?_ _) | (with_reducible refine Kd.C_drewN ?_ _) | (with_reducible refine Kd.C_drew ?_))); (case side2 => exact HC263.out); rintro e w67 ⟨rfl, hb⟩; refine ⟨_, rfl, ?_⟩; have n0_ := Aside0.mk (Kd.R_below (by (with_reducible repeat (first | apply Kd.R_alloc | apply Kd.R_drewN | apply Kd.R_drew)); exact HO_5.out) hb); have n1_ := Aside0.mk (Kd.S_below (by (with_reducible repeat (first | apply Kd.S_alloc | apply Kd.S_drewN | apply Kd.S_drew)); exact HO_6.out) hb); have n2_ := Aside0.mk (Kd.C_below (by repeat (first | (with_reducible exact HR263.out) | (with_reducible refine Kd.C_alloc ?_ _) | (with_reducible refine Kd.C_drewN ?_ _) | (with_reducible refine Kd.C_drew ?_) | exact HR263.out)) hb); have n3_ := Aside0.mk (below_step (by repeat (first | (with_reducible first | exact HB.out | apply below_alloc | apply pw_below_drewN | apply below_drew1) | exact HB.out)) hb); clear HO_5; clear HO_6; clear HR263; clear HB; have HO_5 := n0_; have HO_6 := n1_; have HR263 := n2_; have HB := n3_; clear n0_ n1_ n2_ n3_; (try clear hb); (try clear hb2); (try clear hk); (try clear hi); have p266 : 0 ≤ ((l0.length : Int) : Int) := of_decide_eq_true (by first | (with_reducible assumption) | assumption); have q266 : (l0.length : Int) < (x5_1.length : Int) := of_decide_eq_true (by first | (with_reducible assumption) | assumption); obtain ⟨ad266, e266, hx266_0, hx266_1⟩ := at_T28 (Kd.R_reads' HO_5.out).2.2 (l0.length : Int) p266 q266; cases e266; (try simp only [Go.IntWalk.toNatUp] at hx266_0); (try simp only [Go.IntWalk.toNatUp] at hx266_1); (try simp only [hl5_1, hl7_1, hl11_2] at p266); (try simp only [hl5_1, hl7_1, hl11_2] at q266); (try simp only [hl5_1, hl7_1, hl11_2] at hx266_0); (try simp only [hl5_1, hl7_1, hl11_2] at hx266_1); replace p266 := eq_true p266; replace q266 := eq_true q266; have q68 : ((l0.length : Int) : Int) ≤ ((x5_1.length : Int) : Int) := of_decide_eq_true (by first | (with_reducible assumption) | assumption); obtain ⟨i068, hi068, _, hsz68, _⟩ := info_parts info28; have hroom68 : x5_1.length ≤ co20 := (Kd.R_reads' HO_5.out).2.1; have hC68 : Kd.C k28 _ (some ad266) x5_1.length x5_1 := (Kd.R_reads' HO_5.out).2.2; have hcut68 := cut_to (P := Try.prog) 23 28 .i64 Try.underlying23 hi068 (some ad266) x5_1.length co20 (l0.length : Int) (of_decide_eq_true (by first | (with_reducible assumption) | assumption)) q68 hroom68; have hr68 := Kd.C_take (m := ((l0.length : Int) : Int).toNat) hC68 (by omega); have hy68 : y267.length = ((l0.length : Int) : Int).toNat := (by rw [Ny267.out, List.length_take]; omega); rw [← Ny267.out] at hr68; rw [← hy68] at hcut68; have HR270 := Aside0.mk hr68; have HC270 := Aside0.mk (show y267.length ≤ co20 from by omega); clear hr68 hC68 hroom68 hi068 hsz68; have KY68 := Aside0.mk hy68; clear hy68; have KL68 := Aside0.mk (show ((l0.length : Int) : Int).toNat ≤ x5_1.length from by omega); replace q68 := eq_true q68) | (go_at_call 14; (with_reducible refine (aumbryref04_Same.calls kj45 _ _ y260 _ _ l0 true _ ?side1 ?side2 ?side3 ?side4 (show aumbryref04_Same.f kj45 y260 l0 = some _ from by have h_ := A63.out; rw [Ny267.out] at h_; rw [Ny260.out]; exact h_)).mono ?_); (case side1 => repeat (first | exact (by repeat (first | (with_reducible exact HR263.out) | (with_reducible refine Kd.C_alloc ?_ _) | (with_reducible refine Kd.C_drewN ?_ _) | (with_reducible refine Kd.C_drew ?_) | exact HR263.out)) | (with_reducible refine Kd.C_alloc ?_ _) | (with_reducible refine Kd.C_drewN ?_ _) | (with_reducible refine Kd.C_drew ?_))); (case side2 => exact HC263.out); (case side3 => repeat (first | exact (Kd.C_below HR0.out HB.out) | (with_reducible refine Kd.C_alloc ?_ _) | (with_reducible refine Kd.C_drewN ?_ _) | (with_reducible refine Kd.C_drew ?_))); (case side4 => exact HC0.out); rintro e w' ⟨rfl, ⟨nd, rfl⟩⟩) | (go_at_call 26; (with_reducible refine (aumbryref04_SameAll.calls kj45 _ _ t225 _ _ l1 t272 _ ?side1 ?side2 ?side3 ?side4 A65.out).mono ?_); (case side1 => repeat (first | exact (Kd.S_reads' HO_6.out).2.2 | (with_reducible refine Kd.C_alloc ?_ _) | (with_reducible refine Kd.C_drewN ?_ _) | (with_reducible refine Kd.C_drew ?_))); (case side2 => exact (Kd.S_reads' HO_6.out).2.1); (case side3 => repeat (first | exact (Kd.C_below HR1.out (by repeat (first | (with_reducible first | exact HB.out | apply below_alloc | apply pw_below_drewN | apply below_drew1) | exact HB.out))) | (with_reducible refine Kd.C_alloc ?_ _) | (with_reducible refine Kd.C_drewN ?_ _) | (with_reducible refine Kd.C_drew ?_))); (case side4 => exact HC1.out); rintro e w' ⟨rfl, ⟨nd, rfl⟩⟩))
                                        go_ret
                                        exact ⟨by first | rfl | (simp [errW_none, errW_some] <;> rfl) | (simp [*, errW_none, errW_some] <;> rfl), by repeat (first | (with_reducible first | exact HB.out | apply below_alloc | apply pw_below_drewN | apply below_drew1) | exact HB.out)⟩
                                      · replace c64 := Bool.eq_false_iff.mpr c64
                                        subst c64
                                        have H1 : (some false) = some r := by rw [if_neg (show ¬ (false = true) by decide)] at H; exact H
                                        clear H
                                        have H := H1
                                        clear H1
                                        obtain rfl := Option.some.inj H
                                        have q69 : ((l0.length : Int) : Int) ≤ ((x5_1.length : Int) : Int) := of_decide_eq_true (by first | (with_reducible assumption) | assumption)
                                        obtain ⟨i069, hi069, _, hsz69, _⟩ := info_parts info28
                                        have hroom69 : x5_1.length ≤ co20 := (Kd.R_reads' HO_5.out).2.1
                                        have hC69 : Kd.C k28 _ Ao20 x5_1.length x5_1 := (Kd.R_reads' HO_5.out).2.2
                                        have hcut69 := cut_to (P := Try.prog) 23 28 .i64 Try.underlying23 hi069 Ao20 x5_1.length co20 (l0.length : Int) (of_decide_eq_true (by first | (with_reducible assumption) | assumption)) q69 hroom69
                                        have hr69 := Kd.C_take (m := ((l0.length : Int) : Int).toNat) hC69 (by omega)
                                        have hy69 : y260.length = ((l0.length : Int) : Int).toNat := (by rw [Ny260.out, List.length_take]; omega)
                                        rw [← Ny260.out] at hr69
                                        rw [← hy69] at hcut69
                                        have HR263 := Aside0.mk hr69
                                        have HC263 := Aside0.mk (show y260.length ≤ co20 from by omega)
                                        clear hr69 hC69 hroom69 hi069 hsz69
                                        have KY69 := Aside0.mk hy69
                                        clear hy69
                                        have KL69 := Aside0.mk (show ((l0.length : Int) : Int).toNat ≤ x5_1.length from by omega)
                                        replace q69 := eq_true q69
                                        go_wp2_with (first | ((with_reducible refine gate_callee (f := 25) rfl ?_); refine goesL_ (some 101) rfl rfl Try.func25 (by kernel_rfl) rfl #[.slice Ao20 y260.length co20] rfl (by (try simp only [List.map_toArray, List.map_cons, List.map_nil]); first | done | rfl | (simp only [List.length_drop, List.length_take]; rfl)) ?_; (with_reducible refine (aumbryref04_Print.calls kj45 _ _ y260 t264 t265 _ ?side1 ?side2 A57.out).mono ?_); (case side1 => repeat (first | exact (by repeat (first | (with_reducible exact HR263.out) | (with_reducible refine Kd.C_alloc ?_ _) | (with_reducible refine Kd.C_drewN ?_ _) | (with_reducible refine Kd.C_drew ?_) | exact HR263.out)) | (with_reducible refine Kd.C_alloc ?_ _) | (with_reducible refine Kd.C_drewN ?_ _) | (with_reducible refine Kd.C_drew ?_))); (case side2 => exact HC263.out); rintro e w70 ⟨rfl, hb⟩; refine ⟨_, rfl, ?_⟩; have n0_ := Aside0.mk (Kd.R_below (by (with_reducible repeat (first | apply Kd.R_alloc | apply Kd.R_drewN | apply Kd.R_drew)); exact HO_5.out) hb); have n1_ := Aside0.mk (Kd.S_below (by (with_reducible repeat (first | apply Kd.S_alloc | apply Kd.S_drewN | apply Kd.S_drew)); exact HO_6.out) hb); have n2_ := Aside0.mk (Kd.C_below (by repeat (first | (with_reducible exact HR263.out) | (with_reducible refine Kd.C_alloc ?_ _) | (with_reducible refine Kd.C_drewN ?_ _) | (with_reducible refine Kd.C_drew ?_) | exact HR263.out)) hb); have n3_ := Aside0.mk (below_step (by repeat (first | (with_reducible first | exact HB.out | apply below_alloc | apply pw_below_drewN | apply below_drew1) | exact HB.out)) hb); clear HO_5; clear HO_6; clear HR263; clear HB; have HO_5 := n0_; have HO_6 := n1_; have HR263 := n2_; have HB := n3_; clear n0_ n1_ n2_ n3_; (try clear hb); (try clear hb2); (try clear hk); (try clear hi); have p266 : 0 ≤ ((l0.length : Int) : Int) := of_decide_eq_true (by first | (with_reducible assumption) | assumption); have q266 : (l0.length : Int) < (x5_1.length : Int) := of_decide_eq_true (by first | (with_reducible assumption) | assumption); obtain ⟨ad266, e266, hx266_0, hx266_1⟩ := at_T28 (Kd.R_reads' HO_5.out).2.2 (l0.length : Int) p266 q266; cases e266; (try simp only [Go.IntWalk.toNatUp] at hx266_0); (try simp only [Go.IntWalk.toNatUp] at hx266_1); (try simp only [hl5_1, hl7_1, hl11_2] at p266); (try simp only [hl5_1, hl7_1, hl11_2] at q266); (try simp only [hl5_1, hl7_1, hl11_2] at hx266_0); (try simp only [hl5_1, hl7_1, hl11_2] at hx266_1); replace p266 := eq_true p266; replace q266 := eq_true q266; have q71 : ((l0.length : Int) : Int) ≤ ((x5_1.length : Int) : Int) := of_decide_eq_true (by first | (with_reducible assumption) | assumption); obtain ⟨i071, hi071, _, hsz71, _⟩ := info_parts info28; have hroom71 : x5_1.length ≤ co20 := (Kd.R_reads' HO_5.out).2.1; have hC71 : Kd.C k28 _ (some ad266) x5_1.length x5_1 := (Kd.R_reads' HO_5.out).2.2; have hcut71 := cut_to (P := Try.prog) 23 28 .i64 Try.underlying23 hi071 (some ad266) x5_1.length co20 (l0.length : Int) (of_decide_eq_true (by first | (with_reducible assumption) | assumption)) q71 hroom71; have hr71 := Kd.C_take (m := ((l0.length : Int) : Int).toNat) hC71 (by omega); have hy71 : y267.length = ((l0.length : Int) : Int).toNat := (by rw [Ny267.out, List.length_take]; omega); rw [← Ny267.out] at hr71; rw [← hy71] at hcut71; have HR270 := Aside0.mk hr71; have HC270 := Aside0.mk (show y267.length ≤ co20 from by omega); clear hr71 hC71 hroom71 hi071 hsz71; have KY71 := Aside0.mk hy71; clear hy71; have KL71 := Aside0.mk (show ((l0.length : Int) : Int).toNat ≤ x5_1.length from by omega); replace q71 := eq_true q71) | (go_at_call 14; (with_reducible refine (aumbryref04_Same.calls kj45 _ _ y260 _ _ l0 false _ ?side1 ?side2 ?side3 ?side4 (show aumbryref04_Same.f kj45 y260 l0 = some _ from by have h_ := A63.out; rw [Ny267.out] at h_; rw [Ny260.out]; exact h_)).mono ?_); (case side1 => repeat (first | exact (by repeat (first | (with_reducible exact HR263.out) | (with_reducible refine Kd.C_alloc ?_ _) | (with_reducible refine Kd.C_drewN ?_ _) | (with_reducible refine Kd.C_drew ?_) | exact HR263.out)) | (with_reducible refine Kd.C_alloc ?_ _) | (with_reducible refine Kd.C_drewN ?_ _) | (with_reducible refine Kd.C_drew ?_))); (case side2 => exact HC263.out); (case side3 => repeat (first | exact (Kd.C_below HR0.out HB.out) | (with_reducible refine Kd.C_alloc ?_ _) | (with_reducible refine Kd.C_drewN ?_ _) | (with_reducible refine Kd.C_drew ?_))); (case side4 => exact HC0.out); rintro e w' ⟨rfl, ⟨nd, rfl⟩⟩))
                                        go_ret
                                        exact ⟨by first | rfl | (simp [errW_none, errW_some] <;> rfl) | (simp [*, errW_none, errW_some] <;> rfl), by repeat (first | (with_reducible first | exact HB.out | apply below_alloc | apply pw_below_drewN | apply below_drew1) | exact HB.out)⟩
                                    · rw [if_neg c60] at H
                                      have c60b0 : (((rd_T28 x5_1 (l0.length : Int)).f0).toList == ([107, 101, 101, 112] : List UInt8)) = false := beq_eq_false_iff_ne.mpr c60
                                      have c60b1 : (((rd_T28 x5_1 (l0.length : Int)).f0).toList != ([107, 101, 101, 112] : List UInt8)) = true := bne_iff_ne.mpr c60
                                      obtain rfl := Option.some.inj H
                                      have q72 : ((l0.length : Int) : Int) ≤ ((x5_1.length : Int) : Int) := of_decide_eq_true (by first | (with_reducible assumption) | assumption)
                                      obtain ⟨i072, hi072, _, hsz72, _⟩ := info_parts info28
                                      have hroom72 : x5_1.length ≤ co20 := (Kd.R_reads' HO_5.out).2.1
                                      have hC72 : Kd.C k28 _ Ao20 x5_1.length x5_1 := (Kd.R_reads' HO_5.out).2.2
                                      have hcut72 := cut_to (P := Try.prog) 23 28 .i64 Try.underlying23 hi072 Ao20 x5_1.length co20 (l0.length : Int) (of_decide_eq_true (by first | (with_reducible assumption) | assumption)) q72 hroom72
                                      have hr72 := Kd.C_take (m := ((l0.length : Int) : Int).toNat) hC72 (by omega)
                                      have hy72 : y260.length = ((l0.length : Int) : Int).toNat := (by rw [Ny260.out, List.length_take]; omega)
                                      rw [← Ny260.out] at hr72
                                      rw [← hy72] at hcut72
                                      have HR263 := Aside0.mk hr72
                                      have HC263 := Aside0.mk (show y260.length ≤ co20 from by omega)
                                      clear hr72 hC72 hroom72 hi072 hsz72
                                      have KY72 := Aside0.mk hy72
                                      clear hy72
                                      have KL72 := Aside0.mk (show ((l0.length : Int) : Int).toNat ≤ x5_1.length from by omega)
                                      replace q72 := eq_true q72
                                      go_wp2_with (first | ((with_reducible refine gate_callee (f := 25) rfl ?_); refine goesL_ (some 101) rfl rfl Try.func25 (by kernel_rfl) rfl #[.slice Ao20 y260.length co20] rfl (by (try simp only [List.map_toArray, List.map_cons, List.map_nil]); first | done | rfl | (simp only [List.length_drop, List.length_take]; rfl)) ?_; (with_reducible refine (aumbryref04_Print.calls kj45 _ _ y260 t264 t265 _ ?side1 ?side2 A57.out).mono ?_); (case side1 => repeat (first | exact (by repeat (first | (with_reducible exact HR263.out) | (with_reducible refine Kd.C_alloc ?_ _) | (with_reducible refine Kd.C_drewN ?_ _) | (with_reducible refine Kd.C_drew ?_) | exact HR263.out)) | (with_reducible refine Kd.C_alloc ?_ _) | (with_reducible refine Kd.C_drewN ?_ _) | (with_reducible refine Kd.C_drew ?_))); (case side2 => exact HC263.out); rintro e w73 ⟨rfl, hb⟩; refine ⟨_, rfl, ?_⟩; have n0_ := Aside0.mk (Kd.R_below (by (with_reducible repeat (first | apply Kd.R_alloc | apply Kd.R_drewN | apply Kd.R_drew)); exact HO_5.out) hb); have n1_ := Aside0.mk (Kd.S_below (by (with_reducible repeat (first | apply Kd.S_alloc | apply Kd.S_drewN | apply Kd.S_drew)); exact HO_6.out) hb); have n2_ := Aside0.mk (Kd.C_below (by repeat (first | (with_reducible exact HR263.out) | (with_reducible refine Kd.C_alloc ?_ _) | (with_reducible refine Kd.C_drewN ?_ _) | (with_reducible refine Kd.C_drew ?_) | exact HR263.out)) hb); have n3_ := Aside0.mk (below_step (by repeat (first | (with_reducible first | exact HB.out | apply below_alloc | apply pw_below_drewN | apply below_drew1) | exact HB.out)) hb); clear HO_5; clear HO_6; clear HR263; clear HB; have HO_5 := n0_; have HO_6 := n1_; have HR263 := n2_; have HB := n3_; clear n0_ n1_ n2_ n3_; (try clear hb); (try clear hb2); (try clear hk); (try clear hi); have p266 : 0 ≤ ((l0.length : Int) : Int) := of_decide_eq_true (by first | (with_reducible assumption) | assumption); have q266 : (l0.length : Int) < (x5_1.length : Int) := of_decide_eq_true (by first | (with_reducible assumption) | assumption); obtain ⟨ad266, e266, hx266_0, hx266_1⟩ := at_T28 (Kd.R_reads' HO_5.out).2.2 (l0.length : Int) p266 q266; cases e266; (try simp only [Go.IntWalk.toNatUp] at hx266_0); (try simp only [Go.IntWalk.toNatUp] at hx266_1); (try simp only [hl5_1, hl7_1, hl11_2] at p266); (try simp only [hl5_1, hl7_1, hl11_2] at q266); (try simp only [hl5_1, hl7_1, hl11_2] at hx266_0); (try simp only [hl5_1, hl7_1, hl11_2] at hx266_1); replace p266 := eq_true p266; replace q266 := eq_true q266))
                                      go_ret
                                      exact ⟨by first | rfl | (simp [errW_none, errW_some] <;> rfl) | (simp [*, errW_none, errW_some] <;> rfl), by repeat (first | (with_reducible first | exact HB.out | apply below_alloc | apply pw_below_drewN | apply below_drew1) | exact HB.out)⟩
                                  · rw [if_neg c59] at H
                                    exact absurd H (by simp)
                                · rw [if_neg c58] at H
                                  have c58b0 : (t264.toList == t254.toList) = false := beq_eq_false_iff_ne.mpr c58
                                  have c58b1 : (t264.toList != t254.toList) = true := bne_iff_ne.mpr c58
                                  obtain rfl := Option.some.inj H
                                  have q74 : ((l0.length : Int) : Int) ≤ ((x5_1.length : Int) : Int) := of_decide_eq_true (by first | (with_reducible assumption) | assumption)
                                  obtain ⟨i074, hi074, _, hsz74, _⟩ := info_parts info28
                                  have hroom74 : x5_1.length ≤ co20 := (Kd.R_reads' HO_5.out).2.1
                                  have hC74 : Kd.C k28 _ Ao20 x5_1.length x5_1 := (Kd.R_reads' HO_5.out).2.2
                                  have hcut74 := cut_to (P := Try.prog) 23 28 .i64 Try.underlying23 hi074 Ao20 x5_1.length co20 (l0.length : Int) (of_decide_eq_true (by first | (with_reducible assumption) | assumption)) q74 hroom74
                                  have hr74 := Kd.C_take (m := ((l0.length : Int) : Int).toNat) hC74 (by omega)
                                  have hy74 : y260.length = ((l0.length : Int) : Int).toNat := (by rw [Ny260.out, List.length_take]; omega)
                                  rw [← Ny260.out] at hr74
                                  rw [← hy74] at hcut74
                                  have HR263 := Aside0.mk hr74
                                  have HC263 := Aside0.mk (show y260.length ≤ co20 from by omega)
                                  clear hr74 hC74 hroom74 hi074 hsz74
                                  have KY74 := Aside0.mk hy74
                                  clear hy74
                                  have KL74 := Aside0.mk (show ((l0.length : Int) : Int).toNat ≤ x5_1.length from by omega)
                                  replace q74 := eq_true q74
                                  go_wp2_with (first | ((with_reducible refine gate_callee (f := 25) rfl ?_); refine goesL_ (some 101) rfl rfl Try.func25 (by kernel_rfl) rfl #[.slice Ao20 y260.length co20] rfl (by (try simp only [List.map_toArray, List.map_cons, List.map_nil]); first | done | rfl | (simp only [List.length_drop, List.length_take]; rfl)) ?_; (with_reducible refine (aumbryref04_Print.calls kj45 _ _ y260 t264 t265 _ ?side1 ?side2 A57.out).mono ?_); (case side1 => repeat (first | exact (by repeat (first | (with_reducible exact HR263.out) | (with_reducible refine Kd.C_alloc ?_ _) | (with_reducible refine Kd.C_drewN ?_ _) | (with_reducible refine Kd.C_drew ?_) | exact HR263.out)) | (with_reducible refine Kd.C_alloc ?_ _) | (with_reducible refine Kd.C_drewN ?_ _) | (with_reducible refine Kd.C_drew ?_))); (case side2 => exact HC263.out); rintro e w75 ⟨rfl, hb⟩; refine ⟨_, rfl, ?_⟩; have n0_ := Aside0.mk (Kd.R_below (by (with_reducible repeat (first | apply Kd.R_alloc | apply Kd.R_drewN | apply Kd.R_drew)); exact HO_5.out) hb); have n1_ := Aside0.mk (Kd.S_below (by (with_reducible repeat (first | apply Kd.S_alloc | apply Kd.S_drewN | apply Kd.S_drew)); exact HO_6.out) hb); have n2_ := Aside0.mk (Kd.C_below (by repeat (first | (with_reducible exact HR263.out) | (with_reducible refine Kd.C_alloc ?_ _) | (with_reducible refine Kd.C_drewN ?_ _) | (with_reducible refine Kd.C_drew ?_) | exact HR263.out)) hb); have n3_ := Aside0.mk (below_step (by repeat (first | (with_reducible first | exact HB.out | apply below_alloc | apply pw_below_drewN | apply below_drew1) | exact HB.out)) hb); clear HO_5; clear HO_6; clear HR263; clear HB; have HO_5 := n0_; have HO_6 := n1_; have HR263 := n2_; have HB := n3_; clear n0_ n1_ n2_ n3_; (try clear hb); (try clear hb2); (try clear hk); (try clear hi)))
                                  go_ret
                                  exact ⟨by first | rfl | (simp [errW_none, errW_some] <;> rfl) | (simp [*, errW_none, errW_some] <;> rfl), by repeat (first | (with_reducible first | exact HB.out | apply below_alloc | apply pw_below_drewN | apply below_drew1) | exact HB.out)⟩
                              · rw [if_neg c56] at H
                                exact absurd H (by simp)
                            · rw [if_neg c55] at H
                              exact absurd H (by simp)
        · rw [if_neg c9] at H
          exact absurd H (by simp)
      · rw [if_neg c8] at H
        exact absurd H (by simp)
    · rw [if_neg c6] at H
      exact absurd H (by simp)
  · replace c4 := Bool.eq_false_iff.mpr c4
    subst c4
    have H1 : (some false) = some r := by rw [if_neg (show ¬ (false = true) by decide)] at H; exact H
    clear H
    have H := H1
    clear H1
    obtain rfl := Option.some.inj H
    go_enter Try.func7, Try.ntmps7
    go_wp2_with (first | ((with_reducible refine gate_callee (f := 16) rfl ?_); refine goesL_ (some 20) rfl rfl Try.func16 (by kernel_rfl) rfl #[] rfl (by (try simp only [List.map_toArray, List.map_cons, List.map_nil]); first | done | rfl | (simp only [List.length_drop, List.length_take]; rfl)) ?_; (with_reducible refine (aumbrylaw04_wakes.calls k  false _ A3.out).mono ?_); rintro e w76 ⟨rfl, hb⟩; refine ⟨_, rfl, ?_⟩; have n0_ := Aside0.mk (below_step (by repeat (first | (with_reducible first | exact HB.out | apply below_alloc | apply pw_below_drewN | apply below_drew1) | exact HB.out)) hb); clear HB; have HB := n0_; clear n0_; (try clear hb); (try clear hb2); (try clear hk); (try clear hi)))
    go_ret
    exact ⟨by first | rfl | (simp [errW_none, errW_some] <;> rfl) | (simp [*, errW_none, errW_some] <;> rfl), by repeat (first | (with_reducible first | exact HB.out | apply below_alloc | apply pw_below_drewN | apply below_drew1) | exact HB.out)⟩

end Go.Proofs.Ytnkpcnnbeaomnaa.C
end
