import Derived.Test.YtnkpcnnbeaomnaaMO6
import Derived.Test.YtnkpcnnbeaomnaaMO11
import Derived.Test.YtnkpcnnbeaomnaaMO12
import Derived.Test.YtnkpcnnbeaomnaaMO13
import Derived.Test.YtnkpcnnbeaomnaaMO8
import Derived.Test.YtnkpcnnbeaomnaaMO10

section
-- Written by a program of this session (a scratch print over hand-made contracts), out of the translation. Not trusted: Lean checks it.
namespace Go.Proofs.Ytnkpcnnbeaomnaa.C
open Go.RowKit Go.Proofs.YtnkpcnnbeaomnaaW.PrintWords Go.Proofs.YtnkpcnnbeaomnaaW.PrintLast Go.Proofs.YtnkpcnnbeaomnaaW.PrintMore
attribute [local go_sem] max2_int min2_int max_two min_two max_three min_three max_four min_four   -- for this text's walks alone
set_option linter.unusedVariables false
set_option linter.unusedSimpArgs false

/-! ### aumbrylaw05_MatchOwn: function 3 -/
mutual
def aumbrylaw05_MatchOwn.l0 : Nat → List (S28) → List (S28) → List (S36) → List (S28) → List (S28) → List (S36) → List (S36) → List (S28) → Int → Int → Option (Bool)
  | 0, _, _, _, _, _, _, _, _, _, _ => none
  | k + 1, x0, x1, x2, x7, x8, x9, x10, x13, x55, x56 => if x56 < x55 then (if 0 ≤ x56 then (if x56 < (x10.length : Int) then (aumbrylaw05_MatchOwn.l1 k x0 x1 x2 x7 x8 x9 x10 x13 x56 x55 x56 (((rd_T36 x10 x56).f1).length : Int) 0) else (none)) else (none)) else (aumbrylaw05_MatchOwn.l2 k x0 x1 x2 x7 x8 x9 x13 (x13.length : Int) 0)
def aumbrylaw05_MatchOwn.l1 : Nat → List (S28) → List (S28) → List (S36) → List (S28) → List (S28) → List (S36) → List (S36) → List (S28) → Int → Int → Int → Int → Int → Option (Bool)
  | 0, _, _, _, _, _, _, _, _, _, _, _, _, _ => none
  | k + 1, x0, x1, x2, x7, x8, x9, x10, x13, x15, x55, x56, x64, x65 => if x65 < x64 then (if 0 ≤ x15 then (if x15 < (x10.length : Int) then (if 0 ≤ x65 then (if x65 < (((rd_T36 x10 x15).f1).length : Int) then (aumbrylaw05_MatchOwn.l1 k x0 x1 x2 x7 x8 x9 (x10.set (x15 : Int).toNat (⟨(rd_T36 x10 x15).f0, (((rd_T36 x10 x15).f1).set (x65 : Int).toNat (⟨(⟨#[120]⟩ : ByteArray), (rd_T28 ((rd_T36 x10 x15).f1) x65).f1⟩ : S28))⟩ : S36)) x13 x15 x55 x56 x64 (wrap64 (x65 + 1))) else (none)) else (none)) else (none)) else (none)) else (aumbrylaw05_MatchOwn.l0 k x0 x1 x2 x7 x8 x9 x10 x13 x55 (wrap64 (x56 + 1)))
def aumbrylaw05_MatchOwn.l2 : Nat → List (S28) → List (S28) → List (S36) → List (S28) → List (S28) → List (S36) → List (S28) → Int → Int → Option (Bool)
  | 0, _, _, _, _, _, _, _, _, _ => none
  | k + 1, x0, x1, x2, x7, x8, x9, x13, x79, x80 => if x80 < x79 then (if 0 ≤ x80 then (if x80 < (x13.length : Int) then (aumbrylaw05_MatchOwn.l2 k x0 x1 x2 x7 x8 x9 (x13.set (x80 : Int).toNat (⟨(⟨#[120]⟩ : ByteArray), (rd_T28 x13 x80).f1⟩ : S28)) x79 (wrap64 (x80 + 1))) else (none)) else (none)) else (if 0 ≤ (x0.length : Int) then (if (x0.length : Int) < (x7.length : Int) then (if ((rd_T28 x7 (x0.length : Int)).f0).toList = ([107, 101, 101, 112] : List UInt8) then (if 0 ≤ (x1.length : Int) then (if (x1.length : Int) < (x8.length : Int) then (if ((rd_T28 x8 (x1.length : Int)).f0).toList = ([107, 101, 101, 112] : List UInt8) then (if (x0.length : Int) ≤ (x7.length : Int) then ((aumbryref04_Same.f k (x7.take ((x0.length : Int) : Int).toNat) x0).bind fun t207 => (if t207 = true then (if (x1.length : Int) ≤ (x8.length : Int) then ((aumbryref04_Same.f k (x8.take ((x1.length : Int) : Int).toNat) x1).bind fun t212 => (if t212 = true then ((aumbryref05_Same.f k x9 x2).bind fun t213 => (some t213)) else (some false))) else (none)) else (some false))) else (none)) else (some false)) else (none)) else (none)) else (some false)) else (none)) else (none))
end
def aumbrylaw05_MatchOwn.f (k : Nat) (l0 : List (S28)) (l1 : List (S28)) (l2 : List (S36)) : Option (Bool) := (aumbrylaw05_wakes.f k).bind fun t158 => (if t158 = true then ((aumbrylaw05_own.f l0).bind fun t159 => (if t159.length < 5864062014805 then ((some (t159 ++ [(⟨(⟨#[107, 101, 101, 112]⟩ : ByteArray), 0⟩ : S28)] : List (S28))).bind fun y162 => ((aumbrylaw05_own.f l1).bind fun t165 => (if t165.length < 5864062014805 then ((some (t165 ++ [(⟨(⟨#[107, 101, 101, 112]⟩ : ByteArray), 0⟩ : S28)] : List (S28))).bind fun y168 => ((aumbryref05_Copy.f k l2).bind fun t171 => (if 0 ≤ (l0.length : Int) then (if (l0.length : Int) ≤ (y162.length : Int) then (if 0 ≤ (l1.length : Int) then (if (l1.length : Int) ≤ (y168.length : Int) then ((match_Match.f k (y162.take ((l0.length : Int) : Int).toNat) (y168.take ((l1.length : Int) : Int).toNat)).bind fun bt182 => ((match_Fill.f k (y162.take ((l0.length : Int) : Int).toNat) t171).bind fun bt191 => (aumbrylaw05_MatchOwn.l0 k l0 l1 l2 y162 y168 t171 bt182.1 bt191.1 (bt182.1.length : Int) 0))) else (none)) else (none)) else (none)) else (none)))) else (none)))) else (none))) else (some false))
theorem aumbrylaw05_MatchOwn.mono_l : ∀ k, (∀ y0 y1 y2 y3 y4 y5 y6 y7 y8 y9, LeO (aumbrylaw05_MatchOwn.l0 k y0 y1 y2 y3 y4 y5 y6 y7 y8 y9) (aumbrylaw05_MatchOwn.l0 (k + 1) y0 y1 y2 y3 y4 y5 y6 y7 y8 y9)) ∧ (∀ y0 y1 y2 y3 y4 y5 y6 y7 y8 y9 y10 y11 y12, LeO (aumbrylaw05_MatchOwn.l1 k y0 y1 y2 y3 y4 y5 y6 y7 y8 y9 y10 y11 y12) (aumbrylaw05_MatchOwn.l1 (k + 1) y0 y1 y2 y3 y4 y5 y6 y7 y8 y9 y10 y11 y12)) ∧ (∀ y0 y1 y2 y3 y4 y5 y6 y7 y8, LeO (aumbrylaw05_MatchOwn.l2 k y0 y1 y2 y3 y4 y5 y6 y7 y8) (aumbrylaw05_MatchOwn.l2 (k + 1) y0 y1 y2 y3 y4 y5 y6 y7 y8))
  | 0 => ⟨fun _ _ _ _ _ _ _ _ _ _ r h => by simp [aumbrylaw05_MatchOwn.l0] at h, fun _ _ _ _ _ _ _ _ _ _ _ _ _ r h => by simp [aumbrylaw05_MatchOwn.l1] at h, fun _ _ _ _ _ _ _ _ _ r h => by simp [aumbrylaw05_MatchOwn.l2] at h⟩
  | k + 1 => by
    obtain ⟨ih0, ih1, ih2⟩ := aumbrylaw05_MatchOwn.mono_l k
    refine ⟨?_, ?_, ?_⟩
    · intro y0 y1 y2 y3 y4 y5 y6 y7 y8 y9
      unfold aumbrylaw05_MatchOwn.l0
      repeat' first
      | (with_reducible exact ih0 _ _ _ _ _ _ _ _ _ _)
      | (with_reducible exact ih1 _ _ _ _ _ _ _ _ _ _ _ _ _)
      | (with_reducible exact ih2 _ _ _ _ _ _ _ _ _)
      | (with_reducible exact aumbrylaw05_wakes.mono _)
      | (with_reducible exact aumbryref04_Same.mono _ _ _)
      | (with_reducible exact aumbryref05_Copy.mono _ _)
      | (with_reducible exact aumbryref05_Same.mono _ _ _)
      | (with_reducible exact match_Fill.mono _ _ _)
      | (with_reducible exact match_Match.mono _ _ _)
      | (with_reducible exact LeO.refl _)
      | (with_reducible exact LeO.none _)
      | (with_reducible refine LeO.ite ?_ ?_)
      | (with_reducible refine LeO.bind ?_ (fun _ => ?_))
      | exact ih0 _ _ _ _ _ _ _ _ _ _
      | exact ih1 _ _ _ _ _ _ _ _ _ _ _ _ _
      | exact ih2 _ _ _ _ _ _ _ _ _
      | exact aumbrylaw05_wakes.mono _
      | exact aumbryref04_Same.mono _ _ _
      | exact aumbryref05_Copy.mono _ _
      | exact aumbryref05_Same.mono _ _ _
      | exact match_Fill.mono _ _ _
      | exact match_Match.mono _ _ _
      | exact LeO.none _
      | refine LeO.ite ?_ ?_
      | refine LeO.bind ?_ (fun _ => ?_)
    · intro y0 y1 y2 y3 y4 y5 y6 y7 y8 y9 y10 y11 y12
      unfold aumbrylaw05_MatchOwn.l1
      repeat' first
      | (with_reducible exact ih0 _ _ _ _ _ _ _ _ _ _)
      | (with_reducible exact ih1 _ _ _ _ _ _ _ _ _ _ _ _ _)
      | (with_reducible exact ih2 _ _ _ _ _ _ _ _ _)
      | (with_reducible exact aumbrylaw05_wakes.mono _)
      | (with_reducible exact aumbryref04_Same.mono _ _ _)
      | (with_reducible exact aumbryref05_Copy.mono _ _)
      | (with_reducible exact aumbryref05_Same.mono _ _ _)
      | (with_reducible exact match_Fill.mono _ _ _)
      | (with_reducible exact match_Match.mono _ _ _)
      | (with_reducible exact LeO.refl _)
      | (with_reducible exact LeO.none _)
      | (with_reducible refine LeO.ite ?_ ?_)
      | (with_reducible refine LeO.bind ?_ (fun _ => ?_))
      | exact ih0 _ _ _ _ _ _ _ _ _ _
      | exact ih1 _ _ _ _ _ _ _ _ _ _ _ _ _
      | exact ih2 _ _ _ _ _ _ _ _ _
      | exact aumbrylaw05_wakes.mono _
      | exact aumbryref04_Same.mono _ _ _
      | exact aumbryref05_Copy.mono _ _
      | exact aumbryref05_Same.mono _ _ _
      | exact match_Fill.mono _ _ _
      | exact match_Match.mono _ _ _
      | exact LeO.none _
      | refine LeO.ite ?_ ?_
      | refine LeO.bind ?_ (fun _ => ?_)
    · intro y0 y1 y2 y3 y4 y5 y6 y7 y8
      unfold aumbrylaw05_MatchOwn.l2
      repeat' first
      | (with_reducible exact ih0 _ _ _ _ _ _ _ _ _ _)
      | (with_reducible exact ih1 _ _ _ _ _ _ _ _ _ _ _ _ _)
      | (with_reducible exact ih2 _ _ _ _ _ _ _ _ _)
      | (with_reducible exact aumbrylaw05_wakes.mono _)
      | (with_reducible exact aumbryref04_Same.mono _ _ _)
      | (with_reducible exact aumbryref05_Copy.mono _ _)
      | (with_reducible exact aumbryref05_Same.mono _ _ _)
      | (with_reducible exact match_Fill.mono _ _ _)
      | (with_reducible exact match_Match.mono _ _ _)
      | (with_reducible exact LeO.refl _)
      | (with_reducible exact LeO.none _)
      | (with_reducible refine LeO.ite ?_ ?_)
      | (with_reducible refine LeO.bind ?_ (fun _ => ?_))
      | exact ih0 _ _ _ _ _ _ _ _ _ _
      | exact ih1 _ _ _ _ _ _ _ _ _ _ _ _ _
      | exact ih2 _ _ _ _ _ _ _ _ _
      | exact aumbrylaw05_wakes.mono _
      | exact aumbryref04_Same.mono _ _ _
      | exact aumbryref05_Copy.mono _ _
      | exact aumbryref05_Same.mono _ _ _
      | exact match_Fill.mono _ _ _
      | exact match_Match.mono _ _ _
      | exact LeO.none _
      | refine LeO.ite ?_ ?_
      | refine LeO.bind ?_ (fun _ => ?_)
theorem aumbrylaw05_MatchOwn.mono : ∀ a0 a1 a2 k, LeO (aumbrylaw05_MatchOwn.f k a0 a1 a2) (aumbrylaw05_MatchOwn.f (k + 1) a0 a1 a2) := by
  intro a0 a1 a2 k
  obtain ⟨ih0, ih1, ih2⟩ := aumbrylaw05_MatchOwn.mono_l k
  unfold aumbrylaw05_MatchOwn.f
  repeat' first
      | (with_reducible exact ih0 _ _ _ _ _ _ _ _ _ _)
      | (with_reducible exact ih1 _ _ _ _ _ _ _ _ _ _ _ _ _)
      | (with_reducible exact ih2 _ _ _ _ _ _ _ _ _)
      | (with_reducible exact aumbrylaw05_wakes.mono _)
      | (with_reducible exact aumbryref04_Same.mono _ _ _)
      | (with_reducible exact aumbryref05_Copy.mono _ _)
      | (with_reducible exact aumbryref05_Same.mono _ _ _)
      | (with_reducible exact match_Fill.mono _ _ _)
      | (with_reducible exact match_Match.mono _ _ _)
      | (with_reducible exact LeO.refl _)
      | (with_reducible exact LeO.none _)
      | (with_reducible refine LeO.ite ?_ ?_)
      | (with_reducible refine LeO.bind ?_ (fun _ => ?_))
      | exact ih0 _ _ _ _ _ _ _ _ _ _
      | exact ih1 _ _ _ _ _ _ _ _ _ _ _ _ _
      | exact ih2 _ _ _ _ _ _ _ _ _
      | exact aumbrylaw05_wakes.mono _
      | exact aumbryref04_Same.mono _ _ _
      | exact aumbryref05_Copy.mono _ _
      | exact aumbryref05_Same.mono _ _ _
      | exact match_Fill.mono _ _ _
      | exact match_Match.mono _ _ _
      | exact LeO.none _
      | refine LeO.ite ?_ ?_
      | refine LeO.bind ?_ (fun _ => ?_)
def aumbrylaw05_MatchOwn.T4 : Bool × List (List Nat × List Nat) := (true, [([], []), ([], []), ([1], [1]), ([0, 2], [0, 2]), ([], []), ([], []), ([5], [5]), ([4, 6], [4, 6]), ([3, 7], [3, 7]), ([8], [8]), ([9], [9]), ([9], [9]), ([9], [9]), ([10, 8, 0, 1, 2, 3, 4, 5, 6, 7, 8, 9, 10], [10]), ([11, 13, 0, 1, 2, 3, 4, 5, 6, 7, 8, 9, 10, 11, 13], [11]), ([12, 14, 0, 1, 2, 3, 4, 5, 6, 7, 8, 9, 10, 11, 12, 13, 14], [12])])
def aumbrylaw05_MatchOwn.B4 : List Nat := [0, 0, 2, 7, 0, 0, 32, 112, 255, 511, 1023, 1023, 1023, 2047, 12287, 32767]
theorem aumbrylaw05_MatchOwn.tab4 : rtab .any (opsOf Try.f3 4) = aumbrylaw05_MatchOwn.T4 := by kernel_rfl
theorem aumbrylaw05_MatchOwn.bits4 : waitsOk aumbrylaw05_MatchOwn.T4.2 aumbrylaw05_MatchOwn.B4 = true := by kernel_rfl
set_option maxHeartbeats 8000000 in
set_option maxRecDepth 100000 in
theorem aumbrylaw05_MatchOwn.calls (k : Nat) (A0 : Option Addr) (c0 : Nat) (l0 : List (S28)) (A1 : Option Addr) (c1 : Nat) (l1 : List (S28)) (A2 : Option Addr) (c2 : Nat) (l2 : List (S36)) (r : Bool) (w : World) (hr0 : Kd.C k28 w A0 l0.length l0) (hc0 : l0.length ≤ c0) (hr1 : Kd.C k28 w A1 l1.length l1) (hc1 : l1.length ≤ c1) (hr2 : Kd.C k36 w A2 l2.length l2) (hc2 : l2.length ≤ c2) (h : aumbrylaw05_MatchOwn.f k l0 l1 l2 = some r) :
    Calls Try.prog 3 #[.slice A0 l0.length c0, .slice A1 l1.length c1, .slice A2 l2.length c2] w fun e w' => e = .returned (.bool r) ∧ Below w.heap.size w w' := by
  have hu28 := Try.underlying28
  have HR0 := Aside0.mk hr0
  have HC0 := Aside0.mk hc0
  clear hr0 hc0
  have HR1 := Aside0.mk hr1
  have HC1 := Aside0.mk hc1
  clear hr1 hc1
  have HR2 := Aside0.mk hr2
  have HC2 := Aside0.mk hc2
  clear hr2 hc2
  have HB := Aside0.mk (Below.refl w.heap.size w)
  have H : ((aumbrylaw05_wakes.f k).bind fun t158 => (if t158 = true then ((aumbrylaw05_own.f l0).bind fun t159 => (if t159.length < 5864062014805 then ((some (t159 ++ [(⟨(⟨#[107, 101, 101, 112]⟩ : ByteArray), 0⟩ : S28)] : List (S28))).bind fun y162 => ((aumbrylaw05_own.f l1).bind fun t165 => (if t165.length < 5864062014805 then ((some (t165 ++ [(⟨(⟨#[107, 101, 101, 112]⟩ : ByteArray), 0⟩ : S28)] : List (S28))).bind fun y168 => ((aumbryref05_Copy.f k l2).bind fun t171 => (if 0 ≤ (l0.length : Int) then (if (l0.length : Int) ≤ (y162.length : Int) then (if 0 ≤ (l1.length : Int) then (if (l1.length : Int) ≤ (y168.length : Int) then ((match_Match.f k (y162.take ((l0.length : Int) : Int).toNat) (y168.take ((l1.length : Int) : Int).toNat)).bind fun bt182 => ((match_Fill.f k (y162.take ((l0.length : Int) : Int).toNat) t171).bind fun bt191 => (aumbrylaw05_MatchOwn.l0 k l0 l1 l2 y162 y168 t171 bt182.1 bt191.1 (bt182.1.length : Int) 0))) else (none)) else (none)) else (none)) else (none)))) else (none)))) else (none))) else (some false))) = some r := h
  clear h
  replace H := Option.bind_eq_some_iff.mp H
  obtain ⟨t158, A40, H⟩ := H
  replace H : (if t158 = true then ((aumbrylaw05_own.f l0).bind fun t159 => (if t159.length < 5864062014805 then ((some (t159 ++ [(⟨(⟨#[107, 101, 101, 112]⟩ : ByteArray), 0⟩ : S28)] : List (S28))).bind fun y162 => ((aumbrylaw05_own.f l1).bind fun t165 => (if t165.length < 5864062014805 then ((some (t165 ++ [(⟨(⟨#[107, 101, 101, 112]⟩ : ByteArray), 0⟩ : S28)] : List (S28))).bind fun y168 => ((aumbryref05_Copy.f k l2).bind fun t171 => (if 0 ≤ (l0.length : Int) then (if (l0.length : Int) ≤ (y162.length : Int) then (if 0 ≤ (l1.length : Int) then (if (l1.length : Int) ≤ (y168.length : Int) then ((match_Match.f k (y162.take ((l0.length : Int) : Int).toNat) (y168.take ((l1.length : Int) : Int).toNat)).bind fun bt182 => ((match_Fill.f k (y162.take ((l0.length : Int) : Int).toNat) t171).bind fun bt191 => (aumbrylaw05_MatchOwn.l0 k l0 l1 l2 y162 y168 t171 bt182.1 bt191.1 (bt182.1.length : Int) 0))) else (none)) else (none)) else (none)) else (none)))) else (none)))) else (none))) else (some false)) = some r := H
  have A4 := Aside0.mk A40
  clear A40
  by_cases c5 : t158 = true
  · subst c5
    have H1 : ((aumbrylaw05_own.f l0).bind fun t159 => (if t159.length < 5864062014805 then ((some (t159 ++ [(⟨(⟨#[107, 101, 101, 112]⟩ : ByteArray), 0⟩ : S28)] : List (S28))).bind fun y162 => ((aumbrylaw05_own.f l1).bind fun t165 => (if t165.length < 5864062014805 then ((some (t165 ++ [(⟨(⟨#[107, 101, 101, 112]⟩ : ByteArray), 0⟩ : S28)] : List (S28))).bind fun y168 => ((aumbryref05_Copy.f k l2).bind fun t171 => (if 0 ≤ (l0.length : Int) then (if (l0.length : Int) ≤ (y162.length : Int) then (if 0 ≤ (l1.length : Int) then (if (l1.length : Int) ≤ (y168.length : Int) then ((match_Match.f k (y162.take ((l0.length : Int) : Int).toNat) (y168.take ((l1.length : Int) : Int).toNat)).bind fun bt182 => ((match_Fill.f k (y162.take ((l0.length : Int) : Int).toNat) t171).bind fun bt191 => (aumbrylaw05_MatchOwn.l0 k l0 l1 l2 y162 y168 t171 bt182.1 bt191.1 (bt182.1.length : Int) 0))) else (none)) else (none)) else (none)) else (none)))) else (none)))) else (none))) = some r := by rw [if_pos rfl] at H; exact H
    clear H
    have H := H1
    clear H1
    replace H := Option.bind_eq_some_iff.mp H
    obtain ⟨t159, A60, H⟩ := H
    replace H : (if t159.length < 5864062014805 then ((some (t159 ++ [(⟨(⟨#[107, 101, 101, 112]⟩ : ByteArray), 0⟩ : S28)] : List (S28))).bind fun y162 => ((aumbrylaw05_own.f l1).bind fun t165 => (if t165.length < 5864062014805 then ((some (t165 ++ [(⟨(⟨#[107, 101, 101, 112]⟩ : ByteArray), 0⟩ : S28)] : List (S28))).bind fun y168 => ((aumbryref05_Copy.f k l2).bind fun t171 => (if 0 ≤ (l0.length : Int) then (if (l0.length : Int) ≤ (y162.length : Int) then (if 0 ≤ (l1.length : Int) then (if (l1.length : Int) ≤ (y168.length : Int) then ((match_Match.f k (y162.take ((l0.length : Int) : Int).toNat) (y168.take ((l1.length : Int) : Int).toNat)).bind fun bt182 => ((match_Fill.f k (y162.take ((l0.length : Int) : Int).toNat) t171).bind fun bt191 => (aumbrylaw05_MatchOwn.l0 k l0 l1 l2 y162 y168 t171 bt182.1 bt191.1 (bt182.1.length : Int) 0))) else (none)) else (none)) else (none)) else (none)))) else (none)))) else (none)) = some r := H
    have A6 := Aside0.mk A60
    clear A60
    by_cases c7 : t159.length < 5864062014805
    · rw [if_pos c7] at H
      have LMc7 := Aside0.mk c7
      clear c7
      obtain ⟨y162, hy162⟩ : ∃ y_ : List (S28), y_ = (t159 ++ [(⟨(⟨#[107, 101, 101, 112]⟩ : ByteArray), 0⟩ : S28)]) := ⟨_, rfl⟩
      replace H : ((aumbrylaw05_own.f l1).bind fun t165 => (if t165.length < 5864062014805 then ((some (t165 ++ [(⟨(⟨#[107, 101, 101, 112]⟩ : ByteArray), 0⟩ : S28)] : List (S28))).bind fun y168 => ((aumbryref05_Copy.f k l2).bind fun t171 => (if 0 ≤ (l0.length : Int) then (if (l0.length : Int) ≤ (y162.length : Int) then (if 0 ≤ (l1.length : Int) then (if (l1.length : Int) ≤ (y168.length : Int) then ((match_Match.f k (y162.take ((l0.length : Int) : Int).toNat) (y168.take ((l1.length : Int) : Int).toNat)).bind fun bt182 => ((match_Fill.f k (y162.take ((l0.length : Int) : Int).toNat) t171).bind fun bt191 => (aumbrylaw05_MatchOwn.l0 k l0 l1 l2 y162 y168 t171 bt182.1 bt191.1 (bt182.1.length : Int) 0))) else (none)) else (none)) else (none)) else (none)))) else (none))) = some r := by first | (rw [hy162]; with_reducible exact H) | (have H2_ := (Option.bind_some _ _).symm.trans H; rw [hy162]; with_reducible exact H2_) | (have H2_ := (Option.bind_some _ _).symm.trans H; with_reducible exact H2_) | with_reducible exact H | (rw [hy162]; exact H) | exact H
      have Ny162 := Aside0.mk hy162
      clear hy162
      replace H := Option.bind_eq_some_iff.mp H
      obtain ⟨t165, A80, H⟩ := H
      replace H : (if t165.length < 5864062014805 then ((some (t165 ++ [(⟨(⟨#[107, 101, 101, 112]⟩ : ByteArray), 0⟩ : S28)] : List (S28))).bind fun y168 => ((aumbryref05_Copy.f k l2).bind fun t171 => (if 0 ≤ (l0.length : Int) then (if (l0.length : Int) ≤ (y162.length : Int) then (if 0 ≤ (l1.length : Int) then (if (l1.length : Int) ≤ (y168.length : Int) then ((match_Match.f k (y162.take ((l0.length : Int) : Int).toNat) (y168.take ((l1.length : Int) : Int).toNat)).bind fun bt182 => ((match_Fill.f k (y162.take ((l0.length : Int) : Int).toNat) t171).bind fun bt191 => (aumbrylaw05_MatchOwn.l0 k l0 l1 l2 y162 y168 t171 bt182.1 bt191.1 (bt182.1.length : Int) 0))) else (none)) else (none)) else (none)) else (none)))) else (none)) = some r := H
      have A8 := Aside0.mk A80
      clear A80
      by_cases c9 : t165.length < 5864062014805
      · rw [if_pos c9] at H
        have LMc9 := Aside0.mk c9
        clear c9
        obtain ⟨y168, hy168⟩ : ∃ y_ : List (S28), y_ = (t165 ++ [(⟨(⟨#[107, 101, 101, 112]⟩ : ByteArray), 0⟩ : S28)]) := ⟨_, rfl⟩
        replace H : ((aumbryref05_Copy.f k l2).bind fun t171 => (if 0 ≤ (l0.length : Int) then (if (l0.length : Int) ≤ (y162.length : Int) then (if 0 ≤ (l1.length : Int) then (if (l1.length : Int) ≤ (y168.length : Int) then ((match_Match.f k (y162.take ((l0.length : Int) : Int).toNat) (y168.take ((l1.length : Int) : Int).toNat)).bind fun bt182 => ((match_Fill.f k (y162.take ((l0.length : Int) : Int).toNat) t171).bind fun bt191 => (aumbrylaw05_MatchOwn.l0 k l0 l1 l2 y162 y168 t171 bt182.1 bt191.1 (bt182.1.length : Int) 0))) else (none)) else (none)) else (none)) else (none))) = some r := by first | (rw [hy168]; with_reducible exact H) | (have H2_ := (Option.bind_some _ _).symm.trans H; rw [hy168]; with_reducible exact H2_) | (have H2_ := (Option.bind_some _ _).symm.trans H; with_reducible exact H2_) | with_reducible exact H | (rw [hy168]; exact H) | exact H
        have Ny168 := Aside0.mk hy168
        clear hy168
        replace H := Option.bind_eq_some_iff.mp H
        obtain ⟨t171, A100, H⟩ := H
        replace H : (if 0 ≤ (l0.length : Int) then (if (l0.length : Int) ≤ (y162.length : Int) then (if 0 ≤ (l1.length : Int) then (if (l1.length : Int) ≤ (y168.length : Int) then ((match_Match.f k (y162.take ((l0.length : Int) : Int).toNat) (y168.take ((l1.length : Int) : Int).toNat)).bind fun bt182 => ((match_Fill.f k (y162.take ((l0.length : Int) : Int).toNat) t171).bind fun bt191 => (aumbrylaw05_MatchOwn.l0 k l0 l1 l2 y162 y168 t171 bt182.1 bt191.1 (bt182.1.length : Int) 0))) else (none)) else (none)) else (none)) else (none)) = some r := H
        have A10 := Aside0.mk A100
        clear A100
        by_cases c11 : 0 ≤ (l0.length : Int)
        · rw [if_pos c11] at H
          have c11b0 := eq_true c11
          have c11b1 : decide (0 ≤ (l0.length : Int)) = true := decide_eq_true c11
          clear c11
          by_cases c12 : (l0.length : Int) ≤ (y162.length : Int)
          · rw [if_pos c12] at H
            have c12b0 := eq_true c12
            have c12b1 : decide ((l0.length : Int) ≤ (y162.length : Int)) = true := decide_eq_true c12
            clear c12
            obtain ⟨y174, hy174⟩ : ∃ y_ : List (S28), y_ = (y162.take ((l0.length : Int) : Int).toNat) := ⟨_, rfl⟩
            replace H : (if 0 ≤ (l1.length : Int) then (if (l1.length : Int) ≤ (y168.length : Int) then ((match_Match.f k y174 (y168.take ((l1.length : Int) : Int).toNat)).bind fun bt182 => ((match_Fill.f k (y162.take ((l0.length : Int) : Int).toNat) t171).bind fun bt191 => (aumbrylaw05_MatchOwn.l0 k l0 l1 l2 y162 y168 t171 bt182.1 bt191.1 (bt182.1.length : Int) 0))) else (none)) else (none)) = some r := by first | (rw [hy174]; with_reducible exact H) | (have H2_ := (Option.bind_some _ _).symm.trans H; rw [hy174]; with_reducible exact H2_) | (have H2_ := (Option.bind_some _ _).symm.trans H; with_reducible exact H2_) | with_reducible exact H | (rw [hy174]; exact H) | exact H
            have Ny174 := Aside0.mk hy174
            clear hy174
            by_cases c13 : 0 ≤ (l1.length : Int)
            · rw [if_pos c13] at H
              have c13b0 := eq_true c13
              have c13b1 : decide (0 ≤ (l1.length : Int)) = true := decide_eq_true c13
              clear c13
              by_cases c14 : (l1.length : Int) ≤ (y168.length : Int)
              · rw [if_pos c14] at H
                have c14b0 := eq_true c14
                have c14b1 : decide ((l1.length : Int) ≤ (y168.length : Int)) = true := decide_eq_true c14
                clear c14
                obtain ⟨y178, hy178⟩ : ∃ y_ : List (S28), y_ = (y168.take ((l1.length : Int) : Int).toNat) := ⟨_, rfl⟩
                replace H : ((match_Match.f k y174 y178).bind fun bt182 => ((match_Fill.f k (y162.take ((l0.length : Int) : Int).toNat) t171).bind fun bt191 => (aumbrylaw05_MatchOwn.l0 k l0 l1 l2 y162 y168 t171 bt182.1 bt191.1 (bt182.1.length : Int) 0))) = some r := by first | (rw [hy178]; with_reducible exact H) | (have H2_ := (Option.bind_some _ _).symm.trans H; rw [hy178]; with_reducible exact H2_) | (have H2_ := (Option.bind_some _ _).symm.trans H; with_reducible exact H2_) | with_reducible exact H | (rw [hy178]; exact H) | exact H
                have Ny178 := Aside0.mk hy178
                clear hy178
                replace H := Option.bind_eq_some_iff.mp H
                obtain ⟨⟨t182, t183, t184⟩, A150, H⟩ := H
                replace H : ((match_Fill.f k (y162.take ((l0.length : Int) : Int).toNat) t171).bind fun bt191 => (aumbrylaw05_MatchOwn.l0 k l0 l1 l2 y162 y168 t171 t182 bt191.1 (t182.length : Int) 0)) = some r := H
                have A15 := Aside0.mk A150
                clear A150
                have c16b0 := eq_true (of_decide_eq_true (by first | (with_reducible assumption) | assumption) : 0 ≤ (l0.length : Int))
                have c17b0 := eq_true (of_decide_eq_true (by first | (with_reducible assumption) | assumption) : (l0.length : Int) ≤ (y162.length : Int))
                obtain ⟨y187, hy187⟩ : ∃ y_ : List (S28), y_ = (y162.take ((l0.length : Int) : Int).toNat) := ⟨_, rfl⟩
                replace H : ((match_Fill.f k y187 t171).bind fun bt191 => (aumbrylaw05_MatchOwn.l0 k l0 l1 l2 y162 y168 t171 t182 bt191.1 (t182.length : Int) 0)) = some r := by first | (rw [hy187]; with_reducible exact H) | (have H2_ := (Option.bind_some _ _).symm.trans H; rw [hy187]; with_reducible exact H2_) | (have H2_ := (Option.bind_some _ _).symm.trans H; with_reducible exact H2_) | with_reducible exact H | (rw [hy187]; exact H) | exact H
                have Ny187 := Aside0.mk hy187
                clear hy187
                replace H := Option.bind_eq_some_iff.mp H
                obtain ⟨⟨t191, t192⟩, A180, H⟩ := H
                replace H : (aumbrylaw05_MatchOwn.l0 k l0 l1 l2 y162 y168 t171 t182 t191 (t182.length : Int) 0) = some r := H
                have A18 := Aside0.mk A180
                clear A180
                have H' := Aside0.mk H
                clear H
                go_enter Try.func3, Try.ntmps3
                try go_wp2_with (first | ((with_reducible refine gate_callee (f := 9) rfl ?_); refine goesL_ (some 18) rfl rfl Try.func9 (by kernel_rfl) rfl #[] rfl (by (try simp only [List.map_toArray, List.map_cons, List.map_nil]); first | done | rfl | (simp only [List.length_drop, List.length_take]; rfl)) ?_; (with_reducible refine (aumbrylaw05_wakes.calls k  true _ A4.out).mono ?_); rintro e w19 ⟨rfl, hb⟩; refine ⟨_, rfl, ?_⟩; have n0_ := Aside0.mk (below_step (by repeat (first | (with_reducible first | exact HB.out | apply below_alloc | apply pw_below_drewN | apply below_drew1) | exact HB.out)) hb); clear HB; have HB := n0_; clear n0_; (try clear hb); (try clear hb2); (try clear hk); (try clear hi)) | ((with_reducible refine gate_callee (f := 10) rfl ?_); refine goesL_ (some 21) rfl rfl Try.func10 (by kernel_rfl) rfl #[.slice A0 l0.length c0] rfl (by (try simp only [List.map_toArray, List.map_cons, List.map_nil]); first | done | rfl | (simp only [List.length_drop, List.length_take]; rfl)) ?_; (with_reducible refine (aumbrylaw05_own.calls _ _ l0 t159 _ ?side1 ?side2 A6.out).mono ?_); (case side1 => repeat (first | exact (Kd.C_below HR0.out HB.out) | (with_reducible refine Kd.C_alloc ?_ _) | (with_reducible refine Kd.C_drewN ?_ _) | (with_reducible refine Kd.C_drew ?_))); (case side2 => exact HC0.out); rintro e w20 ⟨v160, rfl, ho0, hb⟩; refine ⟨_, rfl, ?_⟩; have n0_ := Aside0.mk (Kd.R_lower ho0 (below_size (by repeat (first | (with_reducible first | exact HB.out | apply below_alloc | apply pw_below_drewN | apply below_drew1) | exact HB.out)))); have n1_ := Aside0.mk (below_step (by repeat (first | (with_reducible first | exact HB.out | apply below_alloc | apply pw_below_drewN | apply below_drew1) | exact HB.out)) hb); clear HB; have HO161 := n0_; have HB := n1_; clear n0_ n1_; (try clear hb); (try clear hb2); (try clear hk); (try clear hi); (try clear ho0)) | ((with_reducible refine gate_builtin (b := .append) (xs := #[.tmp 21, .tmp 23]) rfl ?_); (try (refine gate_guard (by rfl) ?_; dsimp only)); at_builtin; refine Kd.R_append k28 (w0 := w) w.heap.size rfl (.tmp 21) (.tmp 23) 23 28 (.agg #[(.string ⟨#[]⟩), (.int .i64 0)]) 24 rfl Try.underlying23 info28 rfl (by decide) (by omega) v160 t159 (⟨(⟨#[107, 101, 101, 112]⟩ : ByteArray), 0⟩ : S28) [.string (⟨#[107, 101, 101, 112]⟩ : ByteArray), .int .i64 0] (fun _ => True) (fun _ => False) rfl rfl ?aP (fun _ hk => hk.elim) ?aF ?aO ?aB ?aS ?aL ?_; (case aP => exact k28_mkM _ _ _ (⟨(⟨#[107, 101, 101, 112]⟩ : ByteArray), 0⟩ : S28)); (case aB => exact (by repeat (first | (with_reducible first | exact HB.out | apply below_alloc | apply pw_below_drewN | apply below_drew1) | exact HB.out))); (case aF => exact (fun _ _ => trivial)); (case aO => exact (by (with_reducible repeat (first | apply Kd.R_alloc | apply Kd.R_drewN | apply Kd.R_drew)); exact HO161.out)); (case aS => exact (below_size (by repeat (first | (with_reducible first | exact HB.out | apply below_alloc | apply pw_below_drewN | apply below_drew1) | exact HB.out)))); (case aL => have := LMc7.out; omega); intro v163 w21 ho hb hg hat; rw [← Ny162.out] at ho; have n0_ := Aside0.mk (hb); have n1_ := Aside0.mk (ho); clear HB; clear HO161; have HB := n0_; have HO164 := n1_; clear n0_ n1_; clear ho hb hg hat) | ((with_reducible refine gate_callee (f := 10) rfl ?_); refine goesL_ (some 26) rfl rfl Try.func10 (by kernel_rfl) rfl #[.slice A1 l1.length c1] rfl (by (try simp only [List.map_toArray, List.map_cons, List.map_nil]); first | done | rfl | (simp only [List.length_drop, List.length_take]; rfl)) ?_; (with_reducible refine (aumbrylaw05_own.calls _ _ l1 t165 _ ?side1 ?side2 A8.out).mono ?_); (case side1 => repeat (first | exact (Kd.C_below HR1.out HB.out) | (with_reducible refine Kd.C_alloc ?_ _) | (with_reducible refine Kd.C_drewN ?_ _) | (with_reducible refine Kd.C_drew ?_))); (case side2 => exact HC1.out); rintro e w22 ⟨v166, rfl, ho0, hb⟩; refine ⟨_, rfl, ?_⟩; have n0_ := Aside0.mk (Kd.R_elder' (by (with_reducible repeat (first | apply Kd.R_alloc | apply Kd.R_drewN | apply Kd.R_drew)); exact HO164.out) (Kd.R_base ho0) hb); have n1_ := Aside0.mk (Kd.R_lower (Kd.R_new' ho0 (Kd.R_lt (by (with_reducible repeat (first | apply Kd.R_alloc | apply Kd.R_drewN | apply Kd.R_drew)); exact HO164.out))) (below_size (by repeat (first | (with_reducible first | exact HB.out | apply below_alloc | apply pw_below_drewN | apply below_drew1) | exact HB.out)))); have n2_ := Aside0.mk (below_step (by repeat (first | (with_reducible first | exact HB.out | apply below_alloc | apply pw_below_drewN | apply below_drew1) | exact HB.out)) hb); clear HO164; clear HB; have HO164 := n0_; have HO167 := n1_; have HB := n2_; clear n0_ n1_ n2_; (try clear hb); (try clear hb2); (try clear hk); (try clear hi); (try clear ho0)) | ((with_reducible refine gate_builtin (b := .append) (xs := #[.tmp 26, .tmp 28]) rfl ?_); (try (refine gate_guard (by rfl) ?_; dsimp only)); at_builtin; refine Kd.R_append k28 (w0 := w) w.heap.size rfl (.tmp 26) (.tmp 28) 23 28 (.agg #[(.string ⟨#[]⟩), (.int .i64 0)]) 24 rfl Try.underlying23 info28 rfl (by decide) (by omega) v166 t165 (⟨(⟨#[107, 101, 101, 112]⟩ : ByteArray), 0⟩ : S28) [.string (⟨#[107, 101, 101, 112]⟩ : ByteArray), .int .i64 0] (fun k_ => some k_ ≠ (v163 : Value).ownBlock) (fun _ => False) rfl rfl ?aP (fun _ hk => hk.elim) ?aF ?aO ?aB ?aS ?aL ?_; (case aP => exact k28_mkM _ _ _ (⟨(⟨#[107, 101, 101, 112]⟩ : ByteArray), 0⟩ : S28)); (case aB => exact (by repeat (first | (with_reducible first | exact HB.out | apply below_alloc | apply pw_below_drewN | apply below_drew1) | exact HB.out))); (case aF => exact (fun k_ hk => Kd.fresh' (Kd.R_lt (by (with_reducible repeat (first | apply Kd.R_alloc | apply Kd.R_drewN | apply Kd.R_drew)); exact HO164.out)) k_ hk)); (case aO => exact (by (with_reducible repeat (first | apply Kd.R_alloc | apply Kd.R_drewN | apply Kd.R_drew)); exact Kd.R_mono HO167.out (fun _ hk => hk.2))); (case aS => exact (below_size (by repeat (first | (with_reducible first | exact HB.out | apply below_alloc | apply pw_below_drewN | apply below_drew1) | exact HB.out)))); (case aL => have := LMc9.out; omega); intro v169 w23 ho hb hg hat; rw [← Ny168.out] at ho; have n0_ := Aside0.mk (Kd.R_after (ok := (fun _ => True)) (by (with_reducible repeat (first | apply Kd.R_alloc | apply Kd.R_drewN | apply Kd.R_drew)); exact HO164.out) hg hat); have n1_ := Aside0.mk (hb); have n2_ := Aside0.mk (ho); clear HO164; clear HB; clear HO167; have HO164 := n0_; have HB := n1_; have HO170 := n2_; clear n0_ n1_ n2_; clear ho hb hg hat) | ((with_reducible refine gate_callee (f := 11) rfl ?_); refine goesL_ (some 31) rfl rfl Try.func11 (by kernel_rfl) rfl #[.slice A2 l2.length c2] rfl (by (try simp only [List.map_toArray, List.map_cons, List.map_nil]); first | done | rfl | (simp only [List.length_drop, List.length_take]; rfl)) ?_; (with_reducible refine (aumbryref05_Copy.calls k _ _ l2 t171 _ ?side1 ?side2 A10.out).mono ?_); (case side1 => repeat (first | exact (Kd.C_below HR2.out HB.out) | (with_reducible refine Kd.C_alloc ?_ _) | (with_reducible refine Kd.C_drewN ?_ _) | (with_reducible refine Kd.C_drew ?_))); (case side2 => exact HC2.out); rintro e w24 ⟨v172, rfl, ho0, hb⟩; refine ⟨_, rfl, ?_⟩; have n0_ := Aside0.mk (Kd.R_below (by (with_reducible repeat (first | apply Kd.R_alloc | apply Kd.R_drewN | apply Kd.R_drew)); exact HO164.out) hb); have n1_ := Aside0.mk (Kd.R_below (by (with_reducible repeat (first | apply Kd.R_alloc | apply Kd.R_drewN | apply Kd.R_drew)); exact HO170.out) hb); have n2_ := Aside0.mk (Kd.S_lower (Kd.S_new' (Kd.S_new' ho0 (Kd.R_lt (by (with_reducible repeat (first | apply Kd.R_alloc | apply Kd.R_drewN | apply Kd.R_drew)); exact HO164.out))) (Kd.R_lt (by (with_reducible repeat (first | apply Kd.R_alloc | apply Kd.R_drewN | apply Kd.R_drew)); exact HO170.out))) (below_size (by repeat (first | (with_reducible first | exact HB.out | apply below_alloc | apply pw_below_drewN | apply below_drew1) | exact HB.out)))); have n3_ := Aside0.mk (below_step (by repeat (first | (with_reducible first | exact HB.out | apply below_alloc | apply pw_below_drewN | apply below_drew1) | exact HB.out)) hb); clear HO164; clear HO170; clear HB; have HO164 := n0_; have HO170 := n1_; have HO173 := n2_; have HB := n3_; clear n0_ n1_ n2_ n3_; (try clear hb); (try clear hb2); (try clear hk); (try clear hi); (try clear ho0)))
                have n0_ := Aside0.mk (Kd.R_drew HO164.out)
                have n1_ := Aside0.mk (Kd.R_drew HO170.out)
                have n2_ := Aside0.mk (Kd.S_drew HO173.out)
                have n3_ := Aside0.mk (below_drew1 HB.out)
                clear HO164
                clear HO170
                clear HO173
                clear HB
                have HO164 := n0_
                have HO170 := n1_
                have HO173 := n2_
                have HB := n3_
                clear n0_ n1_ n2_ n3_
                obtain ⟨Ao27, co27, eo27⟩ := Kd.R_slice HO164.out
                (first | subst eo27 | (injection eo27 with f1_ f2_ f3_; have f4_ := f1_.symm; have f5_ := f3_.symm; clear f1_ f2_ f3_; subst f4_; subst f5_))
                have q26 : ((l0.length : Int) : Int) ≤ ((y162.length : Int) : Int) := of_decide_eq_true (by first | (with_reducible assumption) | assumption)
                obtain ⟨i026, hi026, _, hsz26, _⟩ := info_parts info28
                have hroom26 : y162.length ≤ co27 := (Kd.R_reads' HO164.out).2.1
                have hC26 : Kd.C k28 _ Ao27 y162.length y162 := (Kd.R_reads' HO164.out).2.2
                have hcut26 := cut_to (P := Try.prog) 23 28 .i64 Try.underlying23 hi026 Ao27 y162.length co27 (l0.length : Int) (of_decide_eq_true (by first | (with_reducible assumption) | assumption)) q26 hroom26
                have hr26 := Kd.C_take (m := ((l0.length : Int) : Int).toNat) hC26 (by omega)
                have hy26 : y174.length = ((l0.length : Int) : Int).toNat := (by rw [Ny174.out, List.length_take]; omega)
                rw [← Ny174.out] at hr26
                rw [← hy26] at hcut26
                have HR177 := Aside0.mk hr26
                have HC177 := Aside0.mk (show y174.length ≤ co27 from by omega)
                clear hr26 hC26 hroom26 hi026 hsz26
                have KY26 := Aside0.mk hy26
                clear hy26
                have KL26 := Aside0.mk (show ((l0.length : Int) : Int).toNat ≤ y162.length from by omega)
                replace q26 := eq_true q26
                obtain ⟨Ao29, co29, eo29⟩ := Kd.R_slice HO170.out
                (first | subst eo29 | (injection eo29 with f1_ f2_ f3_; have f4_ := f1_.symm; have f5_ := f3_.symm; clear f1_ f2_ f3_; subst f4_; subst f5_))
                have q28 : ((l1.length : Int) : Int) ≤ ((y168.length : Int) : Int) := of_decide_eq_true (by first | (with_reducible assumption) | assumption)
                obtain ⟨i028, hi028, _, hsz28, _⟩ := info_parts info28
                have hroom28 : y168.length ≤ co29 := (Kd.R_reads' HO170.out).2.1
                have hC28 : Kd.C k28 _ Ao29 y168.length y168 := (Kd.R_reads' HO170.out).2.2
                have hcut28 := cut_to (P := Try.prog) 23 28 .i64 Try.underlying23 hi028 Ao29 y168.length co29 (l1.length : Int) (of_decide_eq_true (by first | (with_reducible assumption) | assumption)) q28 hroom28
                have hr28 := Kd.C_take (m := ((l1.length : Int) : Int).toNat) hC28 (by omega)
                have hy28 : y178.length = ((l1.length : Int) : Int).toNat := (by rw [Ny178.out, List.length_take]; omega)
                rw [← Ny178.out] at hr28
                rw [← hy28] at hcut28
                have HR181 := Aside0.mk hr28
                have HC181 := Aside0.mk (show y178.length ≤ co29 from by omega)
                clear hr28 hC28 hroom28 hi028 hsz28
                have KY28 := Aside0.mk hy28
                clear hy28
                have KL28 := Aside0.mk (show ((l1.length : Int) : Int).toNat ≤ y168.length from by omega)
                replace q28 := eq_true q28
                refine start_ (n := 16) (S := fun w' => True) (ds := []) #[false, false, false, false, false, false, false, false, false, false, false, false, false, false, false, false] (by kernel_rfl) rfl rfl trivial (fun hHeld => ?_); refine with_tabW aumbrylaw05_MatchOwn.tab4 aumbrylaw05_MatchOwn.bits4 (fun HT_ HW_ => ?_)
                generalize w24.drew = w25 at HO164 HO170 HO173 HB HR177 HR181 hHeld ⊢
                refine pure_ (i := 0) (N := some 33) (v := ?_) (a' := ?_) #[true, false, false, false, false, false, false, false, false, false, false, false, false, false, false, false] rfl rfl (any_of HT_.out (by kernel_rfl)) (fun _ _ _ h => h) (Or.inl ⟨by rfl, ?_⟩) ?_ ?_
                rotate_left
                · intro w'
                  go_simp
                  with_reducible rfl
                rotate_left
                · simp only [Act.put, List.setIfInBounds_toArray, List.set_cons_zero, List.set_cons_succ, i64_w, i32_w]
                  rfl
                refine pure_ (i := 1) (N := some 34) (v := ?_) (a' := ?_) #[true, true, false, false, false, false, false, false, false, false, false, false, false, false, false, false] rfl rfl (any_of HT_.out (by kernel_rfl)) (fun _ _ _ h => h) (Or.inl ⟨by rfl, ?_⟩) ?_ ?_
                rotate_left
                · intro w'
                  go_simp
                  with_reducible rfl
                rotate_left
                · simp only [Act.put, List.setIfInBounds_toArray, List.set_cons_zero, List.set_cons_succ, i64_w, i32_w]
                  rfl
                refine pure_ (i := 2) (N := some 35) (v := ?_) (a' := ?_) #[true, true, true, false, false, false, false, false, false, false, false, false, false, false, false, false] rfl rfl (any_of HT_.out (by kernel_rfl)) (fun _ _ _ h => h) (Or.inl ⟨by rfl, ?_⟩) ?_ ?_
                rotate_left
                · intro w'
                  go_simp
                  with_reducible rfl
                rotate_left
                · simp only [Act.put, List.setIfInBounds_toArray, List.set_cons_zero, List.set_cons_succ, i64_w, i32_w]
                  rfl
                refine pure_ (i := 3) (N := some 36) (v := ?_) (a' := ?_) #[true, true, true, true, false, false, false, false, false, false, false, false, false, false, false, false] rfl rfl (any_of HT_.out (by kernel_rfl)) (fun _ _ _ h => h) (Or.inl ⟨by rfl, ?_⟩) ?_ ?_
                rotate_left
                · intro w'
                  go_simp
                  with_reducible rfl
                rotate_left
                · simp only [Act.put, List.setIfInBounds_toArray, List.set_cons_zero, List.set_cons_succ, i64_w, i32_w]
                  rfl
                refine pure_ (i := 4) (N := some 37) (v := ?_) (a' := ?_) #[true, true, true, true, true, false, false, false, false, false, false, false, false, false, false, false] rfl rfl (any_of HT_.out (by kernel_rfl)) (fun _ _ _ h => h) (Or.inl ⟨by rfl, ?_⟩) ?_ ?_
                rotate_left
                · intro w'
                  go_simp
                  with_reducible rfl
                rotate_left
                · simp only [Act.put, List.setIfInBounds_toArray, List.set_cons_zero, List.set_cons_succ, i64_w, i32_w]
                  rfl
                refine pure_ (i := 5) (N := some 38) (v := ?_) (a' := ?_) #[true, true, true, true, true, true, false, false, false, false, false, false, false, false, false, false] rfl rfl (any_of HT_.out (by kernel_rfl)) (fun _ _ _ h => h) (Or.inl ⟨by rfl, ?_⟩) ?_ ?_
                rotate_left
                · intro w'
                  go_simp
                  with_reducible rfl
                rotate_left
                · simp only [Act.put, List.setIfInBounds_toArray, List.set_cons_zero, List.set_cons_succ, i64_w, i32_w]
                  rfl
                refine pure_ (i := 6) (N := some 39) (v := ?_) (a' := ?_) #[true, true, true, true, true, true, true, false, false, false, false, false, false, false, false, false] rfl rfl (any_of HT_.out (by kernel_rfl)) (fun _ _ _ h => h) (Or.inl ⟨by rfl, ?_⟩) ?_ ?_
                rotate_left
                · intro w'
                  go_simp
                  with_reducible rfl
                rotate_left
                · simp only [Act.put, List.setIfInBounds_toArray, List.set_cons_zero, List.set_cons_succ, i64_w, i32_w]
                  rfl
                refine pure_ (i := 7) (N := some 40) (v := ?_) (a' := ?_) #[true, true, true, true, true, true, true, true, false, false, false, false, false, false, false, false] rfl rfl (any_of HT_.out (by kernel_rfl)) (fun _ _ _ h => h) (Or.inl ⟨by rfl, ?_⟩) ?_ ?_
                rotate_left
                · intro w'
                  go_simp
                  with_reducible rfl
                rotate_left
                · simp only [Act.put, List.setIfInBounds_toArray, List.set_cons_zero, List.set_cons_succ, i64_w, i32_w]
                  rfl
                refine one_ (i := 8) (N := some 41) #[true, true, true, true, true, true, true, true, true, false, false, false, false, false, false, false] rfl rfl (one_of HT_.out (by kernel_rfl)) (by decide) (fun K hK => ?_)
                refine goes_ Try.func12 (by kernel_rfl) rfl #[.slice Ao27 y174.length co27, .slice Ao29 y178.length co29] (by rfl) rfl rfl (by (try simp only [List.map_toArray, List.map_cons, List.map_nil]); first | done | rfl | (simp only [List.length_drop, List.length_take]; rfl)) ?_
                with_reducible refine (match_Match.calls k _ _ y174 _ _ y178 t182 t183 t184 _ ?side1 ?side2 ?side3 ?side4 A15.out).mono ?_
                (case side1 => repeat (first | exact (by repeat (first | (with_reducible exact HR177.out) | (with_reducible refine Kd.C_alloc ?_ _) | (with_reducible refine Kd.C_drewN ?_ _) | (with_reducible refine Kd.C_drew ?_) | exact HR177.out)) | (with_reducible refine Kd.C_alloc ?_ _) | (with_reducible refine Kd.C_drewN ?_ _) | (with_reducible refine Kd.C_drew ?_)))
                (case side2 => exact HC177.out)
                (case side3 => repeat (first | exact (by repeat (first | (with_reducible exact HR181.out) | (with_reducible refine Kd.C_alloc ?_ _) | (with_reducible refine Kd.C_drewN ?_ _) | (with_reducible refine Kd.C_drew ?_) | exact HR181.out)) | (with_reducible refine Kd.C_alloc ?_ _) | (with_reducible refine Kd.C_drewN ?_ _) | (with_reducible refine Kd.C_drew ?_)))
                (case side4 => exact HC181.out)
                rintro e w30 ⟨v185, rfl, ho0, hb⟩
                refine ⟨_, rfl, ?_⟩
                replace ho0 := Kd.S_mono (ok' := fun k_ => w25.heap.size ≤ k_) (Kd.S_bound ho0) (fun _ hk_ => hk_.2.1)
                replace HO173 := Aside0.mk (Kd.S_mono (Kd.S_bound HO173.out) (fun k_ hk_ => (⟨hk_.1, hk_.2.2.1⟩ : _ ∧ k_ < w25.heap.size)))
                have n0_ := Aside0.mk (Kd.R_below (by (with_reducible repeat (first | apply Kd.R_alloc | apply Kd.R_drewN | apply Kd.R_drew)); exact HO164.out) hb)
                have n1_ := Aside0.mk (Kd.R_below (by (with_reducible repeat (first | apply Kd.R_alloc | apply Kd.R_drewN | apply Kd.R_drew)); exact HO170.out) hb)
                have n2_ := Aside0.mk (Kd.S_elder' (by (with_reducible repeat (first | apply Kd.S_alloc | apply Kd.S_drewN | apply Kd.S_drew)); exact HO173.out) (Kd.S_base ho0) hb)
                have n3_ := Aside0.mk (Kd.S_lower (Kd.S_new' (Kd.S_new' (Kd.S_new' ho0 (Kd.R_lt (by (with_reducible repeat (first | apply Kd.R_alloc | apply Kd.R_drewN | apply Kd.R_drew)); exact HO164.out))) (Kd.R_lt (by (with_reducible repeat (first | apply Kd.R_alloc | apply Kd.R_drewN | apply Kd.R_drew)); exact HO170.out))) (Kd.S_lt (by (with_reducible repeat (first | apply Kd.S_alloc | apply Kd.S_drewN | apply Kd.S_drew)); exact HO173.out))) (below_size (by repeat (first | (with_reducible first | exact HB.out | apply below_alloc | apply pw_below_drewN | apply below_drew1) | exact HB.out))))
                have n4_ := Aside0.mk (Kd.C_below (by repeat (first | (with_reducible exact HR177.out) | (with_reducible refine Kd.C_alloc ?_ _) | (with_reducible refine Kd.C_drewN ?_ _) | (with_reducible refine Kd.C_drew ?_) | exact HR177.out)) hb)
                have n5_ := Aside0.mk (Kd.C_below (by repeat (first | (with_reducible exact HR181.out) | (with_reducible refine Kd.C_alloc ?_ _) | (with_reducible refine Kd.C_drewN ?_ _) | (with_reducible refine Kd.C_drew ?_) | exact HR181.out)) hb)
                have n6_ := Aside0.mk (below_step (by repeat (first | (with_reducible first | exact HB.out | apply below_alloc | apply pw_below_drewN | apply below_drew1) | exact HB.out)) hb)
                clear HO164
                clear HO170
                clear HO173
                clear HR177
                clear HR181
                clear HB
                have HO164 := n0_
                have HO170 := n1_
                have HO173 := n2_
                have HO186 := n3_
                have HR177 := n4_
                have HR181 := n5_
                have HB := n6_
                clear n0_ n1_ n2_ n3_ n4_ n5_ n6_
                (try clear hb)
                (try clear hb2)
                (try clear hk)
                (try clear hi)
                (try clear ho0)
                refine hK.out _ _ trivial (fun hHeld => ?_)
                clear hK K
                refine norm_ (a' := ?_) ?_ ?_
                rotate_left
                · show Act.put _ (some 41) _ = _
                  simp only [Act.put, List.setIfInBounds_toArray, List.set_cons_zero, List.set_cons_succ, i64_w, i32_w]
                  rfl
                refine pure_ (i := 9) (N := some 32) (v := ?_) (a' := ?_) #[true, true, true, true, true, true, true, true, true, true, false, false, false, false, false, false] rfl rfl (any_of HT_.out (by kernel_rfl)) (fun _ _ _ h => h) (Or.inl ⟨by rfl, ?_⟩) ?_ ?_
                rotate_left
                · intro w'
                  go_simp
                  with_reducible rfl
                rotate_left
                · simp only [Act.put, List.setIfInBounds_toArray, List.set_cons_zero, List.set_cons_succ, i64_w, i32_w]
                  rfl
                refine pure_ (i := 10) (N := some 42) (v := ?_) (a' := ?_) #[true, true, true, true, true, true, true, true, true, true, true, false, false, false, false, false] rfl rfl (any_of HT_.out (by kernel_rfl)) (fun _ _ _ h => h) (Or.inl ⟨by rfl, ?_⟩) ?_ ?_
                rotate_left
                · intro w'
                  go_simp
                  with_reducible rfl
                rotate_left
                · simp only [Act.put, List.setIfInBounds_toArray, List.set_cons_zero, List.set_cons_succ, i64_w, i32_w]
                  rfl
                refine pure_ (i := 11) (N := some 43) (v := ?_) (a' := ?_) #[true, true, true, true, true, true, true, true, true, true, true, true, false, false, false, false] rfl rfl (any_of HT_.out (by kernel_rfl)) (fun _ _ _ h => h) (Or.inl ⟨by rfl, ?_⟩) ?_ ?_
                rotate_left
                · intro w'
                  go_simp
                  with_reducible rfl
                rotate_left
                · simp only [Act.put, List.setIfInBounds_toArray, List.set_cons_zero, List.set_cons_succ, i64_w, i32_w]
                  rfl
                refine pure_ (i := 12) (N := some 44) (v := ?_) (a' := ?_) #[true, true, true, true, true, true, true, true, true, true, true, true, true, false, false, false] rfl rfl (any_of HT_.out (by kernel_rfl)) (fun _ _ _ h => h) (Or.inl ⟨by rfl, ?_⟩) ?_ ?_
                rotate_left
                · intro w'
                  go_simp
                  with_reducible rfl
                rotate_left
                · simp only [Act.put, List.setIfInBounds_toArray, List.set_cons_zero, List.set_cons_succ, i64_w, i32_w]
                  rfl
                refine pure_ (i := 13) (N := some 10) (v := ?_) (a' := ?_) #[true, true, true, true, true, true, true, true, true, true, true, true, true, true, false, false] rfl rfl (any_of HT_.out (by kernel_rfl)) (fun _ _ _ h => h) (Or.inl ⟨by rfl, ?_⟩) ?_ ?_
                rotate_left
                · intro w'
                  go_simp
                  with_reducible rfl
                rotate_left
                · simp only [Act.put, List.setIfInBounds_toArray, List.set_cons_zero, List.set_cons_succ, i64_w, i32_w]
                  rfl
                refine pure_ (i := 14) (N := some 11) (v := ?_) (a' := ?_) #[true, true, true, true, true, true, true, true, true, true, true, true, true, true, true, false] rfl rfl (any_of HT_.out (by kernel_rfl)) (fun _ _ _ h => h) (Or.inl ⟨by rfl, ?_⟩) ?_ ?_
                rotate_left
                · intro w'
                  go_simp
                  with_reducible rfl
                rotate_left
                · simp only [Act.put, List.setIfInBounds_toArray, List.set_cons_zero, List.set_cons_succ, i64_w, i32_w]
                  rfl
                refine pure_ (i := 15) (N := some 12) (v := ?_) (a' := ?_) #[true, true, true, true, true, true, true, true, true, true, true, true, true, true, true, true] rfl rfl (any_of HT_.out (by kernel_rfl)) (fun _ _ _ h => h) (Or.inl ⟨by rfl, ?_⟩) ?_ ?_
                rotate_left
                · intro w'
                  go_simp
                  with_reducible rfl
                rotate_left
                · simp only [Act.put, List.setIfInBounds_toArray, List.set_cons_zero, List.set_cons_succ, i64_w, i32_w]
                  rfl
                refine done_ (done_of HT_.out (by kernel_rfl)) ?_
                have q31 : ((l0.length : Int) : Int) ≤ ((y162.length : Int) : Int) := of_decide_eq_true (by first | (with_reducible assumption) | assumption)
                obtain ⟨i031, hi031, _, hsz31, _⟩ := info_parts info28
                have hroom31 : y162.length ≤ co27 := (Kd.R_reads' HO164.out).2.1
                have hC31 : Kd.C k28 _ Ao27 y162.length y162 := (Kd.R_reads' HO164.out).2.2
                have hcut31 := cut_to (P := Try.prog) 23 28 .i64 Try.underlying23 hi031 Ao27 y162.length co27 (l0.length : Int) (of_decide_eq_true (by first | (with_reducible assumption) | assumption)) q31 hroom31
                have hr31 := Kd.C_take (m := ((l0.length : Int) : Int).toNat) hC31 (by omega)
                have hy31 : y187.length = ((l0.length : Int) : Int).toNat := (by rw [Ny187.out, List.length_take]; omega)
                rw [← Ny187.out] at hr31
                rw [← hy31] at hcut31
                have HR190 := Aside0.mk hr31
                have HC190 := Aside0.mk (show y187.length ≤ co27 from by omega)
                clear hr31 hC31 hroom31 hi031 hsz31
                have KY31 := Aside0.mk hy31
                clear hy31
                have KL31 := Aside0.mk (show ((l0.length : Int) : Int).toNat ≤ y162.length from by omega)
                replace q31 := eq_true q31
                obtain ⟨Ao32, co32, eo32⟩ := Kd.S_slice HO173.out
                subst eo32
                try go_wp2_with (first | ((with_reducible refine gate_callee (f := 13) rfl ?_); refine goesL_ (some 51) rfl rfl Try.func13 (by kernel_rfl) rfl #[.slice Ao27 y174.length co27, .slice Ao32 t171.length co32] rfl (by (try simp only [List.map_toArray, List.map_cons, List.map_nil]); first | done | rfl | (simp only [List.length_drop, List.length_take]; rfl)) ?_; (with_reducible refine (match_Fill.calls k _ _ y174 _ _ t171 t191 t192 _ ?side1 ?side2 ?side3 ?side4 (show match_Fill.f k y174 t171 = some _ from by have h_ := A18.out; rw [Ny187.out] at h_; rw [Ny174.out]; exact h_)).mono ?_); (case side1 => repeat (first | exact (by repeat (first | (with_reducible exact HR177.out) | (with_reducible refine Kd.C_alloc ?_ _) | (with_reducible refine Kd.C_drewN ?_ _) | (with_reducible refine Kd.C_drew ?_) | exact HR177.out)) | (with_reducible refine Kd.C_alloc ?_ _) | (with_reducible refine Kd.C_drewN ?_ _) | (with_reducible refine Kd.C_drew ?_))); (case side2 => exact HC177.out); (case side3 => repeat (first | exact (Kd.S_reads' HO173.out).2.2 | (with_reducible refine Kd.C_alloc ?_ _) | (with_reducible refine Kd.C_drewN ?_ _) | (with_reducible refine Kd.C_drew ?_))); (case side4 => exact (Kd.S_reads' HO173.out).2.1); rintro e w33 ⟨v193, rfl, ho0, hb⟩; refine ⟨_, rfl, ?_⟩; have n0_ := Aside0.mk (Kd.R_elder' (by (with_reducible repeat (first | apply Kd.R_alloc | apply Kd.R_drewN | apply Kd.R_drew)); exact HO164.out) (Kd.R_base ho0) hb); have n1_ := Aside0.mk (Kd.R_elder' (by (with_reducible repeat (first | apply Kd.R_alloc | apply Kd.R_drewN | apply Kd.R_drew)); exact HO170.out) (Kd.R_base ho0) hb); have n2_ := Aside0.mk (Kd.S_elder' (by (with_reducible repeat (first | apply Kd.S_alloc | apply Kd.S_drewN | apply Kd.S_drew)); exact HO173.out) (Kd.R_base ho0) hb); have n3_ := Aside0.mk (Kd.S_elder' (by (with_reducible repeat (first | apply Kd.S_alloc | apply Kd.S_drewN | apply Kd.S_drew)); exact HO186.out) (Kd.R_base ho0) hb); have n4_ := Aside0.mk (Kd.R_lower (Kd.R_new' (Kd.R_new' ho0 (Kd.R_lt (by (with_reducible repeat (first | apply Kd.R_alloc | apply Kd.R_drewN | apply Kd.R_drew)); exact HO164.out))) (Kd.R_lt (by (with_reducible repeat (first | apply Kd.R_alloc | apply Kd.R_drewN | apply Kd.R_drew)); exact HO170.out))) (below_size (by repeat (first | (with_reducible first | exact HB.out | apply below_alloc | apply pw_below_drewN | apply below_drew1) | exact HB.out)))); have n5_ := Aside0.mk (Kd.C_below (by repeat (first | (with_reducible exact HR177.out) | (with_reducible refine Kd.C_alloc ?_ _) | (with_reducible refine Kd.C_drewN ?_ _) | (with_reducible refine Kd.C_drew ?_) | exact HR177.out)) hb); have n6_ := Aside0.mk (Kd.C_below (by repeat (first | (with_reducible exact HR181.out) | (with_reducible refine Kd.C_alloc ?_ _) | (with_reducible refine Kd.C_drewN ?_ _) | (with_reducible refine Kd.C_drew ?_) | exact HR181.out)) hb); have n7_ := Aside0.mk (Kd.C_below (by repeat (first | (with_reducible exact HR190.out) | (with_reducible refine Kd.C_alloc ?_ _) | (with_reducible refine Kd.C_drewN ?_ _) | (with_reducible refine Kd.C_drew ?_) | exact HR190.out)) hb); have n8_ := Aside0.mk (below_step (by repeat (first | (with_reducible first | exact HB.out | apply below_alloc | apply pw_below_drewN | apply below_drew1) | exact HB.out)) hb); clear HO164; clear HO170; clear HO173; clear HO186; clear HR177; clear HR181; clear HR190; clear HB; have HO164 := n0_; have HO170 := n1_; have HO173 := n2_; have HO186 := n3_; have HO194 := n4_; have HR177 := n5_; have HR181 := n6_; have HR190 := n7_; have HB := n8_; clear n0_ n1_ n2_ n3_ n4_ n5_ n6_ n7_ n8_; (try clear hb); (try clear hb2); (try clear hk); (try clear hi); (try clear ho0); obtain ⟨Ao34, co34, eo34⟩ := Kd.S_slice HO186.out; subst eo34))
                go_loopg [56] k (fun kq v56 w' => ∃ (x7_1 : List (S28)) (x8_1 : List (S28)) (x10_1 : List (S36)) (x13_1 : List (S28)) (x56_1 : Int), v56 = .int .i64 x56_1 ∧ Aside0 (aumbrylaw05_MatchOwn.l0 kq l0 l1 l2 x7_1 x8_1 t171 x10_1 x13_1 (t182.length : Int) x56_1 = some r) ∧ Aside0 (kq ≤ k) ∧ Aside0 (Kd.R k28 28 w' w.heap.size (fun k_ => some k_ ≠ ((.slice Ao29 y168.length co29) : Value).ownBlock ∧ some k_ ≠ (v193 : Value).ownBlock) (.slice Ao27 y162.length co27) x7_1) ∧ Aside0 (Kd.R k28 28 w' w.heap.size (fun k_ => some k_ ≠ ((.slice Ao27 y162.length co27) : Value).ownBlock ∧ some k_ ≠ (v193 : Value).ownBlock) (.slice Ao29 y168.length co29) x8_1) ∧ Aside0 (Kd.S k36 36 w' w.heap.size (fun k_ => some k_ ≠ ((.slice Ao27 y162.length co27) : Value).ownBlock ∧ some k_ ≠ ((.slice Ao29 y168.length co29) : Value).ownBlock ∧ some k_ ≠ ((.slice Ao34 t182.length co34) : Value).ownBlock ∧ some k_ ≠ (v193 : Value).ownBlock ∧ k_ < w25.heap.size) (.slice Ao32 t171.length co32) t171) ∧ Aside0 (Kd.S k36 36 w' w.heap.size (fun k_ => some k_ ≠ ((.slice Ao27 y162.length co27) : Value).ownBlock ∧ some k_ ≠ ((.slice Ao29 y168.length co29) : Value).ownBlock ∧ some k_ ≠ ((.slice Ao32 t171.length co32) : Value).ownBlock ∧ some k_ ≠ (v193 : Value).ownBlock ∧ w25.heap.size ≤ k_) (.slice Ao34 t182.length co34) x10_1) ∧ Aside0 (Kd.R k28 28 w' w.heap.size (fun k_ => some k_ ≠ ((.slice Ao27 y162.length co27) : Value).ownBlock ∧ some k_ ≠ ((.slice Ao29 y168.length co29) : Value).ownBlock) v193 x13_1) ∧ Aside0 (Below w.heap.size w w'))
                case atStart => exact ⟨(y162), (y168), (t182), (t191), (0), (by first | rfl | (simp; done) | (simp [*]; done)), H', ⟨Nat.le_refl _⟩, ⟨by (with_reducible repeat (first | apply Kd.R_alloc | apply Kd.R_drewN | apply Kd.R_drew)); exact Kd.R_mono HO164.out (fun _ hk => ⟨hk.1.2, hk.2⟩)⟩, ⟨by (with_reducible repeat (first | apply Kd.R_alloc | apply Kd.R_drewN | apply Kd.R_drew)); exact HO170.out⟩, ⟨by (with_reducible repeat (first | apply Kd.S_alloc | apply Kd.S_drewN | apply Kd.S_drew)); exact Kd.S_mono HO173.out (fun _ hk => ⟨hk.1.1.1.1.2, hk.1.1.1.2, hk.1.2, hk.2, hk.1.1.2⟩)⟩, ⟨by (with_reducible repeat (first | apply Kd.S_alloc | apply Kd.S_drewN | apply Kd.S_drew)); exact Kd.S_mono HO186.out (fun _ hk => ⟨hk.1.1.1.2, hk.1.1.2, hk.1.2, hk.2, hk.1.1.1.1⟩)⟩, ⟨by (with_reducible repeat (first | apply Kd.R_alloc | apply Kd.R_drewN | apply Kd.R_drew)); exact Kd.R_mono HO194.out (fun _ hk => ⟨hk.1.2, hk.2⟩)⟩, ⟨by repeat (first | (with_reducible first | exact HB.out | apply below_alloc | apply pw_below_drewN | apply below_drew1) | exact HB.out)⟩⟩
                case round =>
                  clear H'
                  try clear c1
                  try clear c2
                  try clear p2
                  try clear q2
                  try clear c3
                  try clear q3
                  try clear c5
                  try clear c7
                  try clear c9
                  try clear c10
                  try clear c11
                  try clear c11b0
                  try clear c11b1
                  try clear c12
                  try clear c12b0
                  try clear c12b1
                  try clear c13
                  try clear c13b0
                  try clear c13b1
                  try clear c14
                  try clear c14b0
                  try clear c14b1
                  try clear c16
                  try clear c16b0
                  try clear c17
                  try clear c17b0
                  try clear q26
                  try clear q28
                  try clear q31
                  try clear q26
                  try clear q28
                  try clear q31
                  obtain ⟨x7_1, x8_1, x10_1, x13_1, x56_1, rfl, HA, HK1, HO_7, HO_8, HO_9, HO_10, HO_13, HB⟩ := hrel
                  have hl7_1 := (Kd.R_reads' HO_7.out).1
                  rw [hl7_1] at HO_7
                  (try simp only [hl7_1])
                  (try simp only [hl7_1] at HO_8)
                  (try simp only [hl7_1] at HO_9)
                  (try simp only [hl7_1] at HO_10)
                  (try simp only [hl7_1] at HO_13)
                  have hl8_1 := (Kd.R_reads' HO_8.out).1
                  rw [hl8_1] at HO_8
                  (try simp only [hl8_1])
                  (try simp only [hl8_1] at HO_7)
                  (try simp only [hl8_1] at HO_9)
                  (try simp only [hl8_1] at HO_10)
                  (try simp only [hl8_1] at HO_13)
                  have hl10_1 := (Kd.S_reads' HO_10.out).1
                  rw [hl10_1] at HO_10
                  (try simp only [hl10_1])
                  (try simp only [hl10_1] at HO_7)
                  (try simp only [hl10_1] at HO_8)
                  (try simp only [hl10_1] at HO_9)
                  (try simp only [hl10_1] at HO_13)
                  cases gk with
                  | zero => exact absurd HA.out (by simp [aumbrylaw05_MatchOwn.l0])
                  | succ k1 =>
                    have H := HA.out
                    clear HA
                    simp only [aumbrylaw05_MatchOwn.l0] at H
                    by_cases c35 : x56_1 < (t182.length : Int)
                    · rw [if_pos c35] at H
                      have c35b0 : decide (x56_1 < (t182.length : Int)) = true := decide_eq_true c35
                      clear c35
                      by_cases c36 : 0 ≤ x56_1
                      · rw [if_pos c36] at H
                        have c36b0 : decide (0 ≤ x56_1) = true := decide_eq_true c36
                        clear c36
                        by_cases c37 : x56_1 < (x10_1.length : Int)
                        · rw [if_pos c37] at H
                          have c37b0 : decide (x56_1 < (x10_1.length : Int)) = true := decide_eq_true c37
                          clear c37
                          have H' := Aside0.mk H
                          clear H
                          have p195 : 0 ≤ (x56_1 : Int) := of_decide_eq_true (by first | (with_reducible assumption) | assumption)
                          have q195 : x56_1 < (x10_1.length : Int) := of_decide_eq_true (by first | (with_reducible assumption) | assumption)
                          obtain ⟨ad195, A195_1, c195_1, e195, hx195_0, hx195_1, hl195_1, hi195_1⟩ := at_T36 (Kd.S_reads' HO_10.out).2.2 x56_1 p195 q195
                          cases e195
                          obtain ⟨ce195, hce195, hMe195, hcc195⟩ := Kd.S_get HO_10.out z36 x56_1 p195 (by first | exact q195 | exact of_decide_eq_true (by first | (with_reducible assumption) | assumption) | (have e_ := (Kd.S_reads' HO_10.out).1; omega))
                          obtain ⟨ve195_1, rfl, ge195_1⟩ := k36_openM hMe195
                          have hv195_1 := hcc195 1 _ rfl
                          rw [add_field _ _ 1 (by omega)] at hv195_1
                          replace hv195_1 := Option.some.inj (hv195_1.symm.trans hx195_1)
                          rw [hv195_1] at ge195_1
                          have HL195_1 := Aside0.mk (show Kd.R k28 28 _ _ _ _ ((rd_T36 x10_1 x56_1).f1) from ge195_1)
                          clear hv195_1 ge195_1
                          have HX195_1 := Aside0.mk hx195_1
                          clear hcc195 hce195
                          have HR195_1 := Aside0.mk hi195_1
                          have HC195_1 := Aside0.mk hl195_1
                          clear hi195_1 hl195_1
                          replace p195 := eq_true p195
                          replace q195 := eq_true q195
                          go_wp2
                          go_loopg [65] k1 (fun kq v65 w' => ∃ (x7_2 : List (S28)) (x8_2 : List (S28)) (x10_2 : List (S36)) (x13_2 : List (S28)) (x65_2 : Int), v65 = .int .i64 x65_2 ∧ Aside0 (aumbrylaw05_MatchOwn.l1 kq l0 l1 l2 x7_2 x8_2 t171 x10_2 x13_2 x56_1 (t182.length : Int) x56_1 (((rd_T36 x10_1 x56_1).f1).length : Int) x65_2 = some r) ∧ Aside0 (kq ≤ k1) ∧ Aside0 (Kd.R k28 28 w' w.heap.size (fun k_ => some k_ ≠ ((.slice Ao29 x8_1.length co29) : Value).ownBlock ∧ some k_ ≠ (v193 : Value).ownBlock) (.slice Ao27 x7_1.length co27) x7_2) ∧ Aside0 (Kd.R k28 28 w' w.heap.size (fun k_ => some k_ ≠ ((.slice Ao27 x7_1.length co27) : Value).ownBlock ∧ some k_ ≠ (v193 : Value).ownBlock) (.slice Ao29 x8_1.length co29) x8_2) ∧ Aside0 (Kd.S k36 36 w' w.heap.size (fun k_ => some k_ ≠ ((.slice Ao27 x7_1.length co27) : Value).ownBlock ∧ some k_ ≠ ((.slice Ao29 x8_1.length co29) : Value).ownBlock ∧ some k_ ≠ ((.slice (some ad195) x10_1.length co34) : Value).ownBlock ∧ some k_ ≠ (v193 : Value).ownBlock ∧ k_ < w25.heap.size) (.slice Ao32 t171.length co32) t171) ∧ Aside0 (Kd.S k36 36 w' w.heap.size (fun k_ => some k_ ≠ ((.slice Ao27 x7_1.length co27) : Value).ownBlock ∧ some k_ ≠ ((.slice Ao29 x8_1.length co29) : Value).ownBlock ∧ some k_ ≠ ((.slice Ao32 t171.length co32) : Value).ownBlock ∧ some k_ ≠ (v193 : Value).ownBlock ∧ w25.heap.size ≤ k_) (.slice (some ad195) x10_1.length co34) x10_2) ∧ Aside0 (Kd.R k28 28 w' w.heap.size (fun k_ => some k_ ≠ ((.slice Ao27 x7_1.length co27) : Value).ownBlock ∧ some k_ ≠ ((.slice Ao29 x8_1.length co29) : Value).ownBlock) v193 x13_2) ∧ Aside0 (Below w.heap.size w w'))
                          case atStart => exact ⟨(x7_1), (x8_1), (x10_1), (x13_1), (0), (by first | rfl | (simp; done) | (simp [*]; done)), H', ⟨Nat.le_refl _⟩, ⟨by (try simp only [hl7_1]); (try simp only [hl8_1]); (try simp only [hl10_1]); (with_reducible repeat (first | apply Kd.R_alloc | apply Kd.R_drewN | apply Kd.R_drew)); exact HO_7.out⟩, ⟨by (try simp only [hl7_1]); (try simp only [hl8_1]); (try simp only [hl10_1]); (with_reducible repeat (first | apply Kd.R_alloc | apply Kd.R_drewN | apply Kd.R_drew)); exact HO_8.out⟩, ⟨by (try simp only [hl7_1]); (try simp only [hl8_1]); (try simp only [hl10_1]); (with_reducible repeat (first | apply Kd.S_alloc | apply Kd.S_drewN | apply Kd.S_drew)); exact HO_9.out⟩, ⟨by (try simp only [hl7_1]); (try simp only [hl8_1]); (try simp only [hl10_1]); (with_reducible repeat (first | apply Kd.S_alloc | apply Kd.S_drewN | apply Kd.S_drew)); exact HO_10.out⟩, ⟨by (try simp only [hl7_1]); (try simp only [hl8_1]); (try simp only [hl10_1]); (with_reducible repeat (first | apply Kd.R_alloc | apply Kd.R_drewN | apply Kd.R_drew)); exact HO_13.out⟩, ⟨by repeat (first | (with_reducible first | exact HB.out | apply below_alloc | apply pw_below_drewN | apply below_drew1) | exact HB.out)⟩⟩
                          case round =>
                            clear H'
                            try clear c1
                            try clear p1
                            try clear q1
                            try clear hx1
                            try clear c2
                            try clear p2
                            try clear q2
                            try clear c3
                            try clear q3
                            try clear c5
                            try clear c7
                            try clear c9
                            try clear c10
                            try clear c11
                            try clear c11b0
                            try clear c11b1
                            try clear c12
                            try clear c12b0
                            try clear c12b1
                            try clear c13
                            try clear c13b0
                            try clear c13b1
                            try clear c14
                            try clear c14b0
                            try clear c14b1
                            try clear c16
                            try clear c16b0
                            try clear c17
                            try clear c17b0
                            try clear c19
                            try clear p19
                            try clear q19
                            try clear hx19
                            try clear q26
                            try clear q28
                            try clear q31
                            try clear c35
                            try clear c35b0
                            try clear c36
                            try clear c36b0
                            try clear c37
                            try clear c37b0
                            try clear hx195_0
                            try clear hx195_1
                            try clear p195
                            try clear p2
                            try clear q195
                            try clear q2
                            try clear q26
                            try clear q28
                            try clear q3
                            try clear q31
                            obtain ⟨x7_2, x8_2, x10_2, x13_2, x65_2, rfl, HA, HK2, HO_7, HO_8, HO_9, HO_10, HO_13, HB⟩ := hrel
                            have hl7_2 := (Kd.R_reads' HO_7.out).1
                            rw [hl7_2] at HO_7
                            (try simp only [hl7_2])
                            (try simp only [hl7_2] at HO_8)
                            (try simp only [hl7_2] at HO_9)
                            (try simp only [hl7_2] at HO_10)
                            (try simp only [hl7_2] at HO_13)
                            have hl8_2 := (Kd.R_reads' HO_8.out).1
                            rw [hl8_2] at HO_8
                            (try simp only [hl8_2])
                            (try simp only [hl8_2] at HO_7)
                            (try simp only [hl8_2] at HO_9)
                            (try simp only [hl8_2] at HO_10)
                            (try simp only [hl8_2] at HO_13)
                            have hl10_2 := (Kd.S_reads' HO_10.out).1
                            rw [hl10_2] at HO_10
                            (try simp only [hl10_2])
                            (try simp only [hl10_2] at HO_7)
                            (try simp only [hl10_2] at HO_8)
                            (try simp only [hl10_2] at HO_9)
                            (try simp only [hl10_2] at HO_13)
                            cases gk with
                            | zero => exact absurd HA.out (by simp [aumbrylaw05_MatchOwn.l1])
                            | succ k2 =>
                              have H := HA.out
                              clear HA
                              simp only [aumbrylaw05_MatchOwn.l1] at H
                              by_cases c38 : x65_2 < (((rd_T36 x10_1 x56_1).f1).length : Int)
                              · rw [if_pos c38] at H
                                have c38b0 : decide (x65_2 < (((rd_T36 x10_1 x56_1).f1).length : Int)) = true := decide_eq_true c38
                                clear c38
                                by_cases c39 : 0 ≤ x56_1
                                · rw [if_pos c39] at H
                                  have c39b0 : decide (0 ≤ x56_1) = true := decide_eq_true c39
                                  clear c39
                                  by_cases c40 : x56_1 < (x10_2.length : Int)
                                  · rw [if_pos c40] at H
                                    have c40b0 : decide (x56_1 < (x10_2.length : Int)) = true := decide_eq_true c40
                                    clear c40
                                    by_cases c41 : 0 ≤ x65_2
                                    · rw [if_pos c41] at H
                                      have c41b0 : decide (0 ≤ x65_2) = true := decide_eq_true c41
                                      clear c41
                                      by_cases c42 : x65_2 < (((rd_T36 x10_2 x56_1).f1).length : Int)
                                      · rw [if_pos c42] at H
                                        have c42b0 : decide (x65_2 < (((rd_T36 x10_2 x56_1).f1).length : Int)) = true := decide_eq_true c42
                                        clear c42
                                        obtain ⟨y197, hy197⟩ : ∃ y_ : List (S28), y_ = (((rd_T36 x10_2 x56_1).f1).set (x65_2 : Int).toNat (⟨(⟨#[120]⟩ : ByteArray), (rd_T28 ((rd_T36 x10_2 x56_1).f1) x65_2).f1⟩ : S28)) := ⟨_, rfl⟩
                                        replace H : (aumbrylaw05_MatchOwn.l1 k2 l0 l1 l2 x7_2 x8_2 t171 (x10_2.set (x56_1 : Int).toNat (⟨(rd_T36 x10_2 x56_1).f0, y197⟩ : S36)) x13_2 x56_1 (t182.length : Int) x56_1 (((rd_T36 x10_1 x56_1).f1).length : Int) (wrap64 (x65_2 + 1))) = some r := by first | (rw [hy197]; with_reducible exact H) | (have H2_ := (Option.bind_some _ _).symm.trans H; rw [hy197]; with_reducible exact H2_) | (have H2_ := (Option.bind_some _ _).symm.trans H; with_reducible exact H2_) | with_reducible exact H | (rw [hy197]; exact H) | exact H
                                        have Ny197 := Aside0.mk hy197
                                        clear hy197
                                        obtain ⟨y199, hy199⟩ : ∃ y_ : List (S36), y_ = (x10_2.set (x56_1 : Int).toNat (⟨(rd_T36 x10_2 x56_1).f0, y197⟩ : S36)) := ⟨_, rfl⟩
                                        replace H : (aumbrylaw05_MatchOwn.l1 k2 l0 l1 l2 x7_2 x8_2 t171 y199 x13_2 x56_1 (t182.length : Int) x56_1 (((rd_T36 x10_1 x56_1).f1).length : Int) (wrap64 (x65_2 + 1))) = some r := by first | (rw [hy199]; with_reducible exact H) | (have H2_ := (Option.bind_some _ _).symm.trans H; rw [hy199]; with_reducible exact H2_) | (have H2_ := (Option.bind_some _ _).symm.trans H; with_reducible exact H2_) | with_reducible exact H | (rw [hy199]; exact H) | exact H
                                        have Ny199 := Aside0.mk hy199
                                        clear hy199
                                        have H' := Aside0.mk H
                                        clear H
                                        have p196 : 0 ≤ (x56_1 : Int) := of_decide_eq_true (by first | (with_reducible assumption) | assumption)
                                        have q196 : x56_1 < (x10_2.length : Int) := of_decide_eq_true (by first | (with_reducible assumption) | assumption)
                                        obtain ⟨ad196, A196_1, c196_1, e196, hx196_0, hx196_1, hl196_1, hi196_1⟩ := at_T36 (Kd.S_reads' HO_10.out).2.2 x56_1 p196 q196
                                        obtain rfl : ad195 = ad196 := (by injection e196)
                                        obtain ⟨ce196, hce196, hMe196, hcc196⟩ := Kd.S_get HO_10.out z36 x56_1 p196 (by first | exact q196 | exact of_decide_eq_true (by first | (with_reducible assumption) | assumption) | (have e_ := (Kd.S_reads' HO_10.out).1; omega))
                                        obtain ⟨ve196_1, rfl, ge196_1⟩ := k36_openM hMe196
                                        have hv196_1 := hcc196 1 _ rfl
                                        rw [add_field _ _ 1 (by omega)] at hv196_1
                                        replace hv196_1 := Option.some.inj (hv196_1.symm.trans hx196_1)
                                        rw [hv196_1] at ge196_1
                                        have HL196_1 := Aside0.mk (show Kd.R k28 28 _ _ _ _ ((rd_T36 x10_2 x56_1).f1) from ge196_1)
                                        clear hv196_1 ge196_1
                                        have HX196_1 := Aside0.mk hx196_1
                                        clear hcc196 hce196
                                        have HR196_1 := Aside0.mk hi196_1
                                        have HC196_1 := Aside0.mk hl196_1
                                        clear hi196_1 hl196_1
                                        replace p196 := eq_true p196
                                        replace q196 := eq_true q196
                                        have p43 : 0 ≤ (x65_2 : Int) := of_decide_eq_true (by first | (with_reducible assumption) | assumption)
                                        have q43 : (x65_2 : Int) < ((((rd_T36 x10_2 x56_1).f1).length : Int) : Int) := of_decide_eq_true (by first | (with_reducible assumption) | assumption)
                                        obtain ⟨go43, co43, eo43, gb43, gl43, cl43, HG43⟩ := Kd.R_form HL196_1.out (by omega)
                                        (first | cases eo43 | (injection eo43 with ea_ en_ ec_; (first | subst ea_ | (injection ea_ with ea_; subst ea_)); subst ec_; clear en_))
                                        have GB43 := Aside0.mk gb43
                                        have GG43 := Aside0.mk HG43
                                        clear gb43 gl43 HG43
                                        obtain ⟨ce43, hcl43, hM43, hcc43, hfr43⟩ := Kd.R_elem HL196_1.out z28 (x65_2 : Int) p43 q43
                                        obtain rfl := k28_openM hM43
                                        have hx43_0 : wr.cell? ⟨go43, (x65_2 : Int).toNat * 2, none⟩ = some (.string ((rd_T28 ((rd_T36 x10_2 x56_1).f1) x65_2).f0)) := hcc43 0 _ rfl
                                        have hx43_1 : wr.cell? ⟨go43, (x65_2 : Int).toNat * 2 + 1, none⟩ = some (.int .i64 ((rd_T28 ((rd_T36 x10_2 x56_1).f1) x65_2).f1)) := hcc43 1 _ rfl
                                        have hf43_0 : wr.frozen? ⟨go43, (x65_2 : Int).toNat * 2, none⟩ = false := hfr43 0
                                        have hf43_1 : wr.frozen? ⟨go43, (x65_2 : Int).toNat * 2 + 1, none⟩ = false := hfr43 1
                                        clear hcl43 hcc43 hfr43 hM43
                                        replace p43 := eq_true p43
                                        replace q43 := eq_true q43
                                        have hq44 : (x56_1 : Int) < (x10_2.length : Int) := (by have h_ : (x56_1 : Int) < ((x10_2.length : Int) : Int) := of_decide_eq_true (by first | (with_reducible assumption) | assumption); first | exact h_ | (have e_ := (Kd.S_reads' HO_10.out).1; omega) | simpa only [List.length_set, List.length_set] using h_)
                                        obtain ⟨oki44, ce44, hcl44, hM44, hcc44, hok44, hbk44⟩ := Kd.S_borrow HO_10.out z36 (x56_1 : Int) (of_decide_eq_true (by first | (with_reducible assumption) | assumption)) hq44
                                        obtain ⟨ve44_1, rfl, ge44_1⟩ := k36_openM hM44
                                        have hv44 := hcc44 1 _ rfl
                                        rw [add_field _ _ 1 (by omega)] at hv44
                                        replace hv44 := Option.some.inj (hv44.symm.trans HX196_1.out)
                                        subst hv44
                                        clear hcc44 hcl44
                                        replace ge44_1 := (show Kd.R k28 28 _ _ _ _ ((rd_T36 x10_2 x56_1).f1) from ge44_1)
                                        obtain ⟨cf44, hcl44, hN44, hcc44, hfr44⟩ := Kd.R_elem ge44_1 z28 (x65_2 : Int) (of_decide_eq_true (by first | (with_reducible assumption) | assumption)) (by have h_ : (x65_2 : Int) < ((((rd_T36 x10_2 x56_1).f1).length : Int) : Int) := of_decide_eq_true (by first | (with_reducible assumption) | assumption); first | exact h_ | (have e_ := (Kd.R_reads' HR196_1.out).1; omega) | simpa using h_)
                                        obtain rfl := k28_openM hN44
                                        have HP44 := Kd.R_seg ge44_1 (x65_2 : Int) (of_decide_eq_true (by first | (with_reducible assumption) | assumption)) (by have h_ : (x65_2 : Int) < ((((rd_T36 x10_2 x56_1).f1).length : Int) : Int) := of_decide_eq_true (by first | (with_reducible assumption) | assumption); first | exact h_ | (have e_ := (Kd.R_reads' HR196_1.out).1; omega) | simpa using h_) (seg := [.string (⟨#[120]⟩ : ByteArray)]) (j := 0) hcl44 hcc44 (show 1 ≤ 2 from by decide) (x' := (⟨(⟨#[120]⟩ : ByteArray), (rd_T28 ((rd_T36 x10_2 x56_1).f1) x65_2).f1⟩ : S28)) (k28_mkM _ _ _ (⟨(⟨#[120]⟩ : ByteArray), (rd_T28 ((rd_T36 x10_2 x56_1).f1) x65_2).f1⟩ : S28)) (fun _ hk => hk)
                                        clear hcl44 hcc44 hfr44 hN44
                                        go_wp2_with (first | ((with_reducible refine gate_store (t := 9) (p := 75) rfl ?_); refine store_event (t := 9) (p := 75) (v := ?vo_w45) (w1 := (wr.setCell ⟨go43, (x65_2 : Int).toNat * 2, none⟩ (.string (⟨#[120]⟩ : ByteArray)))) ?hg ?ho ?hn ?hr ?_; (case ho => rfl); (case hg => rfl); (case hn => rfl); (case hr => first | (go_simp; done) | (go_simp; rfl)); intro w45 hw; have hg : wr.grownBy w45 (some go43) := (by rw [hw]; exact HP44.2); have hz_ : Kd.R k28 28 w45 w.heap.size oki44 (.slice (some ⟨go43, 0, none⟩) ((rd_T36 x10_2 x56_1).f1).length c196_1) y197 := (by rw [hw, Ny197.out]; exact HP44.1); have hp_ : Kd.S k36 36 w45 w.heap.size (fun k_ => some k_ ≠ (.slice Ao27 x7_2.length co27 : Value).ownBlock ∧ some k_ ≠ (.slice Ao29 x8_2.length co29 : Value).ownBlock ∧ some k_ ≠ (.slice Ao32 t171.length co32 : Value).ownBlock ∧ some k_ ≠ (v193 : Value).ownBlock ∧ w25.heap.size ≤ k_) (.slice (some ad195) x10_2.length co34) y199 := (by rw [Ny199.out]; exact hbk44 hg (fun k_ e_ => by injection e_ with e_; subst e_; exact ge44_1.1 _ rfl) (k36_mkM _ _ _ (⟨(rd_T36 x10_2 x56_1).f0, y197⟩ : S36) hz_)); have hm_ := Kd.R_mono hz_ hok44; clear HP44 hbk44; have n0_ := Aside0.mk (Kd.R_grown1 (by (with_reducible repeat (first | apply Kd.R_alloc | apply Kd.R_drewN | apply Kd.R_drew)); exact HO_7.out) rfl hg ((HL196_1.out.1 _ rfl).1.1)); have n1_ := Aside0.mk (Kd.R_grown1 (by (with_reducible repeat (first | apply Kd.R_alloc | apply Kd.R_drewN | apply Kd.R_drew)); exact HO_8.out) rfl hg ((HL196_1.out.1 _ rfl).1.2.1)); have n2_ := Aside0.mk (Kd.S_grown (by (with_reducible repeat (first | apply Kd.S_alloc | apply Kd.S_drewN | apply Kd.S_drew)); exact HO_9.out) hg (fun k_ hk_ e_ => by have e2_ : k_ = go43 := Option.some.inj e_; have h1_ : w25.heap.size ≤ go43 := (HL196_1.out.1 _ rfl).1.2.2.2.2; have h2_ : k_ < w25.heap.size := hk_.2.2.2.2; omega)); have n3_ := Aside0.mk (hp_); have n4_ := Aside0.mk (Kd.R_grown1 (by (with_reducible repeat (first | apply Kd.R_alloc | apply Kd.R_drewN | apply Kd.R_drew)); exact HO_13.out) rfl hg ((HL196_1.out.1 _ rfl).1.2.2.2.1)); have n5_ := Aside0.mk ((by rw [hw]; exact below_set (HB.out) GB43.out : Below w.heap.size w w45)); have n6_ := Aside0.mk (hm_); have n7_ := Aside0.mk ((Kd.R_reads' hm_).2.1); clear HO_7; clear HO_8; clear HO_9; clear HO_10; clear HO_13; clear HB; clear HL196_1; have HO_7 := n0_; have HO_8 := n1_; have HO_9 := n2_; have HO_10 := n3_; have HO_13 := n4_; have HB := n5_; have HL214 := n6_; have HC198 := n7_; clear n0_ n1_ n2_ n3_ n4_ n5_ n6_ n7_; clear hg hw hp_ hz_ hm_ hok44))
                                        (try simp only [← hl7_2, ← hl8_2, ← hl10_2])
                                        go_roundg k2
                                        case measure => have := HK1.out; have := HK2.out; omega
                                        case rel => exact ⟨(x7_2), (x8_2), (y199), (x13_2), (wrap64 (x65_2 + 1)), (by first | rfl | (simp; done) | (simp [*]; done)), H', ⟨by have := HK1.out; have := HK2.out; omega⟩, ⟨by (try simp only [hl7_1]); (try simp only [hl8_1]); (try simp only [hl10_1]); (try simp only [hl7_2]); (try simp only [hl8_2]); (try simp only [hl10_2]); (with_reducible repeat (first | apply Kd.R_alloc | apply Kd.R_drewN | apply Kd.R_drew)); exact HO_7.out⟩, ⟨by (try simp only [hl7_1]); (try simp only [hl8_1]); (try simp only [hl10_1]); (try simp only [hl7_2]); (try simp only [hl8_2]); (try simp only [hl10_2]); (with_reducible repeat (first | apply Kd.R_alloc | apply Kd.R_drewN | apply Kd.R_drew)); exact HO_8.out⟩, ⟨by (try simp only [hl7_1]); (try simp only [hl8_1]); (try simp only [hl10_1]); (try simp only [hl7_2]); (try simp only [hl8_2]); (try simp only [hl10_2]); (with_reducible repeat (first | apply Kd.S_alloc | apply Kd.S_drewN | apply Kd.S_drew)); exact HO_9.out⟩, ⟨by (try simp only [hl7_1]); (try simp only [hl8_1]); (try simp only [hl10_1]); (try simp only [hl7_2]); (try simp only [hl8_2]); (try simp only [hl10_2]); (with_reducible repeat (first | apply Kd.S_alloc | apply Kd.S_drewN | apply Kd.S_drew)); exact HO_10.out⟩, ⟨by (try simp only [hl7_1]); (try simp only [hl8_1]); (try simp only [hl10_1]); (try simp only [hl7_2]); (try simp only [hl8_2]); (try simp only [hl10_2]); (with_reducible repeat (first | apply Kd.R_alloc | apply Kd.R_drewN | apply Kd.R_drew)); exact HO_13.out⟩, ⟨by repeat (first | (with_reducible first | exact HB.out | apply below_alloc | apply pw_below_drewN | apply below_drew1) | exact HB.out)⟩⟩
                                      · rw [if_neg c42] at H
                                        exact absurd H (by simp)
                                    · rw [if_neg c41] at H
                                      exact absurd H (by simp)
                                  · rw [if_neg c40] at H
                                    exact absurd H (by simp)
                                · rw [if_neg c39] at H
                                  exact absurd H (by simp)
                              · rw [if_neg c38] at H
                                have c38b0 : decide (x65_2 < (((rd_T36 x10_1 x56_1).f1).length : Int)) = false := decide_eq_false c38
                                clear c38
                                have H' := Aside0.mk H
                                clear H
                                go_wp2
                                (try simp only [← hl7_1, ← hl8_1, ← hl10_1, ← hl7_2, ← hl8_2, ← hl10_2])
                                go_roundg k2
                                case measure => have := HK1.out; have := HK2.out; omega
                                case rel => exact ⟨(x7_2), (x8_2), (x10_2), (x13_2), (wrap64 (x56_1 + 1)), (by first | rfl | (simp; done) | (simp [*]; done)), H', ⟨by have := HK1.out; have := HK2.out; omega⟩, ⟨by (try simp only [hl7_1]); (try simp only [hl8_1]); (try simp only [hl10_1]); (try simp only [hl7_2]); (try simp only [hl8_2]); (try simp only [hl10_2]); (with_reducible repeat (first | apply Kd.R_alloc | apply Kd.R_drewN | apply Kd.R_drew)); exact HO_7.out⟩, ⟨by (try simp only [hl7_1]); (try simp only [hl8_1]); (try simp only [hl10_1]); (try simp only [hl7_2]); (try simp only [hl8_2]); (try simp only [hl10_2]); (with_reducible repeat (first | apply Kd.R_alloc | apply Kd.R_drewN | apply Kd.R_drew)); exact HO_8.out⟩, ⟨by (try simp only [hl7_1]); (try simp only [hl8_1]); (try simp only [hl10_1]); (try simp only [hl7_2]); (try simp only [hl8_2]); (try simp only [hl10_2]); (with_reducible repeat (first | apply Kd.S_alloc | apply Kd.S_drewN | apply Kd.S_drew)); exact HO_9.out⟩, ⟨by (try simp only [hl7_1]); (try simp only [hl8_1]); (try simp only [hl10_1]); (try simp only [hl7_2]); (try simp only [hl8_2]); (try simp only [hl10_2]); (with_reducible repeat (first | apply Kd.S_alloc | apply Kd.S_drewN | apply Kd.S_drew)); exact HO_10.out⟩, ⟨by (try simp only [hl7_1]); (try simp only [hl8_1]); (try simp only [hl10_1]); (try simp only [hl7_2]); (try simp only [hl8_2]); (try simp only [hl10_2]); (with_reducible repeat (first | apply Kd.R_alloc | apply Kd.R_drewN | apply Kd.R_drew)); exact HO_13.out⟩, ⟨by repeat (first | (with_reducible first | exact HB.out | apply below_alloc | apply pw_below_drewN | apply below_drew1) | exact HB.out)⟩⟩
                        · rw [if_neg c37] at H
                          exact absurd H (by simp)
                      · rw [if_neg c36] at H
                        exact absurd H (by simp)
                    · rw [if_neg c35] at H
                      have c35b0 : decide (x56_1 < (t182.length : Int)) = false := decide_eq_false c35
                      have c35b1 : decide (x56_1 < (x10_1.length : Int)) = false := (by rw [← hl10_1]; exact c35b0)
                      clear c35
                      have H' := Aside0.mk H
                      clear H
                      obtain ⟨Ao46, co46, eo46⟩ := Kd.R_slice HO_13.out
                      subst eo46
                      go_wp2
                      go_loopg [80] k1 (fun kq v80 w' => ∃ (x13_2 : List (S28)) (x80_2 : Int), v80 = .int .i64 x80_2 ∧ Aside0 (aumbrylaw05_MatchOwn.l2 kq l0 l1 l2 x7_1 x8_1 t171 x13_2 (x13_1.length : Int) x80_2 = some r) ∧ Aside0 (kq ≤ k1) ∧ Aside0 (Kd.R k28 28 w' w.heap.size (fun k_ => some k_ ≠ ((.slice Ao29 x8_1.length co29) : Value).ownBlock ∧ some k_ ≠ ((.slice Ao46 x13_1.length co46) : Value).ownBlock) (.slice Ao27 x7_1.length co27) x7_1) ∧ Aside0 (Kd.R k28 28 w' w.heap.size (fun k_ => some k_ ≠ ((.slice Ao27 x7_1.length co27) : Value).ownBlock ∧ some k_ ≠ ((.slice Ao46 x13_1.length co46) : Value).ownBlock) (.slice Ao29 x8_1.length co29) x8_1) ∧ Aside0 (Kd.S k36 36 w' w.heap.size (fun k_ => some k_ ≠ ((.slice Ao27 x7_1.length co27) : Value).ownBlock ∧ some k_ ≠ ((.slice Ao29 x8_1.length co29) : Value).ownBlock ∧ some k_ ≠ ((.slice Ao46 x13_1.length co46) : Value).ownBlock) (.slice Ao32 t171.length co32) t171) ∧ Aside0 (Kd.R k28 28 w' w.heap.size (fun k_ => some k_ ≠ ((.slice Ao27 x7_1.length co27) : Value).ownBlock ∧ some k_ ≠ ((.slice Ao29 x8_1.length co29) : Value).ownBlock) (.slice Ao46 x13_1.length co46) x13_2) ∧ Aside0 (Below w.heap.size w w'))
                      case atStart => exact ⟨(x13_1), (0), (by first | rfl | (simp; done) | (simp [*]; done)), H', ⟨Nat.le_refl _⟩, ⟨by (try simp only [hl7_1]); (try simp only [hl8_1]); (try simp only [hl10_1]); (with_reducible repeat (first | apply Kd.R_alloc | apply Kd.R_drewN | apply Kd.R_drew)); exact HO_7.out⟩, ⟨by (try simp only [hl7_1]); (try simp only [hl8_1]); (try simp only [hl10_1]); (with_reducible repeat (first | apply Kd.R_alloc | apply Kd.R_drewN | apply Kd.R_drew)); exact HO_8.out⟩, ⟨by (try simp only [hl7_1]); (try simp only [hl8_1]); (try simp only [hl10_1]); (with_reducible repeat (first | apply Kd.S_alloc | apply Kd.S_drewN | apply Kd.S_drew)); exact Kd.S_mono HO_9.out (fun _ hk => ⟨hk.1, ⟨hk.2.1, hk.2.2.2.1⟩⟩)⟩, ⟨by (try simp only [hl7_1]); (try simp only [hl8_1]); (try simp only [hl10_1]); (with_reducible repeat (first | apply Kd.R_alloc | apply Kd.R_drewN | apply Kd.R_drew)); exact HO_13.out⟩, ⟨by repeat (first | (with_reducible first | exact HB.out | apply below_alloc | apply pw_below_drewN | apply below_drew1) | exact HB.out)⟩⟩
                      case round =>
                        clear H'
                        try clear c1
                        try clear p1
                        try clear q1
                        try clear hx1
                        try clear c2
                        try clear p2
                        try clear q2
                        try clear c3
                        try clear q3
                        try clear c4
                        try clear p4
                        try clear q4
                        try clear hx4
                        try clear hf4
                        try clear c5
                        try clear p6
                        try clear c7
                        try clear c9
                        try clear c10
                        try clear c11
                        try clear c11b0
                        try clear c11b1
                        try clear c12
                        try clear c12b0
                        try clear c12b1
                        try clear c13
                        try clear c13b0
                        try clear c13b1
                        try clear c14
                        try clear c14b0
                        try clear c14b1
                        try clear c16
                        try clear c16b0
                        try clear c17
                        try clear c17b0
                        try clear c19
                        try clear p19
                        try clear q19
                        try clear hx19
                        try clear q26
                        try clear q28
                        try clear q31
                        try clear c35
                        try clear c35b0
                        try clear c36
                        try clear c36b0
                        try clear c37
                        try clear c37b0
                        try clear c38
                        try clear c38b0
                        try clear c39
                        try clear c39b0
                        try clear c40
                        try clear c40b0
                        try clear c41
                        try clear c41b0
                        try clear c42
                        try clear c42b0
                        try clear c43
                        try clear p43
                        try clear q43
                        try clear hx43
                        try clear hf43
                        try clear c44
                        try clear q44
                        try clear hx195_0
                        try clear hx195_1
                        try clear hx196_0
                        try clear hx196_1
                        try clear hx43_0
                        try clear hx43_1
                        try clear p1
                        try clear p19
                        try clear p195
                        try clear p196
                        try clear p2
                        try clear p43
                        try clear q1
                        try clear q19
                        try clear q195
                        try clear q196
                        try clear q2
                        try clear q26
                        try clear q28
                        try clear q3
                        try clear q31
                        try clear q43
                        obtain ⟨x13_2, x80_2, rfl, HA, HK2, HO_7, HO_8, HO_9, HO_13, HB⟩ := hrel
                        have hl13_2 := (Kd.R_reads' HO_13.out).1
                        rw [hl13_2] at HO_13
                        (try simp only [hl13_2])
                        (try simp only [hl13_2] at HO_7)
                        (try simp only [hl13_2] at HO_8)
                        (try simp only [hl13_2] at HO_9)
                        cases gk with
                        | zero => exact absurd HA.out (by simp [aumbrylaw05_MatchOwn.l2])
                        | succ k2 =>
                          have H := HA.out
                          clear HA
                          simp only [aumbrylaw05_MatchOwn.l2] at H
                          by_cases c47 : x80_2 < (x13_1.length : Int)
                          · rw [if_pos c47] at H
                            have c47b0 : decide (x80_2 < (x13_1.length : Int)) = true := decide_eq_true c47
                            clear c47
                            by_cases c48 : 0 ≤ x80_2
                            · rw [if_pos c48] at H
                              have c48b0 : decide (0 ≤ x80_2) = true := decide_eq_true c48
                              clear c48
                              by_cases c49 : x80_2 < (x13_2.length : Int)
                              · rw [if_pos c49] at H
                                have c49b0 : decide (x80_2 < (x13_2.length : Int)) = true := decide_eq_true c49
                                clear c49
                                obtain ⟨y200, hy200⟩ : ∃ y_ : List (S28), y_ = (x13_2.set (x80_2 : Int).toNat (⟨(⟨#[120]⟩ : ByteArray), (rd_T28 x13_2 x80_2).f1⟩ : S28)) := ⟨_, rfl⟩
                                replace H : (aumbrylaw05_MatchOwn.l2 k2 l0 l1 l2 x7_1 x8_1 t171 y200 (x13_1.length : Int) (wrap64 (x80_2 + 1))) = some r := by first | (rw [hy200]; with_reducible exact H) | (have H2_ := (Option.bind_some _ _).symm.trans H; rw [hy200]; with_reducible exact H2_) | (have H2_ := (Option.bind_some _ _).symm.trans H; with_reducible exact H2_) | with_reducible exact H | (rw [hy200]; exact H) | exact H
                                have Ny200 := Aside0.mk hy200
                                clear hy200
                                have H' := Aside0.mk H
                                clear H
                                have p50 : 0 ≤ (x80_2 : Int) := of_decide_eq_true (by first | (with_reducible assumption) | assumption)
                                have q50 : (x80_2 : Int) < ((x13_2.length : Int) : Int) := of_decide_eq_true (by first | (with_reducible assumption) | assumption)
                                obtain ⟨go50, co50, eo50, gb50, gl50, cl50, HG50⟩ := Kd.R_form HO_13.out (by omega)
                                (first | cases eo50 | (injection eo50 with ea_ en_ ec_; (first | subst ea_ | (injection ea_ with ea_; subst ea_)); subst ec_; clear en_))
                                have GB50 := Aside0.mk gb50
                                have GG50 := Aside0.mk HG50
                                clear gb50 gl50 HG50
                                obtain ⟨ce50, hcl50, hM50, hcc50, hfr50⟩ := Kd.R_elem HO_13.out z28 (x80_2 : Int) p50 q50
                                obtain rfl := k28_openM hM50
                                have hx50_0 : wr.cell? ⟨go50, (x80_2 : Int).toNat * 2, none⟩ = some (.string ((rd_T28 x13_2 x80_2).f0)) := hcc50 0 _ rfl
                                have hx50_1 : wr.cell? ⟨go50, (x80_2 : Int).toNat * 2 + 1, none⟩ = some (.int .i64 ((rd_T28 x13_2 x80_2).f1)) := hcc50 1 _ rfl
                                have hf50_0 : wr.frozen? ⟨go50, (x80_2 : Int).toNat * 2, none⟩ = false := hfr50 0
                                have hf50_1 : wr.frozen? ⟨go50, (x80_2 : Int).toNat * 2 + 1, none⟩ = false := hfr50 1
                                clear hcl50 hcc50 hfr50 hM50
                                replace p50 := eq_true p50
                                replace q50 := eq_true q50
                                have HX51 := Aside0.mk (show Kd.R k28 28 wr w.heap.size (fun k_ => some k_ ≠ (.slice Ao27 x7_1.length co27 : Value).ownBlock ∧ some k_ ≠ (.slice Ao29 x8_1.length co29 : Value).ownBlock) (.slice (some ⟨go50, 0, none⟩) x13_2.length co46) x13_2 from (by (with_reducible repeat (first | apply Kd.R_alloc | apply Kd.R_drewN | apply Kd.R_drew)); exact HO_13.out))
                                obtain ⟨ce51, hcl51, hM51, hcc51, hfr51⟩ := Kd.R_elem HX51.out z28 (x80_2 : Int) (of_decide_eq_true (by first | (with_reducible assumption) | assumption)) (by have h_ : (x80_2 : Int) < ((x13_2.length : Int) : Int) := of_decide_eq_true (by first | (with_reducible assumption) | assumption); first | exact h_ | (have e_ := (Kd.R_reads' HO_13.out).1; omega) | simpa using h_)
                                obtain rfl := k28_openM hM51
                                have HP51 := Kd.R_seg HX51.out (x80_2 : Int) (of_decide_eq_true (by first | (with_reducible assumption) | assumption)) (by have h_ : (x80_2 : Int) < ((x13_2.length : Int) : Int) := of_decide_eq_true (by first | (with_reducible assumption) | assumption); first | exact h_ | (have e_ := (Kd.R_reads' HO_13.out).1; omega) | simpa using h_) (seg := [.string (⟨#[120]⟩ : ByteArray)]) (j := 0) hcl51 hcc51 (show 1 ≤ 2 from by decide) (x' := (⟨(⟨#[120]⟩ : ByteArray), (rd_T28 x13_2 x80_2).f1⟩ : S28)) (k28_mkM _ _ _ (⟨(⟨#[120]⟩ : ByteArray), (rd_T28 x13_2 x80_2).f1⟩ : S28) ) (fun _ hk => hk)
                                have hx51_0 := hcc51 0 _ rfl
                                (try simp only [show (k28).sz = 2 from rfl, Nat.mul_one, Nat.add_zero] at hx51_0)
                                have hf51_0 := hfr51 0
                                (try simp only [show (k28).sz = 2 from rfl, Nat.mul_one, Nat.add_zero] at hf51_0)
                                clear hcl51 hcc51 hfr51 hM51
                                go_wp2_with (first | ((with_reducible refine gate_store (t := 9) (p := 86) rfl ?_); refine store_event (t := 9) (p := 86) (v := ?vo_w52) (w1 := (wr.setCell ⟨go50, (x80_2 : Int).toNat * 2, none⟩ (.string (⟨#[120]⟩ : ByteArray)))) ?hg ?ho ?hn ?hr ?_; (case ho => rfl); (case hg => rfl); (case hn => rfl); (case hr => first | (go_simp; done) | (go_simp; rfl)); intro w52 hw; have hg : wr.grownBy w52 (some go50) := (by rw [hw]; exact HP51.2); have hp_ : Kd.R k28 28 w52 w.heap.size (fun k_ => some k_ ≠ (.slice Ao27 x7_1.length co27 : Value).ownBlock ∧ some k_ ≠ (.slice Ao29 x8_1.length co29 : Value).ownBlock) (.slice (some ⟨go50, 0, none⟩) x13_2.length co46) y200 := (by rw [hw, Ny200.out]; exact HP51.1); clear HP51; have n0_ := Aside0.mk (Kd.R_after (v := (.slice (some ⟨go50, 0, none⟩) x13_2.length co46)) (v1 := (.slice (some ⟨go50, 0, none⟩) x13_2.length co46)) (ok := (fun k_ => some k_ ≠ (.slice Ao29 x8_1.length co29 : Value).ownBlock)) (by (with_reducible repeat (first | apply Kd.R_alloc | apply Kd.R_drewN | apply Kd.R_drew)); exact HO_7.out) hg (.inl rfl)); have n1_ := Aside0.mk (Kd.R_after (v := (.slice (some ⟨go50, 0, none⟩) x13_2.length co46)) (v1 := (.slice (some ⟨go50, 0, none⟩) x13_2.length co46)) (ok := (fun k_ => some k_ ≠ (.slice Ao27 x7_1.length co27 : Value).ownBlock)) (by (with_reducible repeat (first | apply Kd.R_alloc | apply Kd.R_drewN | apply Kd.R_drew)); exact HO_8.out) hg (.inl rfl)); have n2_ := Aside0.mk (Kd.S_after (v := (.slice (some ⟨go50, 0, none⟩) x13_2.length co46)) (v1 := (.slice (some ⟨go50, 0, none⟩) x13_2.length co46)) (ok := (fun k_ => some k_ ≠ (.slice Ao27 x7_1.length co27 : Value).ownBlock ∧ some k_ ≠ (.slice Ao29 x8_1.length co29 : Value).ownBlock)) (by (with_reducible repeat (first | apply Kd.S_alloc | apply Kd.S_drewN | apply Kd.S_drew)); exact Kd.S_mono HO_9.out (fun _ hk => ⟨⟨hk.1, hk.2.1⟩, hk.2.2⟩)) hg (.inl rfl)); have n3_ := Aside0.mk (hp_); have n4_ := Aside0.mk ((by rw [hw]; exact below_set (HB.out) GB50.out : Below w.heap.size w w52)); clear HO_7; clear HO_8; clear HO_9; clear HO_13; clear HB; have HO_7 := n0_; have HO_8 := n1_; have HO_9 := n2_; have HO_13 := n3_; have HB := n4_; clear n0_ n1_ n2_ n3_ n4_; clear hg hw hp_))
                                (try simp only [← hl13_2])
                                go_roundg k2
                                case measure => have := HK1.out; have := HK2.out; omega
                                case rel => exact ⟨(y200), (wrap64 (x80_2 + 1)), (by first | rfl | (simp; done) | (simp [*]; done)), H', ⟨by have := HK1.out; have := HK2.out; omega⟩, ⟨by (try simp only [hl7_1]); (try simp only [hl8_1]); (try simp only [hl10_1]); (try simp only [hl13_2]); (with_reducible repeat (first | apply Kd.R_alloc | apply Kd.R_drewN | apply Kd.R_drew)); exact HO_7.out⟩, ⟨by (try simp only [hl7_1]); (try simp only [hl8_1]); (try simp only [hl10_1]); (try simp only [hl13_2]); (with_reducible repeat (first | apply Kd.R_alloc | apply Kd.R_drewN | apply Kd.R_drew)); exact HO_8.out⟩, ⟨by (try simp only [hl7_1]); (try simp only [hl8_1]); (try simp only [hl10_1]); (try simp only [hl13_2]); (with_reducible repeat (first | apply Kd.S_alloc | apply Kd.S_drewN | apply Kd.S_drew)); exact Kd.S_mono HO_9.out (fun _ hk => ⟨hk.1.1, ⟨hk.1.2, hk.2⟩⟩)⟩, ⟨by (try simp only [hl7_1]); (try simp only [hl8_1]); (try simp only [hl10_1]); (try simp only [hl13_2]); (with_reducible repeat (first | apply Kd.R_alloc | apply Kd.R_drewN | apply Kd.R_drew)); exact HO_13.out⟩, ⟨by repeat (first | (with_reducible first | exact HB.out | apply below_alloc | apply pw_below_drewN | apply below_drew1) | exact HB.out)⟩⟩
                              · rw [if_neg c49] at H
                                exact absurd H (by simp)
                            · rw [if_neg c48] at H
                              exact absurd H (by simp)
                          · rw [if_neg c47] at H
                            have c47b0 : decide (x80_2 < (x13_1.length : Int)) = false := decide_eq_false c47
                            have c47b1 : decide (x80_2 < (x13_2.length : Int)) = false := (by rw [← hl13_2]; exact c47b0)
                            clear c47
                            by_cases c53 : 0 ≤ (l0.length : Int)
                            · rw [if_pos c53] at H
                              have c53b0 : decide (0 ≤ (l0.length : Int)) = true := decide_eq_true c53
                              have c53b1 : decide (0 ≤ l0.length) = true := decide_eq_true (by omega)
                              clear c53
                              by_cases c54 : (l0.length : Int) < (x7_1.length : Int)
                              · rw [if_pos c54] at H
                                have c54b0 : decide ((l0.length : Int) < (x7_1.length : Int)) = true := decide_eq_true c54
                                have c54b1 : decide (l0.length < x7_1.length) = true := decide_eq_true (Int.ofNat_lt.mp c54)
                                clear c54
                                by_cases c55 : ((rd_T28 x7_1 (l0.length : Int)).f0).toList = ([107, 101, 101, 112] : List UInt8)
                                · rw [if_pos c55] at H
                                  have c55b0 : (((rd_T28 x7_1 (l0.length : Int)).f0).toList == ([107, 101, 101, 112] : List UInt8)) = true := beq_iff_eq.mpr c55
                                  have c55b1 : (((rd_T28 x7_1 (l0.length : Int)).f0).toList != ([107, 101, 101, 112] : List UInt8)) = false := bne_eq_false_iff_eq.mpr c55
                                  clear c55
                                  by_cases c56 : 0 ≤ (l1.length : Int)
                                  · rw [if_pos c56] at H
                                    have c56b0 : decide (0 ≤ (l1.length : Int)) = true := decide_eq_true c56
                                    have c56b1 : decide (0 ≤ l1.length) = true := decide_eq_true (by omega)
                                    clear c56
                                    by_cases c57 : (l1.length : Int) < (x8_1.length : Int)
                                    · rw [if_pos c57] at H
                                      have c57b0 : decide ((l1.length : Int) < (x8_1.length : Int)) = true := decide_eq_true c57
                                      have c57b1 : decide (l1.length < x8_1.length) = true := decide_eq_true (Int.ofNat_lt.mp c57)
                                      clear c57
                                      by_cases c58 : ((rd_T28 x8_1 (l1.length : Int)).f0).toList = ([107, 101, 101, 112] : List UInt8)
                                      · rw [if_pos c58] at H
                                        have c58b0 : (((rd_T28 x8_1 (l1.length : Int)).f0).toList == ([107, 101, 101, 112] : List UInt8)) = true := beq_iff_eq.mpr c58
                                        have c58b1 : (((rd_T28 x8_1 (l1.length : Int)).f0).toList != ([107, 101, 101, 112] : List UInt8)) = false := bne_eq_false_iff_eq.mpr c58
                                        clear c58
                                        have c59b0 := eq_true (of_decide_eq_true (by first | (with_reducible assumption) | assumption) : 0 ≤ (l0.length : Int))
                                        by_cases c60 : (l0.length : Int) ≤ (x7_1.length : Int)
                                        · rw [if_pos c60] at H
                                          have c60b0 := eq_true c60
                                          have c60b1 : decide ((l0.length : Int) ≤ (x7_1.length : Int)) = true := decide_eq_true c60
                                          clear c60
                                          obtain ⟨y203, hy203⟩ : ∃ y_ : List (S28), y_ = (x7_1.take ((l0.length : Int) : Int).toNat) := ⟨_, rfl⟩
                                          replace H : ((aumbryref04_Same.f k2 y203 l0).bind fun t207 => (if t207 = true then (if (l1.length : Int) ≤ (x8_1.length : Int) then ((aumbryref04_Same.f k2 (x8_1.take ((l1.length : Int) : Int).toNat) l1).bind fun t212 => (if t212 = true then ((aumbryref05_Same.f k2 t171 l2).bind fun t213 => (some t213)) else (some false))) else (none)) else (some false))) = some r := by first | (rw [hy203]; with_reducible exact H) | (have H2_ := (Option.bind_some _ _).symm.trans H; rw [hy203]; with_reducible exact H2_) | (have H2_ := (Option.bind_some _ _).symm.trans H; with_reducible exact H2_) | with_reducible exact H | (rw [hy203]; exact H) | exact H
                                          have Ny203 := Aside0.mk hy203
                                          clear hy203
                                          replace H := Option.bind_eq_some_iff.mp H
                                          obtain ⟨t207, A610, H⟩ := H
                                          replace H : (if t207 = true then (if (l1.length : Int) ≤ (x8_1.length : Int) then ((aumbryref04_Same.f k2 (x8_1.take ((l1.length : Int) : Int).toNat) l1).bind fun t212 => (if t212 = true then ((aumbryref05_Same.f k2 t171 l2).bind fun t213 => (some t213)) else (some false))) else (none)) else (some false)) = some r := H
                                          have A61 := Aside0.mk A610
                                          clear A610
                                          by_cases c62 : t207 = true
                                          · subst c62
                                            have H1 : (if (l1.length : Int) ≤ (x8_1.length : Int) then ((aumbryref04_Same.f k2 (x8_1.take ((l1.length : Int) : Int).toNat) l1).bind fun t212 => (if t212 = true then ((aumbryref05_Same.f k2 t171 l2).bind fun t213 => (some t213)) else (some false))) else (none)) = some r := by rw [if_pos rfl] at H; exact H
                                            clear H
                                            have H := H1
                                            clear H1
                                            have c63b0 := eq_true (of_decide_eq_true (by first | (with_reducible assumption) | assumption) : 0 ≤ (l1.length : Int))
                                            by_cases c64 : (l1.length : Int) ≤ (x8_1.length : Int)
                                            · rw [if_pos c64] at H
                                              have c64b0 := eq_true c64
                                              have c64b1 : decide ((l1.length : Int) ≤ (x8_1.length : Int)) = true := decide_eq_true c64
                                              clear c64
                                              obtain ⟨y208, hy208⟩ : ∃ y_ : List (S28), y_ = (x8_1.take ((l1.length : Int) : Int).toNat) := ⟨_, rfl⟩
                                              replace H : ((aumbryref04_Same.f k2 y208 l1).bind fun t212 => (if t212 = true then ((aumbryref05_Same.f k2 t171 l2).bind fun t213 => (some t213)) else (some false))) = some r := by first | (rw [hy208]; with_reducible exact H) | (have H2_ := (Option.bind_some _ _).symm.trans H; rw [hy208]; with_reducible exact H2_) | (have H2_ := (Option.bind_some _ _).symm.trans H; with_reducible exact H2_) | with_reducible exact H | (rw [hy208]; exact H) | exact H
                                              have Ny208 := Aside0.mk hy208
                                              clear hy208
                                              replace H := Option.bind_eq_some_iff.mp H
                                              obtain ⟨t212, A650, H⟩ := H
                                              replace H : (if t212 = true then ((aumbryref05_Same.f k2 t171 l2).bind fun t213 => (some t213)) else (some false)) = some r := H
                                              have A65 := Aside0.mk A650
                                              clear A650
                                              by_cases c66 : t212 = true
                                              · subst c66
                                                have H1 : ((aumbryref05_Same.f k2 t171 l2).bind fun t213 => (some t213)) = some r := by rw [if_pos rfl] at H; exact H
                                                clear H
                                                have H := H1
                                                clear H1
                                                replace H := Option.bind_eq_some_iff.mp H
                                                obtain ⟨t213, A670, H⟩ := H
                                                replace H : (some t213) = some r := H
                                                have A67 := Aside0.mk A670
                                                clear A670
                                                obtain rfl := Option.some.inj H
                                                have p201 : 0 ≤ ((l0.length : Int) : Int) := of_decide_eq_true (by first | (with_reducible assumption) | assumption)
                                                have q201 : (l0.length : Int) < (x7_1.length : Int) := of_decide_eq_true (by first | (with_reducible assumption) | assumption)
                                                obtain ⟨ad201, e201, hx201_0, hx201_1⟩ := at_T28 (Kd.R_reads' HO_7.out).2.2 (l0.length : Int) p201 q201
                                                cases e201
                                                (try simp only [Go.IntWalk.toNatUp] at hx201_0)
                                                (try simp only [Go.IntWalk.toNatUp] at hx201_1)
                                                (try simp only [hl7_1, hl8_1, hl10_1, hl13_2] at p201)
                                                (try simp only [hl7_1, hl8_1, hl10_1, hl13_2] at q201)
                                                (try simp only [hl7_1, hl8_1, hl10_1, hl13_2] at hx201_0)
                                                (try simp only [hl7_1, hl8_1, hl10_1, hl13_2] at hx201_1)
                                                replace p201 := eq_true p201
                                                replace q201 := eq_true q201
                                                have p202 : 0 ≤ ((l1.length : Int) : Int) := of_decide_eq_true (by first | (with_reducible assumption) | assumption)
                                                have q202 : (l1.length : Int) < (x8_1.length : Int) := of_decide_eq_true (by first | (with_reducible assumption) | assumption)
                                                obtain ⟨ad202, e202, hx202_0, hx202_1⟩ := at_T28 (Kd.R_reads' HO_8.out).2.2 (l1.length : Int) p202 q202
                                                cases e202
                                                (try simp only [Go.IntWalk.toNatUp] at hx202_0)
                                                (try simp only [Go.IntWalk.toNatUp] at hx202_1)
                                                (try simp only [hl7_1, hl8_1, hl10_1, hl13_2] at p202)
                                                (try simp only [hl7_1, hl8_1, hl10_1, hl13_2] at q202)
                                                (try simp only [hl7_1, hl8_1, hl10_1, hl13_2] at hx202_0)
                                                (try simp only [hl7_1, hl8_1, hl10_1, hl13_2] at hx202_1)
                                                replace p202 := eq_true p202
                                                replace q202 := eq_true q202
                                                have q68 : ((l0.length : Int) : Int) ≤ ((x7_1.length : Int) : Int) := of_decide_eq_true (by first | (with_reducible assumption) | assumption)
                                                obtain ⟨i068, hi068, _, hsz68, _⟩ := info_parts info28
                                                have hroom68 : x7_1.length ≤ co27 := (Kd.R_reads' HO_7.out).2.1
                                                have hC68 : Kd.C k28 _ (some ad201) x7_1.length x7_1 := (Kd.R_reads' HO_7.out).2.2
                                                have hcut68 := cut_to (P := Try.prog) 23 28 .i64 Try.underlying23 hi068 (some ad201) x7_1.length co27 (l0.length : Int) (of_decide_eq_true (by first | (with_reducible assumption) | assumption)) q68 hroom68
                                                have hr68 := Kd.C_take (m := ((l0.length : Int) : Int).toNat) hC68 (by omega)
                                                have hy68 : y203.length = ((l0.length : Int) : Int).toNat := (by rw [Ny203.out, List.length_take]; omega)
                                                rw [← Ny203.out] at hr68
                                                rw [← hy68] at hcut68
                                                have HR206 := Aside0.mk hr68
                                                have HC206 := Aside0.mk (show y203.length ≤ co27 from by omega)
                                                clear hr68 hC68 hroom68 hi068 hsz68
                                                have KY68 := Aside0.mk hy68
                                                clear hy68
                                                have KL68 := Aside0.mk (show ((l0.length : Int) : Int).toNat ≤ x7_1.length from by omega)
                                                replace q68 := eq_true q68
                                                go_wp2_with (first | (go_at_call 14; (with_reducible refine (aumbryref04_Same.calls k2 _ _ y203 _ _ l0 true _ ?side1 ?side2 ?side3 ?side4 A61.out).mono ?_); (case side1 => repeat (first | exact (by repeat (first | (with_reducible exact HR206.out) | (with_reducible refine Kd.C_alloc ?_ _) | (with_reducible refine Kd.C_drewN ?_ _) | (with_reducible refine Kd.C_drew ?_) | exact HR206.out)) | (with_reducible refine Kd.C_alloc ?_ _) | (with_reducible refine Kd.C_drewN ?_ _) | (with_reducible refine Kd.C_drew ?_))); (case side2 => exact HC206.out); (case side3 => repeat (first | exact (Kd.C_below HR0.out HB.out) | (with_reducible refine Kd.C_alloc ?_ _) | (with_reducible refine Kd.C_drewN ?_ _) | (with_reducible refine Kd.C_drew ?_))); (case side4 => exact HC0.out); rintro e w' ⟨rfl, ⟨nd, rfl⟩⟩; have q69 : ((l1.length : Int) : Int) ≤ ((x8_1.length : Int) : Int) := of_decide_eq_true (by first | (with_reducible assumption) | assumption); obtain ⟨i069, hi069, _, hsz69, _⟩ := info_parts info28; have hroom69 : x8_1.length ≤ co29 := (Kd.R_reads' HO_8.out).2.1; have hC69 : Kd.C k28 _ (some ad202) x8_1.length x8_1 := (Kd.R_reads' HO_8.out).2.2; have hcut69 := cut_to (P := Try.prog) 23 28 .i64 Try.underlying23 hi069 (some ad202) x8_1.length co29 (l1.length : Int) (of_decide_eq_true (by first | (with_reducible assumption) | assumption)) q69 hroom69; have hr69 := Kd.C_take (m := ((l1.length : Int) : Int).toNat) hC69 (by omega); have hy69 : y208.length = ((l1.length : Int) : Int).toNat := (by rw [Ny208.out, List.length_take]; omega); rw [← Ny208.out] at hr69; rw [← hy69] at hcut69; have HR211 := Aside0.mk hr69; have HC211 := Aside0.mk (show y208.length ≤ co29 from by omega); clear hr69 hC69 hroom69 hi069 hsz69; have KY69 := Aside0.mk hy69; clear hy69; have KL69 := Aside0.mk (show ((l1.length : Int) : Int).toNat ≤ x8_1.length from by omega); replace q69 := eq_true q69) | (go_at_call 14; (with_reducible refine (aumbryref04_Same.calls k2 _ _ y208 _ _ l1 true _ ?side1 ?side2 ?side3 ?side4 A65.out).mono ?_); (case side1 => repeat (first | exact (by repeat (first | (with_reducible exact HR211.out) | (with_reducible refine Kd.C_alloc ?_ _) | (with_reducible refine Kd.C_drewN ?_ _) | (with_reducible refine Kd.C_drew ?_) | exact HR211.out)) | (with_reducible refine Kd.C_alloc ?_ _) | (with_reducible refine Kd.C_drewN ?_ _) | (with_reducible refine Kd.C_drew ?_))); (case side2 => exact HC211.out); (case side3 => repeat (first | exact (Kd.C_below HR1.out (by repeat (first | (with_reducible first | exact HB.out | apply below_alloc | apply pw_below_drewN | apply below_drew1) | exact HB.out))) | (with_reducible refine Kd.C_alloc ?_ _) | (with_reducible refine Kd.C_drewN ?_ _) | (with_reducible refine Kd.C_drew ?_))); (case side4 => exact HC1.out); rintro e w' ⟨rfl, ⟨nd, rfl⟩⟩) | (go_at_call 15; (with_reducible refine (aumbryref05_Same.calls k2 _ _ t171 _ _ l2 t213 _ ?side1 ?side2 ?side3 ?side4 A67.out).mono ?_); (case side1 => repeat (first | exact (Kd.S_reads' HO_9.out).2.2 | (with_reducible refine Kd.C_alloc ?_ _) | (with_reducible refine Kd.C_drewN ?_ _) | (with_reducible refine Kd.C_drew ?_))); (case side2 => exact (Kd.S_reads' HO_9.out).2.1); (case side3 => repeat (first | exact (Kd.C_below HR2.out (by repeat (first | (with_reducible first | exact HB.out | apply below_alloc | apply pw_below_drewN | apply below_drew1) | exact HB.out))) | (with_reducible refine Kd.C_alloc ?_ _) | (with_reducible refine Kd.C_drewN ?_ _) | (with_reducible refine Kd.C_drew ?_))); (case side4 => exact HC2.out); rintro e w' ⟨rfl, ⟨nd, rfl⟩⟩))
                                                go_ret
                                                exact ⟨by first | rfl | (simp [errW_none, errW_some] <;> rfl) | (simp [*, errW_none, errW_some] <;> rfl), by repeat (first | (with_reducible first | exact HB.out | apply below_alloc | apply pw_below_drewN | apply below_drew1) | exact HB.out)⟩
                                              · replace c66 := Bool.eq_false_iff.mpr c66
                                                subst c66
                                                have H1 : (some false) = some r := by rw [if_neg (show ¬ (false = true) by decide)] at H; exact H
                                                clear H
                                                have H := H1
                                                clear H1
                                                obtain rfl := Option.some.inj H
                                                have p201 : 0 ≤ ((l0.length : Int) : Int) := of_decide_eq_true (by first | (with_reducible assumption) | assumption)
                                                have q201 : (l0.length : Int) < (x7_1.length : Int) := of_decide_eq_true (by first | (with_reducible assumption) | assumption)
                                                obtain ⟨ad201, e201, hx201_0, hx201_1⟩ := at_T28 (Kd.R_reads' HO_7.out).2.2 (l0.length : Int) p201 q201
                                                cases e201
                                                (try simp only [Go.IntWalk.toNatUp] at hx201_0)
                                                (try simp only [Go.IntWalk.toNatUp] at hx201_1)
                                                (try simp only [hl7_1, hl8_1, hl10_1, hl13_2] at p201)
                                                (try simp only [hl7_1, hl8_1, hl10_1, hl13_2] at q201)
                                                (try simp only [hl7_1, hl8_1, hl10_1, hl13_2] at hx201_0)
                                                (try simp only [hl7_1, hl8_1, hl10_1, hl13_2] at hx201_1)
                                                replace p201 := eq_true p201
                                                replace q201 := eq_true q201
                                                have p202 : 0 ≤ ((l1.length : Int) : Int) := of_decide_eq_true (by first | (with_reducible assumption) | assumption)
                                                have q202 : (l1.length : Int) < (x8_1.length : Int) := of_decide_eq_true (by first | (with_reducible assumption) | assumption)
                                                obtain ⟨ad202, e202, hx202_0, hx202_1⟩ := at_T28 (Kd.R_reads' HO_8.out).2.2 (l1.length : Int) p202 q202
                                                cases e202
                                                (try simp only [Go.IntWalk.toNatUp] at hx202_0)
                                                (try simp only [Go.IntWalk.toNatUp] at hx202_1)
                                                (try simp only [hl7_1, hl8_1, hl10_1, hl13_2] at p202)
                                                (try simp only [hl7_1, hl8_1, hl10_1, hl13_2] at q202)
                                                (try simp only [hl7_1, hl8_1, hl10_1, hl13_2] at hx202_0)
                                                (try simp only [hl7_1, hl8_1, hl10_1, hl13_2] at hx202_1)
                                                replace p202 := eq_true p202
                                                replace q202 := eq_true q202
                                                have q70 : ((l0.length : Int) : Int) ≤ ((x7_1.length : Int) : Int) := of_decide_eq_true (by first | (with_reducible assumption) | assumption)
                                                obtain ⟨i070, hi070, _, hsz70, _⟩ := info_parts info28
                                                have hroom70 : x7_1.length ≤ co27 := (Kd.R_reads' HO_7.out).2.1
                                                have hC70 : Kd.C k28 _ (some ad201) x7_1.length x7_1 := (Kd.R_reads' HO_7.out).2.2
                                                have hcut70 := cut_to (P := Try.prog) 23 28 .i64 Try.underlying23 hi070 (some ad201) x7_1.length co27 (l0.length : Int) (of_decide_eq_true (by first | (with_reducible assumption) | assumption)) q70 hroom70
                                                have hr70 := Kd.C_take (m := ((l0.length : Int) : Int).toNat) hC70 (by omega)
                                                have hy70 : y203.length = ((l0.length : Int) : Int).toNat := (by rw [Ny203.out, List.length_take]; omega)
                                                rw [← Ny203.out] at hr70
                                                rw [← hy70] at hcut70
                                                have HR206 := Aside0.mk hr70
                                                have HC206 := Aside0.mk (show y203.length ≤ co27 from by omega)
                                                clear hr70 hC70 hroom70 hi070 hsz70
                                                have KY70 := Aside0.mk hy70
                                                clear hy70
                                                have KL70 := Aside0.mk (show ((l0.length : Int) : Int).toNat ≤ x7_1.length from by omega)
                                                replace q70 := eq_true q70
                                                go_wp2_with (first | (go_at_call 14; (with_reducible refine (aumbryref04_Same.calls k2 _ _ y203 _ _ l0 true _ ?side1 ?side2 ?side3 ?side4 A61.out).mono ?_); (case side1 => repeat (first | exact (by repeat (first | (with_reducible exact HR206.out) | (with_reducible refine Kd.C_alloc ?_ _) | (with_reducible refine Kd.C_drewN ?_ _) | (with_reducible refine Kd.C_drew ?_) | exact HR206.out)) | (with_reducible refine Kd.C_alloc ?_ _) | (with_reducible refine Kd.C_drewN ?_ _) | (with_reducible refine Kd.C_drew ?_))); (case side2 => exact HC206.out); (case side3 => repeat (first | exact (Kd.C_below HR0.out HB.out) | (with_reducible refine Kd.C_alloc ?_ _) | (with_reducible refine Kd.C_drewN ?_ _) | (with_reducible refine Kd.C_drew ?_))); (case side4 => exact HC0.out); rintro e w' ⟨rfl, ⟨nd, rfl⟩⟩; have q71 : ((l1.length : Int) : Int) ≤ ((x8_1.length : Int) : Int) := of_decide_eq_true (by first | (with_reducible assumption) | assumption); obtain ⟨i071, hi071, _, hsz71, _⟩ := info_parts info28; have hroom71 : x8_1.length ≤ co29 := (Kd.R_reads' HO_8.out).2.1; have hC71 : Kd.C k28 _ (some ad202) x8_1.length x8_1 := (Kd.R_reads' HO_8.out).2.2; have hcut71 := cut_to (P := Try.prog) 23 28 .i64 Try.underlying23 hi071 (some ad202) x8_1.length co29 (l1.length : Int) (of_decide_eq_true (by first | (with_reducible assumption) | assumption)) q71 hroom71; have hr71 := Kd.C_take (m := ((l1.length : Int) : Int).toNat) hC71 (by omega); have hy71 : y208.length = ((l1.length : Int) : Int).toNat := (by rw [Ny208.out, List.length_take]; omega); rw [← Ny208.out] at hr71; rw [← hy71] at hcut71; have HR211 := Aside0.mk hr71; have HC211 := Aside0.mk (show y208.length ≤ co29 from by omega); clear hr71 hC71 hroom71 hi071 hsz71; have KY71 := Aside0.mk hy71; clear hy71; have KL71 := Aside0.mk (show ((l1.length : Int) : Int).toNat ≤ x8_1.length from by omega); replace q71 := eq_true q71) | (go_at_call 14; (with_reducible refine (aumbryref04_Same.calls k2 _ _ y208 _ _ l1 false _ ?side1 ?side2 ?side3 ?side4 A65.out).mono ?_); (case side1 => repeat (first | exact (by repeat (first | (with_reducible exact HR211.out) | (with_reducible refine Kd.C_alloc ?_ _) | (with_reducible refine Kd.C_drewN ?_ _) | (with_reducible refine Kd.C_drew ?_) | exact HR211.out)) | (with_reducible refine Kd.C_alloc ?_ _) | (with_reducible refine Kd.C_drewN ?_ _) | (with_reducible refine Kd.C_drew ?_))); (case side2 => exact HC211.out); (case side3 => repeat (first | exact (Kd.C_below HR1.out (by repeat (first | (with_reducible first | exact HB.out | apply below_alloc | apply pw_below_drewN | apply below_drew1) | exact HB.out))) | (with_reducible refine Kd.C_alloc ?_ _) | (with_reducible refine Kd.C_drewN ?_ _) | (with_reducible refine Kd.C_drew ?_))); (case side4 => exact HC1.out); rintro e w' ⟨rfl, ⟨nd, rfl⟩⟩))
                                                go_ret
                                                exact ⟨by first | rfl | (simp [errW_none, errW_some] <;> rfl) | (simp [*, errW_none, errW_some] <;> rfl), by repeat (first | (with_reducible first | exact HB.out | apply below_alloc | apply pw_below_drewN | apply below_drew1) | exact HB.out)⟩
                                            · rw [if_neg c64] at H
                                              exact absurd H (by simp)
                                          · replace c62 := Bool.eq_false_iff.mpr c62
                                            subst c62
                                            have H1 : (some false) = some r := by rw [if_neg (show ¬ (false = true) by decide)] at H; exact H
                                            clear H
                                            have H := H1
                                            clear H1
                                            obtain rfl := Option.some.inj H
                                            have p201 : 0 ≤ ((l0.length : Int) : Int) := of_decide_eq_true (by first | (with_reducible assumption) | assumption)
                                            have q201 : (l0.length : Int) < (x7_1.length : Int) := of_decide_eq_true (by first | (with_reducible assumption) | assumption)
                                            obtain ⟨ad201, e201, hx201_0, hx201_1⟩ := at_T28 (Kd.R_reads' HO_7.out).2.2 (l0.length : Int) p201 q201
                                            cases e201
                                            (try simp only [Go.IntWalk.toNatUp] at hx201_0)
                                            (try simp only [Go.IntWalk.toNatUp] at hx201_1)
                                            (try simp only [hl7_1, hl8_1, hl10_1, hl13_2] at p201)
                                            (try simp only [hl7_1, hl8_1, hl10_1, hl13_2] at q201)
                                            (try simp only [hl7_1, hl8_1, hl10_1, hl13_2] at hx201_0)
                                            (try simp only [hl7_1, hl8_1, hl10_1, hl13_2] at hx201_1)
                                            replace p201 := eq_true p201
                                            replace q201 := eq_true q201
                                            have p202 : 0 ≤ ((l1.length : Int) : Int) := of_decide_eq_true (by first | (with_reducible assumption) | assumption)
                                            have q202 : (l1.length : Int) < (x8_1.length : Int) := of_decide_eq_true (by first | (with_reducible assumption) | assumption)
                                            obtain ⟨ad202, e202, hx202_0, hx202_1⟩ := at_T28 (Kd.R_reads' HO_8.out).2.2 (l1.length : Int) p202 q202
                                            cases e202
                                            (try simp only [Go.IntWalk.toNatUp] at hx202_0)
                                            (try simp only [Go.IntWalk.toNatUp] at hx202_1)
                                            (try simp only [hl7_1, hl8_1, hl10_1, hl13_2] at p202)
                                            (try simp only [hl7_1, hl8_1, hl10_1, hl13_2] at q202)
                                            (try simp only [hl7_1, hl8_1, hl10_1, hl13_2] at hx202_0)
                                            (try simp only [hl7_1, hl8_1, hl10_1, hl13_2] at hx202_1)
                                            replace p202 := eq_true p202
                                            replace q202 := eq_true q202
                                            have q72 : ((l0.length : Int) : Int) ≤ ((x7_1.length : Int) : Int) := of_decide_eq_true (by first | (with_reducible assumption) | assumption)
                                            obtain ⟨i072, hi072, _, hsz72, _⟩ := info_parts info28
                                            have hroom72 : x7_1.length ≤ co27 := (Kd.R_reads' HO_7.out).2.1
                                            have hC72 : Kd.C k28 _ (some ad201) x7_1.length x7_1 := (Kd.R_reads' HO_7.out).2.2
                                            have hcut72 := cut_to (P := Try.prog) 23 28 .i64 Try.underlying23 hi072 (some ad201) x7_1.length co27 (l0.length : Int) (of_decide_eq_true (by first | (with_reducible assumption) | assumption)) q72 hroom72
                                            have hr72 := Kd.C_take (m := ((l0.length : Int) : Int).toNat) hC72 (by omega)
                                            have hy72 : y203.length = ((l0.length : Int) : Int).toNat := (by rw [Ny203.out, List.length_take]; omega)
                                            rw [← Ny203.out] at hr72
                                            rw [← hy72] at hcut72
                                            have HR206 := Aside0.mk hr72
                                            have HC206 := Aside0.mk (show y203.length ≤ co27 from by omega)
                                            clear hr72 hC72 hroom72 hi072 hsz72
                                            have KY72 := Aside0.mk hy72
                                            clear hy72
                                            have KL72 := Aside0.mk (show ((l0.length : Int) : Int).toNat ≤ x7_1.length from by omega)
                                            replace q72 := eq_true q72
                                            go_wp2_with (first | (go_at_call 14; (with_reducible refine (aumbryref04_Same.calls k2 _ _ y203 _ _ l0 false _ ?side1 ?side2 ?side3 ?side4 A61.out).mono ?_); (case side1 => repeat (first | exact (by repeat (first | (with_reducible exact HR206.out) | (with_reducible refine Kd.C_alloc ?_ _) | (with_reducible refine Kd.C_drewN ?_ _) | (with_reducible refine Kd.C_drew ?_) | exact HR206.out)) | (with_reducible refine Kd.C_alloc ?_ _) | (with_reducible refine Kd.C_drewN ?_ _) | (with_reducible refine Kd.C_drew ?_))); (case side2 => exact HC206.out); (case side3 => repeat (first | exact (Kd.C_below HR0.out HB.out) | (with_reducible refine Kd.C_alloc ?_ _) | (with_reducible refine Kd.C_drewN ?_ _) | (with_reducible refine Kd.C_drew ?_))); (case side4 => exact HC0.out); rintro e w' ⟨rfl, ⟨nd, rfl⟩⟩))
                                            go_ret
                                            exact ⟨by first | rfl | (simp [errW_none, errW_some] <;> rfl) | (simp [*, errW_none, errW_some] <;> rfl), by repeat (first | (with_reducible first | exact HB.out | apply below_alloc | apply pw_below_drewN | apply below_drew1) | exact HB.out)⟩
                                        · rw [if_neg c60] at H
                                          exact absurd H (by simp)
                                      · rw [if_neg c58] at H
                                        have c58b0 : (((rd_T28 x8_1 (l1.length : Int)).f0).toList == ([107, 101, 101, 112] : List UInt8)) = false := beq_eq_false_iff_ne.mpr c58
                                        have c58b1 : (((rd_T28 x8_1 (l1.length : Int)).f0).toList != ([107, 101, 101, 112] : List UInt8)) = true := bne_iff_ne.mpr c58
                                        obtain rfl := Option.some.inj H
                                        have p201 : 0 ≤ ((l0.length : Int) : Int) := of_decide_eq_true (by first | (with_reducible assumption) | assumption)
                                        have q201 : (l0.length : Int) < (x7_1.length : Int) := of_decide_eq_true (by first | (with_reducible assumption) | assumption)
                                        obtain ⟨ad201, e201, hx201_0, hx201_1⟩ := at_T28 (Kd.R_reads' HO_7.out).2.2 (l0.length : Int) p201 q201
                                        cases e201
                                        (try simp only [Go.IntWalk.toNatUp] at hx201_0)
                                        (try simp only [Go.IntWalk.toNatUp] at hx201_1)
                                        (try simp only [hl7_1, hl8_1, hl10_1, hl13_2] at p201)
                                        (try simp only [hl7_1, hl8_1, hl10_1, hl13_2] at q201)
                                        (try simp only [hl7_1, hl8_1, hl10_1, hl13_2] at hx201_0)
                                        (try simp only [hl7_1, hl8_1, hl10_1, hl13_2] at hx201_1)
                                        replace p201 := eq_true p201
                                        replace q201 := eq_true q201
                                        have p202 : 0 ≤ ((l1.length : Int) : Int) := of_decide_eq_true (by first | (with_reducible assumption) | assumption)
                                        have q202 : (l1.length : Int) < (x8_1.length : Int) := of_decide_eq_true (by first | (with_reducible assumption) | assumption)
                                        obtain ⟨ad202, e202, hx202_0, hx202_1⟩ := at_T28 (Kd.R_reads' HO_8.out).2.2 (l1.length : Int) p202 q202
                                        cases e202
                                        (try simp only [Go.IntWalk.toNatUp] at hx202_0)
                                        (try simp only [Go.IntWalk.toNatUp] at hx202_1)
                                        (try simp only [hl7_1, hl8_1, hl10_1, hl13_2] at p202)
                                        (try simp only [hl7_1, hl8_1, hl10_1, hl13_2] at q202)
                                        (try simp only [hl7_1, hl8_1, hl10_1, hl13_2] at hx202_0)
                                        (try simp only [hl7_1, hl8_1, hl10_1, hl13_2] at hx202_1)
                                        replace p202 := eq_true p202
                                        replace q202 := eq_true q202
                                        go_wp2
                                        go_ret
                                        exact ⟨by first | rfl | (simp [errW_none, errW_some] <;> rfl) | (simp [*, errW_none, errW_some] <;> rfl), by repeat (first | (with_reducible first | exact HB.out | apply below_alloc | apply pw_below_drewN | apply below_drew1) | exact HB.out)⟩
                                    · rw [if_neg c57] at H
                                      exact absurd H (by simp)
                                  · rw [if_neg c56] at H
                                    exact absurd H (by simp)
                                · rw [if_neg c55] at H
                                  have c55b0 : (((rd_T28 x7_1 (l0.length : Int)).f0).toList == ([107, 101, 101, 112] : List UInt8)) = false := beq_eq_false_iff_ne.mpr c55
                                  have c55b1 : (((rd_T28 x7_1 (l0.length : Int)).f0).toList != ([107, 101, 101, 112] : List UInt8)) = true := bne_iff_ne.mpr c55
                                  obtain rfl := Option.some.inj H
                                  have p201 : 0 ≤ ((l0.length : Int) : Int) := of_decide_eq_true (by first | (with_reducible assumption) | assumption)
                                  have q201 : (l0.length : Int) < (x7_1.length : Int) := of_decide_eq_true (by first | (with_reducible assumption) | assumption)
                                  obtain ⟨ad201, e201, hx201_0, hx201_1⟩ := at_T28 (Kd.R_reads' HO_7.out).2.2 (l0.length : Int) p201 q201
                                  cases e201
                                  (try simp only [Go.IntWalk.toNatUp] at hx201_0)
                                  (try simp only [Go.IntWalk.toNatUp] at hx201_1)
                                  (try simp only [hl7_1, hl8_1, hl10_1, hl13_2] at p201)
                                  (try simp only [hl7_1, hl8_1, hl10_1, hl13_2] at q201)
                                  (try simp only [hl7_1, hl8_1, hl10_1, hl13_2] at hx201_0)
                                  (try simp only [hl7_1, hl8_1, hl10_1, hl13_2] at hx201_1)
                                  replace p201 := eq_true p201
                                  replace q201 := eq_true q201
                                  go_wp2
                                  go_ret
                                  exact ⟨by first | rfl | (simp [errW_none, errW_some] <;> rfl) | (simp [*, errW_none, errW_some] <;> rfl), by repeat (first | (with_reducible first | exact HB.out | apply below_alloc | apply pw_below_drewN | apply below_drew1) | exact HB.out)⟩
                              · rw [if_neg c54] at H
                                exact absurd H (by simp)
                            · rw [if_neg c53] at H
                              exact absurd H (by simp)
              · rw [if_neg c14] at H
                exact absurd H (by simp)
            · rw [if_neg c13] at H
              exact absurd H (by simp)
          · rw [if_neg c12] at H
            exact absurd H (by simp)
        · rw [if_neg c11] at H
          exact absurd H (by simp)
      · rw [if_neg c9] at H
        exact absurd H (by simp)
    · rw [if_neg c7] at H
      exact absurd H (by simp)
  · replace c5 := Bool.eq_false_iff.mpr c5
    subst c5
    have H1 : (some false) = some r := by rw [if_neg (show ¬ (false = true) by decide)] at H; exact H
    clear H
    have H := H1
    clear H1
    obtain rfl := Option.some.inj H
    go_enter Try.func3, Try.ntmps3
    go_wp2_with (first | ((with_reducible refine gate_callee (f := 9) rfl ?_); refine goesL_ (some 18) rfl rfl Try.func9 (by kernel_rfl) rfl #[] rfl (by (try simp only [List.map_toArray, List.map_cons, List.map_nil]); first | done | rfl | (simp only [List.length_drop, List.length_take]; rfl)) ?_; (with_reducible refine (aumbrylaw05_wakes.calls k  false _ A4.out).mono ?_); rintro e w73 ⟨rfl, hb⟩; refine ⟨_, rfl, ?_⟩; have n0_ := Aside0.mk (below_step (by repeat (first | (with_reducible first | exact HB.out | apply below_alloc | apply pw_below_drewN | apply below_drew1) | exact HB.out)) hb); clear HB; have HB := n0_; clear n0_; (try clear hb); (try clear hb2); (try clear hk); (try clear hi)))
    go_ret
    exact ⟨by first | rfl | (simp [errW_none, errW_some] <;> rfl) | (simp [*, errW_none, errW_some] <;> rfl), by repeat (first | (with_reducible first | exact HB.out | apply below_alloc | apply pw_below_drewN | apply below_drew1) | exact HB.out)⟩

end Go.Proofs.Ytnkpcnnbeaomnaa.C
end
