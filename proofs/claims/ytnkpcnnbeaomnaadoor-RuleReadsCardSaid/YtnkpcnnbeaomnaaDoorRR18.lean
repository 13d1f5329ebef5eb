import Derived.Test.YtnkpcnnbeaomnaaDoorRR17
import Derived.Test.YtnkpcnnbeaomnaaDoorRR6
import Derived.Test.YtnkpcnnbeaomnaaDoorRR10
import Derived.Test.YtnkpcnnbeaomnaaDoorRR13
import Derived.Test.YtnkpcnnbeaomnaaDoorRR16
import Derived.Test.YtnkpcnnbeaomnaaDoorRR2
import Derived.Deep.Slices
import Derived.ChangeSame
import Derived.SizedLaws
import Derived.Test.YtnkpcnnbeaomnaaDoorRows
import Derived.ProofKit
import Derived.LaidMore
import Derived.Test.YtnkpcnnbeaomnaaDoorCards
import Derived.Test.YtnkpcnnbeaomnaaDoorTie
import Derived.SevenTiedAt
import Derived.WalkKit
import Derived.OpenShut
import Derived.ShutString
import Derived.ChangeOld
import Derived.Below
import Derived.Carry

section
/- What the program's and the reference's functions on rules come to: one answer for rule.Check and the reference's, the fixed fact, copies. Plain words, no machine. -/
namespace Go.Proofs.YtnkpcnnbeaomnaaDoor.C
open Go.RowKit Go.Proofs.YtnkpcnnbeaomnaaDoorW.PrintWords Go.Proofs.YtnkpcnnbeaomnaaDoorW.PrintLast Go.Proofs.YtnkpcnnbeaomnaaDoorW.PrintMore
set_option linter.unusedVariables false
set_option linter.unusedSimpArgs false

theorem wakes6_at : aumbrylaw06_wakes.f 60 = some true := by kernel_rfl
theorem wakes6_ev : Ev (fun k => aumbrylaw06_wakes.f k) true := Ev.of (g := fun k => aumbrylaw06_wakes.f k) (fun k => aumbrylaw06_wakes.mono k) wakes6_at

/-- Has one of b no like in a? -/
def missL (a b : List ByteArray) : Bool := b.any fun s => !(hasB a s)
/-- P6.1. -/
def chkR (id : Int) (l r : List S33) : Int := if id < 0 ∨ id > 65535 then 1 else if chk l = 0 then if chk r = 0 then if (l.length : Int) > 8 ∨ (r.length : Int) > 8 then 6 else if kindOf (rd_T33 l 0).f0 = 2 then 20 else if missL (varsL l []) (varsL r []) = true then 7 else 0 else chk r else chk l

theorem miss_l0 (a b : List ByteArray) (ha : a.length ≤ 1000000) (hb : b.length ≤ 1000000) : ∀ d i : Nat, i + d = b.length → ∃ t, Ev (fun k => ruleIdx.l0 k a b (i : Int)) t ∧ decide (t ≥ 0) = missL a (b.drop i)
  | 0, i, h => by
    refine ⟨-1, Ev.nxt 0 (fun k _ => ?_), ?_⟩
    · simp only [ruleIdx.l0]
      rw [if_neg (by omega)]
    · rw [List.drop_eq_nil_of_le (by omega)]
      rfl
  | d + 1, i, h => by
    have hw : wrap64 ((i : Int) + 1) = ((i + 1 : Nat) : Int) := by unfold wrap64; omega
    rw [drop_of b i (by omega)]
    have hc := contains_ev a (rdOf ByteArray.empty b i) ha
    obtain ⟨t, h1, h2⟩ := miss_l0 a b ha hb d (i + 1) (by omega)
    cases hh : hasB a (rdOf ByteArray.empty b i)
    · refine ⟨(i : Int), Ev.step (f := fun k => (slices_Contains_string_string.f k a (rdOf ByteArray.empty b i)).bind fun t => if t = true then ruleIdx.l0 k a b (wrap64 ((i : Int) + 1)) else some (i : Int)) (fun k => ?_) (Ev.bind hc ?_), ?_⟩
      · simp only [ruleIdx.l0]
        rw [if_pos (by omega), if_pos (by omega), if_pos (by omega)]
      · rw [hh]
        exact Ev.now _
      · simp [missL, hh]
    · refine ⟨t, Ev.step (f := fun k => (slices_Contains_string_string.f k a (rdOf ByteArray.empty b i)).bind fun t => if t = true then ruleIdx.l0 k a b (wrap64 ((i : Int) + 1)) else some (i : Int)) (fun k => ?_) (Ev.bind hc ?_), ?_⟩
      · simp only [ruleIdx.l0]
        rw [if_pos (by omega), if_pos (by omega), if_pos (by omega)]
      · rw [hh, hw]
        exact Ev.congr (fun k => by rw [if_pos rfl]) h1
      · rw [h2]
        simp [missL, hh]
theorem strange_ev (l r : List S33) (hl : chk l = 0) (hr : chk r = 0) : Ev (fun k => ruleStrange.f k l r) (missL (varsL l []) (varsL r [])) := by
  have e1 := varsL_len l []
  have e2 := varsL_len r []
  have l1 : l.length ≤ 64 := by obtain ⟨T, _, _, hl⟩ := tree_of_chk l hl; exact hl
  have l2 : r.length ≤ 64 := by obtain ⟨T, _, _, hl⟩ := tree_of_chk r hr; exact hl
  simp only [List.length_nil] at e1 e2
  obtain ⟨t, h1, h2⟩ := miss_l0 (varsL l []) (varsL r []) (by omega) (by omega) (varsL r []).length 0 (by omega)
  rw [List.drop_zero] at h2
  refine Ev.bind (vars_ok l hl) (Ev.bind (vars_ok r hr) (Ev.bind h1 ?_))
  rw [h2]
  exact Ev.now _
theorem ruleCheck_ev (id : Int) (l r : List S33) : Ev (fun k => rule_Check.f k id l r) (chkR id l r) := by
  unfold chkR
  by_cases c0 : id < 0 ∨ id > 65535
  · rw [if_pos c0]
    exact Ev.congr (f := fun _ => some 1) (fun k => by simp only [rule_Check.f]; rw [if_pos c0]) (Ev.now _)
  rw [if_neg c0]
  refine Ev.congr (f := fun k => (term_Check.f k l).bind fun e2 => if e2 = 0 then
    (term_Check.f k r).bind fun e3 => if e3 = 0 then
    if (l.length : Int) > 8 ∨ (r.length : Int) > 8 then some 6 else
    (ruleCheck5.f k l).bind fun e5 => if e5 = 0 then
    (ruleStrange.f k l r).bind fun b => some (if b = true then 7 else 0)
    else some e5 else some e3 else some e2) (fun k => by simp only [rule_Check.f]; rw [if_neg c0]) ?_
  refine Ev.bind (check_ev l) ?_
  by_cases c1 : chk l = 0
  rotate_left
  · simp only [if_neg c1]
    exact Ev.now _
  simp only [if_pos c1]
  refine Ev.bind (check_ev r) ?_
  by_cases c2 : chk r = 0
  rotate_left
  · simp only [if_neg c2]
    exact Ev.now _
  simp only [if_pos c2]
  by_cases c3 : (l.length : Int) > 8 ∨ (r.length : Int) > 8
  · simp only [if_pos c3]
    exact Ev.now _
  simp only [if_neg c3]
  have hp : 0 < l.length := by obtain ⟨T, rfl, _, _⟩ := tree_of_chk l c1; exact flat_pos T
  have h5 : Ev (fun k => ruleCheck5.f k l) (if kindOf (rd_T33 l 0).f0 = 2 then 20 else 0) := by
    refine Ev.congr (f := fun k => (name_Kind.f k (rd_T33 l 0).f0).bind fun n => some (if n = 2 then 20 else 0)) (fun k => by unfold ruleCheck5.f; rw [if_pos (by omega)]) (Ev.bind (kind_ev _) (Ev.now _))
  refine Ev.bind h5 ?_
  by_cases c4 : kindOf (rd_T33 l 0).f0 = 2
  · simp only [if_pos c4]
    exact Ev.now _
  simp only [if_neg c4, if_true]
  refine Ev.bind (strange_ev l r c1 c2) ?_
  exact Ev.now _

theorem rmiss_l0 (a b : List ByteArray) (ha : a.length ≤ 1000000) (hb : b.length ≤ 1000000) : ∀ d i : Nat, i + d = b.length → Ev (fun k => aumbryref06_Check.l0 k a b (b.length : Int) (i : Int)) (if missL a (b.drop i) = true then 7 else 0)
  | 0, i, h => by
    refine Ev.nxt 0 (fun k _ => ?_)
    simp only [aumbryref06_Check.l0]
    rw [if_neg (by omega), List.drop_eq_nil_of_le (by omega)]
    rfl
  | d + 1, i, h => by
    have hw : wrap64 ((i : Int) + 1) = ((i + 1 : Nat) : Int) := by unfold wrap64; omega
    rw [drop_of b i (by omega)]
    have hc := has_ev a (rdOf ByteArray.empty b i) ha
    have ih := rmiss_l0 a b ha hb d (i + 1) (by omega)
    refine Ev.step (f := fun k => (aumbryref03_Has.f k a (rdOf ByteArray.empty b i)).bind fun t239 => (if t239 = true then (aumbryref06_Check.l0 k a b (b.length : Int) (wrap64 ((i : Int) + 1))) else (some 7))) (fun k => ?_) (Ev.bind hc ?_)
    · simp only [aumbryref06_Check.l0]
      rw [if_pos (by omega), if_pos (by omega), if_pos (by omega)]
    cases hh : hasB a (rdOf ByteArray.empty b i)
    · refine Ev.congr (f := fun _ => some 7) (fun k => by simp) ?_
      simp only [missL, List.any_cons, hh, Bool.not_false, Bool.true_or, if_true]
      exact Ev.now _
    · rw [hw]
      refine Ev.congr (f := fun k => aumbryref06_Check.l0 k a b (b.length : Int) ((i + 1 : Nat) : Int)) (fun k => by simp) ?_
      simp only [missL, List.any_cons, hh, Bool.not_true, Bool.false_or]
      exact ih
theorem var_ev (l : List S33) (h : chk l = 0) : Ev (fun k => aumbryref05_Var.f k l) (decide (kindOf (rd_T33 l 0).f0 = 2)) := by
  obtain ⟨T, rfl, hf, hl⟩ := tree_of_chk l h
  cases T with
  | node n ks =>
    have hd : (rd_T33 (flat (.node n ks)) 0).f0 = n := by simp [flat, rd_T33, rdOf]
    rw [hd]
    by_cases hn : (flat (.node n ks)).length = 1
    · refine Ev.congr (f := fun k => (aumbryref03_Kind.f k n).bind fun t218 => (some (t218 == 2))) (fun k => by unfold aumbryref05_Var.f; rw [if_pos (by omega), if_pos (by omega), hd]) (Ev.bind (rkind_ev n) ?_)
      exact Ev.now _
    · refine Ev.congr (f := fun k => some false) (fun k => by unfold aumbryref05_Var.f; rw [if_neg (by omega)]) ?_
      have : kindOf n ≠ 2 := by
        intro h2
        simp only [fine] at hf
        have h3 := hf.2.2.1 h2
        subst h3
        simp [flat, flatL] at hn
      rw [decide_eq_false this]
      exact Ev.now _
theorem refCheck_ev (id : Int) (l r : List S33) : Ev (fun k => aumbryref06_Check.f k id l r) (chkR id l r) := by
  unfold chkR
  have h0 : Ev (fun k => aumbryref06_Check.j0 k (decide (id < 0 ∨ id > 65535)) id l r) (chkR id l r) := by
    unfold chkR
    by_cases c0 : id < 0 ∨ id > 65535
    · rw [if_pos c0]
      exact Ev.step (f := fun _ => some 1) (fun k => by simp only [aumbryref06_Check.j0]; rw [if_pos (by simpa using c0)]) (Ev.now _)
    rw [if_neg c0]
    refine Ev.step (f := fun k => (aumbryref04_Check.f k l).bind fun t229 => (if t229 = 0 then ((aumbryref04_Check.f k r).bind fun t230 => (if t230 = 0 then (if (l.length : Int) > 8 then (aumbryref06_Check.j1 k true id l r) else (aumbryref06_Check.j1 k (decide ((r.length : Int) > 8)) id l r)) else (some t230))) else (some t229))) (fun k => by simp only [aumbryref06_Check.j0]; rw [if_neg (by simpa using c0)]) ?_
    refine Ev.bind (rcheck_ev l) ?_
    by_cases c1 : chk l = 0
    rotate_left
    · simp only [if_neg c1]
      exact Ev.now _
    simp only [if_pos c1]
    refine Ev.bind (rcheck_ev r) ?_
    by_cases c2 : chk r = 0
    rotate_left
    · simp only [if_neg c2]
      exact Ev.now _
    simp only [if_pos c2]
    refine Ev.congr (f := fun k => aumbryref06_Check.j1 k (decide ((l.length : Int) > 8 ∨ (r.length : Int) > 8)) id l r) (fun k => ?_) ?_
    · by_cases c : (l.length : Int) > 8
      · rw [if_pos c, decide_eq_true (Or.inl c)]
      · rw [if_neg c]
        congr 1
        simp [c]
    by_cases c3 : (l.length : Int) > 8 ∨ (r.length : Int) > 8
    · simp only [if_pos c3]
      exact Ev.step (f := fun _ => some 6) (fun k => by simp only [aumbryref06_Check.j1]; rw [if_pos (by simpa using c3)]) (Ev.now _)
    simp only [if_neg c3]
    refine Ev.step (f := fun k => (aumbryref05_Var.f k l).bind fun t231 => (if t231 = true then (some 20) else ((aumbryref04_Vars.f k l).bind fun t232 => ((aumbryref04_Vars.f k r).bind fun t235 => (aumbryref06_Check.l0 k t232 t235 (t235.length : Int) 0))))) (fun k => by simp only [aumbryref06_Check.j1]; rw [if_neg (by simpa using c3)]) ?_
    refine Ev.bind (var_ev l c1) ?_
    by_cases c4 : kindOf (rd_T33 l 0).f0 = 2
    · simp only [if_pos c4, decide_eq_true c4, if_true]
      exact Ev.now _
    simp only [if_neg c4, decide_eq_false c4, Bool.false_eq_true, if_false]
    have l1 : l.length ≤ 64 := by obtain ⟨T, _, _, hl⟩ := tree_of_chk l c1; exact hl
    have l2 : r.length ≤ 64 := by obtain ⟨T, _, _, hl⟩ := tree_of_chk r c2; exact hl
    have e1 := varsL_len l []
    have e2 := varsL_len r []
    simp only [List.length_nil] at e1 e2
    refine Ev.bind (rvars_ev l (by omega)) (Ev.bind (rvars_ev r (by omega)) ?_)
    have := rmiss_l0 (varsL l []) (varsL r []) (by omega) (by omega) (varsL r []).length 0 (by omega)
    rw [List.drop_zero] at this
    exact this
  refine Ev.congr (fun k => ?_) h0
  unfold aumbryref06_Check.f
  by_cases c : id < 0
  · rw [if_pos c, decide_eq_true (Or.inl c)]
  · rw [if_neg c]
    congr 1
    simp [c]
theorem same6_ev (id : Int) (l r : List S33) (h1 : l.length ≤ 4611686018427387904) (h2 : r.length ≤ 4611686018427387904) : Ev (fun k => aumbryref06_Same.f k id l r id l r) true := by
  refine Ev.congr (f := fun k => (aumbryref04_Same.f k l l).bind fun t297 => (if t297 = true then ((aumbryref04_Same.f k r r).bind fun t298 => (some t298)) else (some false))) (fun k => by unfold aumbryref06_Same.f; rw [if_pos rfl]) ?_
  refine Ev.bind (sameT_ev l h1) ?_
  simp only [if_true]
  exact Ev.bind (sameT_ev r h2) (Ev.now _)
end Go.Proofs.YtnkpcnnbeaomnaaDoor.C
end

section
/- Any two texts are read as a rule's sides, or refused: the law's plain statement. -/
namespace Go.Proofs.YtnkpcnnbeaomnaaDoor.Pure
open Go.RowKit Go.Proofs.YtnkpcnnbeaomnaaDoor.C Go.Proofs.YtnkpcnnbeaomnaaDoorW.PrintWords Go.Proofs.YtnkpcnnbeaomnaaDoorW.PrintLast
set_option linter.unusedVariables false
set_option linter.unusedSimpArgs false

theorem rule_both (s u : ByteArray) : ∃ (l r : List S33) (e : Int), Ev (fun k => rule_Parse.f k s u) (0, l, r, e) ∧ Ev (fun k => aumbryref06_Parse.f k s u) (0, l, r, e) ∧ l.length ≤ 64 ∧ r.length ≤ 64 := by
  obtain ⟨t, a, e, h1, h2, h3⟩ := parse_both s
  obtain ⟨t', a', e', g1, g2, g3⟩ := parse_both u
  by_cases he : e = 0
  · by_cases hf : e' = 0
    · by_cases hc : chkR 0 t t' = 0
      · refine ⟨t, t', 0, Ev.bind h1 ?_, Ev.bind h2 ?_, h3, g3⟩
        · simp only [if_pos he]
          refine Ev.bind g1 ?_
          simp only [if_pos hf]
          refine Ev.bind (ruleCheck_ev 0 t t') ?_
          simp only [if_pos hc]
          exact Ev.now _
        · simp only [if_pos he]
          refine Ev.bind g2 ?_
          simp only [if_pos hf]
          refine Ev.bind (refCheck_ev 0 t t') ?_
          simp only [if_pos hc]
          exact Ev.now _
      · refine ⟨[], [], chkR 0 t t', Ev.bind h1 ?_, Ev.bind h2 ?_, by simp, by simp⟩
        · simp only [if_pos he]
          refine Ev.bind g1 ?_
          simp only [if_pos hf]
          refine Ev.bind (ruleCheck_ev 0 t t') ?_
          simp only [if_neg hc]
          exact Ev.now _
        · simp only [if_pos he]
          refine Ev.bind g2 ?_
          simp only [if_pos hf]
          refine Ev.bind (refCheck_ev 0 t t') ?_
          simp only [if_neg hc]
          exact Ev.now _
    · refine ⟨[], [], e', Ev.bind h1 ?_, Ev.bind h2 ?_, by simp, by simp⟩
      · simp only [if_pos he]
        refine Ev.bind g1 ?_
        simp only [if_neg hf]
        exact Ev.now _
      · simp only [if_pos he]
        refine Ev.bind g2 ?_
        simp only [if_neg hf]
        exact Ev.now _
  · refine ⟨[], [], e, Ev.bind h1 ?_, Ev.bind h2 ?_, by simp, by simp⟩
    · simp only [if_neg he]
      exact Ev.now _
    · simp only [if_neg he]
      exact Ev.now _
theorem RuleReads : aumbrylaw06_RuleReads.Pure := by
  intro s u _ _
  refine Ev.rounds (r := true) ?_
  refine Ev.bind wakes6_ev ?_
  simp only [if_true]
  obtain ⟨l, r, e, h1, h2, h3, h4⟩ := rule_both s u
  refine Ev.bind h1 (Ev.bind h2 ?_)
  refine Ev.bind (same6_ev 0 l r (by omega) (by omega)) ?_
  simp only [if_true, beq_self_eq_true]
  exact Ev.now _
end Go.Proofs.YtnkpcnnbeaomnaaDoor.Pure
end

section
/- An argument that can be read as data reads as a plain Lean value of its kind (strings, whole numbers, structs of two, slices of these), with the form's own bounds on its parts. -/
namespace Go.Proofs.YtnkpcnnbeaomnaaDoor.C
open Go.RowKit Go.ChangeShapes Go.WideShapes Go.Deep Go.Proofs.YtnkpcnnbeaomnaaDoorW.PrintWords
set_option linter.unusedVariables false
set_option linter.unusedSimpArgs false

section
variable {H : Type} {enc : TypeId × Value → H} {P : Program} {w : World} {base : Nat} {spare : Nat → Bool} {held : Bool}





end

section
variable {H : Type} {enc : TypeId × Value → H} {w : World} {base : Nat} {spare : Nat → Bool} {held : Bool}

end
end Go.Proofs.YtnkpcnnbeaomnaaDoor.C
end

section
/- The rows' door: a rule as an argument reads as a number and two terms; a world in which the listed variables are laid. -/
namespace Go.Proofs.YtnkpcnnbeaomnaaDoor.C
open Go.RowKit Go.ChangeShapes Go.WideShapes Go.Deep Go.Proofs.YtnkpcnnbeaomnaaDoorW.PrintWords
set_option linter.unusedVariables false
set_option linter.unusedSimpArgs false
variable {H : Type} {enc : TypeId × Value → H} {w : World} {base : Nat} {spare : Nat → Bool} {held : Bool}

def laid3 : List (String × DataW Unit) := [("math/bits.deBruijn32tab", Rows.laid_math_bits_deBruijn32tab), ("math/bits.deBruijn64tab", Rows.laid_math_bits_deBruijn64tab), ("internal/strconv.uint64pow10", Rows.laid_internal_strconv_uint64pow10)]
theorem own : ownKnob Tryd.prog.godebug = none := by kernel_rfl
/-- The door's own heap meets the condition. -/
theorem door_met (os : Os) (args : Array Value) : laidMetH Tryd.prog laid3 ((World.doorLaid Tryd.prog 4000 os).forCall (fun _ _ => 0) ⟨#[], args, []⟩).memory :=
  laidMetH_of_parts3 (fuel := 8) (laidMet_of_run' 8 (by kernel_rfl) (by kernel_rfl)) (by kernel_rfl) (by kernel_rfl)
theorem door_shaped (os : Os) (args : Array Value) : ((World.doorLaid Tryd.prog 4000 os).forCall (fun _ _ => 0) ⟨#[], args, []⟩).Shaped Tryd.prog := World.shaped_of_RefB (by kernel_rfl) (by kernel_rfl)
end Go.Proofs.YtnkpcnnbeaomnaaDoor.C
end

section
/- The row RuleReads and its card, out of its walk (C36), its plain law and the way its argument reads (HDoor). -/
namespace Go.Proofs.YtnkpcnnbeaomnaaDoor.ruleReads
open Go.ChangeShapes Go.WideShapes Go.ChangeAt Go.RowKit
open Go.ChangeMaps (open_string shut_string)
set_option linter.unusedVariables false
set_option maxRecDepth 100000 in
theorem lifted (os : Os) (started : os.Started) (H : Type) (enc : TypeId × Value → H) :
    ReturnsInHanded {} Tryd.checked os 4 .any (fun w args => (Rows.ruleReadsSpec.pre enc Tryd.prog Tryd.f4 [] false w args ∧ laidMetH Tryd.prog C.laid3 w) ∧ sizedMet enc Tryd.prog Tryd.f4 (OpenSpec.ofChange Rows.ruleReadsSpec) false w args)
      (Rows.ruleReadsSpec.post enc Tryd.prog Tryd.f4 false true false false) := by
  refine returnsInHanded_of_change_and (C := Tryd.checked) (X := fun w _ => laidMetH Tryd.prog C.laid3 w) (fun _ _ _ hh h => h.of_heap hh) C.own started (by kernel_rfl) Tryd.func4
    (ChangeSpec.witness_shaped (enc := enc) (C := Tryd.checked) (os := os) (X := fun w _ => laidMetH Tryd.prog C.laid3 w) false (World.doorLaid Tryd.prog 4000 os) #[.string ByteArray.empty, .string ByteArray.empty] 8 rfl (C.door_shaped os _) (by kernel_rfl) (by kernel_rfl) (by kernel_rfl) (C.door_met os _)) ?_
  intro W base args ds gs before hval0 hW _ hsz0 hL _
  have hsz : (DataW.weightsEach Tryd.prog (Tryd.f4.params.toList ++ Rows.ruleReadsSpec.plain.varTypes Tryd.prog) (ds ++ gs)).all (· ≤ reachBytes) = true := hsz0
  have hval : ∀ (j : Nat) t v, Tryd.f4.params[j]? = some t → args[j]? = some v → Value.okWide Tryd.prog W .any base t v := hval0
  have hW' := hW
  obtain ⟨p, q, hA0, hV, rfl, hfz, hnd⟩ := hW
  have hA : DataW.TrodAll enc Tryd.prog W 0 (fun _ => true) true Tryd.f4.params.toList args.toList ds p := hA0
  rw [Tryd.params4] at hA hval hsz
  obtain ⟨v0, vs0, d0, ds0, p0, q0, hargs, rfl, rfl, h0, r0⟩ := trodAll_cons hA
  obtain ⟨v1, vs1, d1, ds1, p1, q1, rfl, rfl, rfl, h1, r1⟩ := trodAll_cons r0
  obtain ⟨rfl, rfl, rfl⟩ := trodAll_nil r1
  obtain rfl : args = #[v0, v1] := by cases args; simp_all
  obtain ⟨rfl, rfl⟩ := trodVars_none hV
  obtain ⟨a0, rfl, rfl, rfl, y0⟩ := open_string Tryd.underlying9 (hval 0 9 v0 rfl rfl) h0
  have w0 : a0.size ≤ 140737488351232 := by
    have z := sized_string hsz (j := 0) (t := 9) rfl rfl
    rw [Array.length_toList] at z
    exact z
  obtain ⟨a1, rfl, rfl, rfl, y1⟩ := open_string Tryd.underlying9 (hval 1 9 v1 rfl rfl) h1
  have w1 : a1.size ≤ 140737488351232 := by
    have z := sized_string hsz (j := 1) (t := 9) rfl rfl
    rw [Array.length_toList] at z
    exact z
  clear hA0 hval0 hsz0 hsz
  refine (C.aumbrylaw06_RuleReads.walk Pure.RuleReads a0 a1 W w0 w1).mono fun e W' ⟨he, bel⟩ => ?_
  subst he
  exact ⟨_, rfl, _, _, _, [], _, [], hW', trodAll_mk1 (shut_bool Tryd.underlying4 _), (trodAll_cons_mk (shut_string Tryd.underlying9 y0) (trodAll_cons_mk (shut_string Tryd.underlying9 y1) trodAll_mk0)), rfl, bel.frame _, fun h => by cases h⟩
theorem row : Rows.RuleReadsSaid :=
  OpenClaim.holds_of_wide 4 Tryd.f4 rfl rfl rfl rfl rfl rfl rfl ⟨rfl, rfl, rfl, rfl, rfl⟩ rfl rfl rfl rfl rfl (by kernel_rfl) Tryd.func4 (by kernel_rfl)
    (of_decide_eq_true (by kernel_rfl)) (by unfold Func.isWrapper; first | (rw [if_pos (by decide +kernel)]; kernel_rfl) | (rw [if_neg (by decide +kernel)]; exact ⟨rfl, rfl⟩))
    (fun os started H enc _ => lifted os started H enc)
theorem proved : Rows.RuleReadsCardSaid :=
  Claim7.holds_tied_plain_at .later [] [.data, .data, .data] true (true, "d7d3729d2d58240f662ab746c0667e5a7bf5c879bdf9c037e04c36a243ffaedc") true
    row (fun _ h => by cases h) (by kernel_rfl) (fun _ h => by cases h) ruleReads_row_tie rfl ⟨rfl, rfl⟩ (by kernel_rfl) rfl
    (fun f fn hf hfn => by
      obtain rfl : f = 4 := Option.some.inj ((show Tryd.prog.funcNamed "aumbry/aumbrylaw06.RuleReads" = some 4 by kernel_rfl).symm.trans hf) |>.symm
      obtain rfl : fn = Tryd.f4 := (Option.some.inj (Tryd.func4.symm.trans hfn)).symm
      exact ⟨by kernel_rfl, fun j t ht => by
        rw [Tryd.params4] at ht
        have hm : t ∈ [9, 9] := by simpa using Array.mem_of_getElem? ht
        have hall : ([9, 9].all fun u => !Tryd.prog.wantsStandIn u) = true := by kernel_rfl
        exact (show Tryd.prog.wantsStandIn t = false by simpa using List.all_eq_true.1 hall t hm)⟩)
    (by kernel_rfl)
#print axioms proved
end Go.Proofs.YtnkpcnnbeaomnaaDoor.ruleReads
namespace Go.Proofs.YtnkpcnnbeaomnaaDoor
/-- The card, under a short name, for the claim. -/
theorem ruleReads_card : Rows.RuleReadsCardSaid := ruleReads.proved
end Go.Proofs.YtnkpcnnbeaomnaaDoor
end
