import Derived.Test.YtnkpcnnbeaomnaaDoorRB2
import Derived.Test.YtnkpcnnbeaomnaaDoorRB12
import Derived.Test.YtnkpcnnbeaomnaaDoorRB13
import Derived.Test.YtnkpcnnbeaomnaaDoorRB6
import Derived.Test.YtnkpcnnbeaomnaaDoorRB10
import Derived.Test.YtnkpcnnbeaomnaaDoorRB11
import Derived.Deep.Slices
import Derived.ChangeSame
import Derived.SizedLaws
import Derived.Test.YtnkpcnnbeaomnaaDoorRows
import Derived.ProofKit
import Derived.LaidMore
import Derived.Test.YtnkpcnnbeaomnaaDoorCards
import Derived.Test.YtnkpcnnbeaomnaaDoorTie
import Derived.SevenTiedAt
import Derived.WalkKit
import Derived.OpenShut
import Derived.ShutString
import Derived.ChangeOld
import Derived.Below
import Derived.Carry

section
-- Written by a program of this session (a scratch print over hand-made contracts), out of the translation. Not trusted: Lean checks it.
namespace Go.Proofs.YtnkpcnnbeaomnaaDoor.C
open Go.RowKit Go.Proofs.YtnkpcnnbeaomnaaDoorW.PrintWords Go.Proofs.YtnkpcnnbeaomnaaDoorW.PrintLast Go.Proofs.YtnkpcnnbeaomnaaDoorW.PrintMore
attribute [local go_sem] max2_int min2_int max_two min_two max_three min_three max_four min_four   -- for this text's walks alone
set_option linter.unusedVariables false
set_option linter.unusedSimpArgs false

/-! ### aumbryref05_Var: function 37 -/

end Go.Proofs.YtnkpcnnbeaomnaaDoor.C
end

section
-- Written by a program of this session (a scratch print over hand-made contracts), out of the translation. Not trusted: Lean checks it.
namespace Go.Proofs.YtnkpcnnbeaomnaaDoor.C
open Go.RowKit Go.Proofs.YtnkpcnnbeaomnaaDoorW.PrintWords Go.Proofs.YtnkpcnnbeaomnaaDoorW.PrintLast Go.Proofs.YtnkpcnnbeaomnaaDoorW.PrintMore
attribute [local go_sem] max2_int min2_int max_two min_two max_three min_three max_four min_four   -- for this text's walks alone
set_option linter.unusedVariables false
set_option linter.unusedSimpArgs false

/-! ### aumbryref06_Check: function 11 -/

end Go.Proofs.YtnkpcnnbeaomnaaDoor.C
end

section
/- What the program's and the reference's functions on rules come to: one answer for rule.Check and the reference's, the fixed fact, copies. Plain words, no machine. -/
namespace Go.Proofs.YtnkpcnnbeaomnaaDoor.C
open Go.RowKit Go.Proofs.YtnkpcnnbeaomnaaDoorW.PrintWords Go.Proofs.YtnkpcnnbeaomnaaDoorW.PrintLast Go.Proofs.YtnkpcnnbeaomnaaDoorW.PrintMore
set_option linter.unusedVariables false
set_option linter.unusedSimpArgs false

theorem wakes6_at : aumbrylaw06_wakes.f 60 = some true := by kernel_rfl
theorem wakes6_ev : Ev (fun k => aumbrylaw06_wakes.f k) true := Ev.of (g := fun k => aumbrylaw06_wakes.f k) (fun k => aumbrylaw06_wakes.mono k) wakes6_at

/-- Has one of b no like in a? -/
def missL (a b : List ByteArray) : Bool := b.any fun s => !(hasB a s)
/-- P6.1. -/
def chkR (id : Int) (l r : List S33) : Int := if id < 0 ∨ id > 65535 then 1 else if chk l = 0 then if chk r = 0 then if (l.length : Int) > 8 ∨ (r.length : Int) > 8 then 6 else if kindOf (rd_T33 l 0).f0 = 2 then 20 else if missL (varsL l []) (varsL r []) = true then 7 else 0 else chk r else chk l

theorem miss_l0 (a b : List ByteArray) (ha : a.length ≤ 1000000) (hb : b.length ≤ 1000000) : ∀ d i : Nat, i + d = b.length → ∃ t, Ev (fun k => ruleIdx.l0 k a b (i : Int)) t ∧ decide (t ≥ 0) = missL a (b.drop i)
  | 0, i, h => by
    refine ⟨-1, Ev.nxt 0 (fun k _ => ?_), ?_⟩
    · simp only [ruleIdx.l0]
      rw [if_neg (by omega)]
    · rw [List.drop_eq_nil_of_le (by omega)]
      rfl
  | d + 1, i, h => by
    have hw : wrap64 ((i : Int) + 1) = ((i + 1 : Nat) : Int) := by unfold wrap64; omega
    rw [drop_of b i (by omega)]
    have hc := contains_ev a (rdOf ByteArray.empty b i) ha
    obtain ⟨t, h1, h2⟩ := miss_l0 a b ha hb d (i + 1) (by omega)
    cases hh : hasB a (rdOf ByteArray.empty b i)
    · refine ⟨(i : Int), Ev.step (f := fun k => (slices_Contains_string_string.f k a (rdOf ByteArray.empty b i)).bind fun t => if t = true then ruleIdx.l0 k a b (wrap64 ((i : Int) + 1)) else some (i : Int)) (fun k => ?_) (Ev.bind hc ?_), ?_⟩
      · simp only [ruleIdx.l0]
        rw [if_pos (by omega), if_pos (by omega), if_pos (by omega)]
      · rw [hh]
        exact Ev.now _
      · simp [missL, hh]
    · refine ⟨t, Ev.step (f := fun k => (slices_Contains_string_string.f k a (rdOf ByteArray.empty b i)).bind fun t => if t = true then ruleIdx.l0 k a b (wrap64 ((i : Int) + 1)) else some (i : Int)) (fun k => ?_) (Ev.bind hc ?_), ?_⟩
      · simp only [ruleIdx.l0]
        rw [if_pos (by omega), if_pos (by omega), if_pos (by omega)]
      · rw [hh, hw]
        exact Ev.congr (fun k => by rw [if_pos rfl]) h1
      · rw [h2]
        simp [missL, hh]
theorem strange_ev (l r : List S33) (hl : chk l = 0) (hr : chk r = 0) : Ev (fun k => ruleStrange.f k l r) (missL (varsL l []) (varsL r [])) := by
  have e1 := varsL_len l []
  have e2 := varsL_len r []
  have l1 : l.length ≤ 64 := by obtain ⟨T, _, _, hl⟩ := tree_of_chk l hl; exact hl
  have l2 : r.length ≤ 64 := by obtain ⟨T, _, _, hl⟩ := tree_of_chk r hr; exact hl
  simp only [List.length_nil] at e1 e2
  obtain ⟨t, h1, h2⟩ := miss_l0 (varsL l []) (varsL r []) (by omega) (by omega) (varsL r []).length 0 (by omega)
  rw [List.drop_zero] at h2
  refine Ev.bind (vars_ok l hl) (Ev.bind (vars_ok r hr) (Ev.bind h1 ?_))
  rw [h2]
  exact Ev.now _
theorem ruleCheck_ev (id : Int) (l r : List S33) : Ev (fun k => rule_Check.f k id l r) (chkR id l r) := by
  unfold chkR
  by_cases c0 : id < 0 ∨ id > 65535
  · rw [if_pos c0]
    exact Ev.congr (f := fun _ => some 1) (fun k => by simp only [rule_Check.f]; rw [if_pos c0]) (Ev.now _)
  rw [if_neg c0]
  refine Ev.congr (f := fun k => (term_Check.f k l).bind fun e2 => if e2 = 0 then
    (term_Check.f k r).bind fun e3 => if e3 = 0 then
    if (l.length : Int) > 8 ∨ (r.length : Int) > 8 then some 6 else
    (ruleCheck5.f k l).bind fun e5 => if e5 = 0 then
    (ruleStrange.f k l r).bind fun b => some (if b = true then 7 else 0)
    else some e5 else some e3 else some e2) (fun k => by simp only [rule_Check.f]; rw [if_neg c0]) ?_
  refine Ev.bind (check_ev l) ?_
  by_cases c1 : chk l = 0
  rotate_left
  · simp only [if_neg c1]
    exact Ev.now _
  simp only [if_pos c1]
  refine Ev.bind (check_ev r) ?_
  by_cases c2 : chk r = 0
  rotate_left
  · simp only [if_neg c2]
    exact Ev.now _
  simp only [if_pos c2]
  by_cases c3 : (l.length : Int) > 8 ∨ (r.length : Int) > 8
  · simp only [if_pos c3]
    exact Ev.now _
  simp only [if_neg c3]
  have hp : 0 < l.length := by obtain ⟨T, rfl, _, _⟩ := tree_of_chk l c1; exact flat_pos T
  have h5 : Ev (fun k => ruleCheck5.f k l) (if kindOf (rd_T33 l 0).f0 = 2 then 20 else 0) := by
    refine Ev.congr (f := fun k => (name_Kind.f k (rd_T33 l 0).f0).bind fun n => some (if n = 2 then 20 else 0)) (fun k => by unfold ruleCheck5.f; rw [if_pos (by omega)]) (Ev.bind (kind_ev _) (Ev.now _))
  refine Ev.bind h5 ?_
  by_cases c4 : kindOf (rd_T33 l 0).f0 = 2
  · simp only [if_pos c4]
    exact Ev.now _
  simp only [if_neg c4, if_true]
  refine Ev.bind (strange_ev l r c1 c2) ?_
  exact Ev.now _

theorem same6_ev (id : Int) (l r : List S33) (h1 : l.length ≤ 4611686018427387904) (h2 : r.length ≤ 4611686018427387904) : Ev (fun k => aumbryref06_Same.f k id l r id l r) true := by
  refine Ev.congr (f := fun k => (aumbryref04_Same.f k l l).bind fun t297 => (if t297 = true then ((aumbryref04_Same.f k r r).bind fun t298 => (some t298)) else (some false))) (fun k => by unfold aumbryref06_Same.f; rw [if_pos rfl]) ?_
  refine Ev.bind (sameT_ev l h1) ?_
  simp only [if_true]
  exact Ev.bind (sameT_ev r h2) (Ev.now _)
end Go.Proofs.YtnkpcnnbeaomnaaDoor.C
end

section
/- A rule that is read is written as it was read, its sides with an arrow between: the law's plain statement. -/
namespace Go.Proofs.YtnkpcnnbeaomnaaDoor.Pure
open Go.RowKit Go.Proofs.YtnkpcnnbeaomnaaDoor.C Go.Proofs.YtnkpcnnbeaomnaaDoorW.PrintWords Go.Proofs.YtnkpcnnbeaomnaaDoorW.PrintLast
set_option linter.unusedVariables false
set_option linter.unusedSimpArgs false

theorem nil_same : Ev (fun k => (aumbryref06_Same.f k 0 ([] : List S33) [] 0 [] []).bind fun t419 => some t419) true :=
  Ev.bind (same6_ev 0 [] [] (by simp) (by simp)) (Ev.now _)
theorem RuleBack : aumbrylaw06_RuleBack.Pure := by
  intro s u hs hu
  refine Ev.rounds (r := true) ?_
  refine Ev.bind wakes6_ev ?_
  simp only [if_true]
  obtain ⟨t, a, e, h1, h2, h3⟩ := parse_back s
  obtain ⟨t', a', e', g1, g2, g3⟩ := parse_back u
  by_cases he : e = 0
  rotate_left
  · refine Ev.bind (a := (0, [], [], e)) (Ev.bind h1 ?_) ?_
    · simp only [if_neg he]
      exact Ev.now _
    · simp only [if_neg he]
      exact nil_same
  by_cases hf : e' = 0
  rotate_left
  · refine Ev.bind (a := (0, [], [], e')) (Ev.bind h1 ?_) ?_
    · simp only [if_pos he]
      refine Ev.bind g1 ?_
      simp only [if_neg hf]
      exact Ev.now _
    · simp only [if_neg hf]
      exact nil_same
  obtain ⟨T, rfl, f1, f2, rfl⟩ := h2 he
  obtain ⟨U, rfl, k1, k2, rfl⟩ := g2 hf
  by_cases hc : chkR 0 (flat T) (flat U) = 0
  rotate_left
  · refine Ev.bind (a := (0, [], [], chkR 0 (flat T) (flat U))) (Ev.bind h1 ?_) ?_
    · simp only [if_pos he]
      refine Ev.bind g1 ?_
      simp only [if_pos hf]
      refine Ev.bind (ruleCheck_ev 0 (flat T) (flat U)) ?_
      simp only [if_neg hc]
      exact Ev.now _
    · simp only [if_neg hc]
      exact nil_same
  have z : (C.bytes (txt T) ++ (⟨#[32, 45, 62, 32]⟩ : ByteArray)).size = (C.bytes (txt T)).size + 4 := by rw [ByteArray.size_append]; rfl
  refine Ev.bind (a := (0, flat T, flat U, 0)) (Ev.bind h1 ?_) ?_
  · simp only [if_pos he]
    refine Ev.bind g1 ?_
    simp only [if_pos hf]
    refine Ev.bind (ruleCheck_ev 0 (flat T) (flat U)) ?_
    simp only [if_pos hc]
    exact Ev.now _
  simp only [if_true]
  have hp : Ev (fun k => rule_Print.f k 0 (flat T) (flat U)) ((C.bytes (txt T) ++ (⟨#[32, 45, 62, 32]⟩ : ByteArray)) ++ C.bytes (txt U), 0) := by
    refine Ev.bind (ruleCheck_ev 0 (flat T) (flat U)) ?_
    simp only [if_pos hc]
    refine Ev.bind (print_ok T f1 f2) (Ev.bind (print_ok U k1 k2) ?_)
    simp only [z]
    rw [if_pos (by omega), if_pos (by omega)]
    exact Ev.now _
  refine Ev.bind hp ?_
  have y1 : ((C.bytes (txt T)).size + 4 ≤ 9223372036854775807) = True := eq_true (by omega)
  have y2 : ((C.bytes (txt T)).size + 4 + (C.bytes (txt U)).size ≤ 9223372036854775807) = True := eq_true (by omega)
  simp only [if_true, z, y1, y2]
  refine Ev.bind (ruleCheck_ev 0 (flat T) (flat U)) ?_
  rw [hc]
  exact Ev.now _
end Go.Proofs.YtnkpcnnbeaomnaaDoor.Pure
end

section
/- An argument that can be read as data reads as a plain Lean value of its kind (strings, whole numbers, structs of two, slices of these), with the form's own bounds on its parts. -/
namespace Go.Proofs.YtnkpcnnbeaomnaaDoor.C
open Go.RowKit Go.ChangeShapes Go.WideShapes Go.Deep Go.Proofs.YtnkpcnnbeaomnaaDoorW.PrintWords
set_option linter.unusedVariables false
set_option linter.unusedSimpArgs false

section
variable {H : Type} {enc : TypeId × Value → H} {P : Program} {w : World} {base : Nat} {spare : Nat → Bool} {held : Bool}





end

section
variable {H : Type} {enc : TypeId × Value → H} {w : World} {base : Nat} {spare : Nat → Bool} {held : Bool}

end
end Go.Proofs.YtnkpcnnbeaomnaaDoor.C
end

section
/- The rows' door: a rule as an argument reads as a number and two terms; a world in which the listed variables are laid. -/
namespace Go.Proofs.YtnkpcnnbeaomnaaDoor.C
open Go.RowKit Go.ChangeShapes Go.WideShapes Go.Deep Go.Proofs.YtnkpcnnbeaomnaaDoorW.PrintWords
set_option linter.unusedVariables false
set_option linter.unusedSimpArgs false
variable {H : Type} {enc : TypeId × Value → H} {w : World} {base : Nat} {spare : Nat → Bool} {held : Bool}

def laid3 : List (String × DataW Unit) := [("math/bits.deBruijn32tab", Rows.laid_math_bits_deBruijn32tab), ("math/bits.deBruijn64tab", Rows.laid_math_bits_deBruijn64tab), ("internal/strconv.uint64pow10", Rows.laid_internal_strconv_uint64pow10)]
theorem own : ownKnob Tryd.prog.godebug = none := by kernel_rfl
/-- The door's own heap meets the condition. -/
theorem door_met (os : Os) (args : Array Value) : laidMetH Tryd.prog laid3 ((World.doorLaid Tryd.prog 4000 os).forCall (fun _ _ => 0) ⟨#[], args, []⟩).memory :=
  laidMetH_of_parts3 (fuel := 8) (laidMet_of_run' 8 (by kernel_rfl) (by kernel_rfl)) (by kernel_rfl) (by kernel_rfl)
theorem door_shaped (os : Os) (args : Array Value) : ((World.doorLaid Tryd.prog 4000 os).forCall (fun _ _ => 0) ⟨#[], args, []⟩).Shaped Tryd.prog := World.shaped_of_RefB (by kernel_rfl) (by kernel_rfl)
end Go.Proofs.YtnkpcnnbeaomnaaDoor.C
end

section
/- The row RuleBack and its card, out of its walk (C44), its plain law and the way its argument reads (HDoor). -/
namespace Go.Proofs.YtnkpcnnbeaomnaaDoor.ruleBack
open Go.ChangeShapes Go.WideShapes Go.ChangeAt Go.RowKit
open Go.ChangeMaps (open_string shut_string)
set_option linter.unusedVariables false
set_option maxRecDepth 100000 in
theorem lifted (os : Os) (started : os.Started) (H : Type) (enc : TypeId × Value → H) :
    ReturnsInHanded {} Tryd.checked os 6 .any (fun w args => (Rows.ruleBackSpec.pre enc Tryd.prog Tryd.f6 [] false w args ∧ laidMetH Tryd.prog C.laid3 w) ∧ sizedMet enc Tryd.prog Tryd.f6 (OpenSpec.ofChange Rows.ruleBackSpec) false w args)
      (Rows.ruleBackSpec.post enc Tryd.prog Tryd.f6 false true false false) := by
  refine returnsInHanded_of_change_and (C := Tryd.checked) (X := fun w _ => laidMetH Tryd.prog C.laid3 w) (fun _ _ _ hh h => h.of_heap hh) C.own started (by kernel_rfl) Tryd.func6
    (ChangeSpec.witness_shaped (enc := enc) (C := Tryd.checked) (os := os) (X := fun w _ => laidMetH Tryd.prog C.laid3 w) false (World.doorLaid Tryd.prog 4000 os) #[.string ByteArray.empty, .string ByteArray.empty] 8 rfl (C.door_shaped os _) (by kernel_rfl) (by kernel_rfl) (by kernel_rfl) (C.door_met os _)) ?_
  intro W base args ds gs before hval0 hW _ hsz0 hL _
  have hsz : (DataW.weightsEach Tryd.prog (Tryd.f6.params.toList ++ Rows.ruleBackSpec.plain.varTypes Tryd.prog) (ds ++ gs)).all (· ≤ reachBytes) = true := hsz0
  have hval : ∀ (j : Nat) t v, Tryd.f6.params[j]? = some t → args[j]? = some v → Value.okWide Tryd.prog W .any base t v := hval0
  have hW' := hW
  obtain ⟨p, q, hA0, hV, rfl, hfz, hnd⟩ := hW
  have hA : DataW.TrodAll enc Tryd.prog W 0 (fun _ => true) true Tryd.f6.params.toList args.toList ds p := hA0
  rw [Tryd.params6] at hA hval hsz
  obtain ⟨v0, vs0, d0, ds0, p0, q0, hargs, rfl, rfl, h0, r0⟩ := trodAll_cons hA
  obtain ⟨v1, vs1, d1, ds1, p1, q1, rfl, rfl, rfl, h1, r1⟩ := trodAll_cons r0
  obtain ⟨rfl, rfl, rfl⟩ := trodAll_nil r1
  obtain rfl : args = #[v0, v1] := by cases args; simp_all
  obtain ⟨rfl, rfl⟩ := trodVars_none hV
  obtain ⟨a0, rfl, rfl, rfl, y0⟩ := open_string Tryd.underlying9 (hval 0 9 v0 rfl rfl) h0
  have w0 : a0.size ≤ 140737488351232 := by
    have z := sized_string hsz (j := 0) (t := 9) rfl rfl
    rw [Array.length_toList] at z
    exact z
  obtain ⟨a1, rfl, rfl, rfl, y1⟩ := open_string Tryd.underlying9 (hval 1 9 v1 rfl rfl) h1
  have w1 : a1.size ≤ 140737488351232 := by
    have z := sized_string hsz (j := 1) (t := 9) rfl rfl
    rw [Array.length_toList] at z
    exact z
  clear hA0 hval0 hsz0 hsz
  refine (C.aumbrylaw06_RuleBack.walk Pure.RuleBack a0 a1 W w0 w1).mono fun e W' ⟨he, bel⟩ => ?_
  subst he
  exact ⟨_, rfl, _, _, _, [], _, [], hW', trodAll_mk1 (shut_bool Tryd.underlying4 _), (trodAll_cons_mk (shut_string Tryd.underlying9 y0) (trodAll_cons_mk (shut_string Tryd.underlying9 y1) trodAll_mk0)), rfl, bel.frame _, fun h => by cases h⟩
theorem row : Rows.RuleBackSaid :=
  OpenClaim.holds_of_wide 6 Tryd.f6 rfl rfl rfl rfl rfl rfl rfl ⟨rfl, rfl, rfl, rfl, rfl⟩ rfl rfl rfl rfl rfl (by kernel_rfl) Tryd.func6 (by kernel_rfl)
    (of_decide_eq_true (by kernel_rfl)) (by unfold Func.isWrapper; first | (rw [if_pos (by decide +kernel)]; kernel_rfl) | (rw [if_neg (by decide +kernel)]; exact ⟨rfl, rfl⟩))
    (fun os started H enc _ => lifted os started H enc)
theorem proved : Rows.RuleBackCardSaid :=
  Claim7.holds_tied_plain_at .later [] [.data, .data, .data] true (true, "d7d3729d2d58240f662ab746c0667e5a7bf5c879bdf9c037e04c36a243ffaedc") true
    row (fun _ h => by cases h) (by kernel_rfl) (fun _ h => by cases h) ruleBack_row_tie rfl ⟨rfl, rfl⟩ (by kernel_rfl) rfl
    (fun f fn hf hfn => by
      obtain rfl : f = 6 := Option.some.inj ((show Tryd.prog.funcNamed "aumbry/aumbrylaw06.RuleBack" = some 6 by kernel_rfl).symm.trans hf) |>.symm
      obtain rfl : fn = Tryd.f6 := (Option.some.inj (Tryd.func6.symm.trans hfn)).symm
      exact ⟨by kernel_rfl, fun j t ht => by
        rw [Tryd.params6] at ht
        have hm : t ∈ [9, 9] := by simpa using Array.mem_of_getElem? ht
        have hall : ([9, 9].all fun u => !Tryd.prog.wantsStandIn u) = true := by kernel_rfl
        exact (show Tryd.prog.wantsStandIn t = false by simpa using List.all_eq_true.1 hall t hm)⟩)
    (by kernel_rfl)
#print axioms proved
end Go.Proofs.YtnkpcnnbeaomnaaDoor.ruleBack
namespace Go.Proofs.YtnkpcnnbeaomnaaDoor
/-- The card, under a short name, for the claim. -/
theorem ruleBack_card : Rows.RuleBackCardSaid := ruleBack.proved
end Go.Proofs.YtnkpcnnbeaomnaaDoor
end
