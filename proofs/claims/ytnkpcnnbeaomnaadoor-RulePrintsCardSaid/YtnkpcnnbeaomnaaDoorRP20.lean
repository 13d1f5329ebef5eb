import Derived.Test.YtnkpcnnbeaomnaaDoorRP19
import Derived.Test.YtnkpcnnbeaomnaaDoorRP4
import Derived.Test.YtnkpcnnbeaomnaaDoorRP10
import Derived.Test.YtnkpcnnbeaomnaaDoorRP11
import Derived.Test.YtnkpcnnbeaomnaaDoorRP14
import Derived.Test.YtnkpcnnbeaomnaaDoorRP15
import Derived.Test.YtnkpcnnbeaomnaaDoorRP16
import Derived.Test.YtnkpcnnbeaomnaaDoorRP18
import Derived.Test.YtnkpcnnbeaomnaaDoorRP2
import Derived.Deep.Slices
import Derived.ChangeSame
import Derived.SizedLaws
import Derived.Test.YtnkpcnnbeaomnaaDoorRows
import Derived.ProofKit
import Derived.LaidMore
import Derived.Test.YtnkpcnnbeaomnaaDoorCards
import Derived.Test.YtnkpcnnbeaomnaaDoorTie
import Derived.SevenTiedAt
import Derived.WalkKit
import Derived.OpenShut
import Derived.ShutString
import Derived.ChangeOld
import Derived.Below
import Derived.Carry

section
/- What the program's and the reference's functions on rules come to: one answer for rule.Check and the reference's, the fixed fact, copies. Plain words, no machine. -/
namespace Go.Proofs.YtnkpcnnbeaomnaaDoor.C
open Go.RowKit Go.Proofs.YtnkpcnnbeaomnaaDoorW.PrintWords Go.Proofs.YtnkpcnnbeaomnaaDoorW.PrintLast Go.Proofs.YtnkpcnnbeaomnaaDoorW.PrintMore
set_option linter.unusedVariables false
set_option linter.unusedSimpArgs false

theorem wakes6_at : aumbrylaw06_wakes.f 60 = some true := by kernel_rfl
theorem wakes6_ev : Ev (fun k => aumbrylaw06_wakes.f k) true := Ev.of (g := fun k => aumbrylaw06_wakes.f k) (fun k => aumbrylaw06_wakes.mono k) wakes6_at
theorem copy4 {t : List S33} (h : t.length < 5864062014805) : aumbryref04_Copy.f t = some t := by unfold aumbryref04_Copy.f; rw [if_pos (by simpa using h)]; rfl
theorem copy6 (id : Int) {l r : List S33} (h1 : l.length < 5864062014805) (h2 : r.length < 5864062014805) : aumbryref06_Copy.f id l r = some (id, l, r) := by
  unfold aumbryref06_Copy.f
  rw [copy4 h1, Option.bind_some, copy4 h2, Option.bind_some]

/-- Has one of b no like in a? -/
def missL (a b : List ByteArray) : Bool := b.any fun s => !(hasB a s)
/-- P6.1. -/
def chkR (id : Int) (l r : List S33) : Int := if id < 0 ∨ id > 65535 then 1 else if chk l = 0 then if chk r = 0 then if (l.length : Int) > 8 ∨ (r.length : Int) > 8 then 6 else if kindOf (rd_T33 l 0).f0 = 2 then 20 else if missL (varsL l []) (varsL r []) = true then 7 else 0 else chk r else chk l

theorem miss_l0 (a b : List ByteArray) (ha : a.length ≤ 1000000) (hb : b.length ≤ 1000000) : ∀ d i : Nat, i + d = b.length → ∃ t, Ev (fun k => ruleIdx.l0 k a b (i : Int)) t ∧ decide (t ≥ 0) = missL a (b.drop i)
  | 0, i, h => by
    refine ⟨-1, Ev.nxt 0 (fun k _ => ?_), ?_⟩
    · simp only [ruleIdx.l0]
      rw [if_neg (by omega)]
    · rw [List.drop_eq_nil_of_le (by omega)]
      rfl
  | d + 1, i, h => by
    have hw : wrap64 ((i : Int) + 1) = ((i + 1 : Nat) : Int) := by unfold wrap64; omega
    rw [drop_of b i (by omega)]
    have hc := contains_ev a (rdOf ByteArray.empty b i) ha
    obtain ⟨t, h1, h2⟩ := miss_l0 a b ha hb d (i + 1) (by omega)
    cases hh : hasB a (rdOf ByteArray.empty b i)
    · refine ⟨(i : Int), Ev.step (f := fun k => (slices_Contains_string_string.f k a (rdOf ByteArray.empty b i)).bind fun t => if t = true then ruleIdx.l0 k a b (wrap64 ((i : Int) + 1)) else some (i : Int)) (fun k => ?_) (Ev.bind hc ?_), ?_⟩
      · simp only [ruleIdx.l0]
        rw [if_pos (by omega), if_pos (by omega), if_pos (by omega)]
      · rw [hh]
        exact Ev.now _
      · simp [missL, hh]
    · refine ⟨t, Ev.step (f := fun k => (slices_Contains_string_string.f k a (rdOf ByteArray.empty b i)).bind fun t => if t = true then ruleIdx.l0 k a b (wrap64 ((i : Int) + 1)) else some (i : Int)) (fun k => ?_) (Ev.bind hc ?_), ?_⟩
      · simp only [ruleIdx.l0]
        rw [if_pos (by omega), if_pos (by omega), if_pos (by omega)]
      · rw [hh, hw]
        exact Ev.congr (fun k => by rw [if_pos rfl]) h1
      · rw [h2]
        simp [missL, hh]
theorem strange_ev (l r : List S33) (hl : chk l = 0) (hr : chk r = 0) : Ev (fun k => ruleStrange.f k l r) (missL (varsL l []) (varsL r [])) := by
  have e1 := varsL_len l []
  have e2 := varsL_len r []
  have l1 : l.length ≤ 64 := by obtain ⟨T, _, _, hl⟩ := tree_of_chk l hl; exact hl
  have l2 : r.length ≤ 64 := by obtain ⟨T, _, _, hl⟩ := tree_of_chk r hr; exact hl
  simp only [List.length_nil] at e1 e2
  obtain ⟨t, h1, h2⟩ := miss_l0 (varsL l []) (varsL r []) (by omega) (by omega) (varsL r []).length 0 (by omega)
  rw [List.drop_zero] at h2
  refine Ev.bind (vars_ok l hl) (Ev.bind (vars_ok r hr) (Ev.bind h1 ?_))
  rw [h2]
  exact Ev.now _
theorem ruleCheck_ev (id : Int) (l r : List S33) : Ev (fun k => rule_Check.f k id l r) (chkR id l r) := by
  unfold chkR
  by_cases c0 : id < 0 ∨ id > 65535
  · rw [if_pos c0]
    exact Ev.congr (f := fun _ => some 1) (fun k => by simp only [rule_Check.f]; rw [if_pos c0]) (Ev.now _)
  rw [if_neg c0]
  refine Ev.congr (f := fun k => (term_Check.f k l).bind fun e2 => if e2 = 0 then
    (term_Check.f k r).bind fun e3 => if e3 = 0 then
    if (l.length : Int) > 8 ∨ (r.length : Int) > 8 then some 6 else
    (ruleCheck5.f k l).bind fun e5 => if e5 = 0 then
    (ruleStrange.f k l r).bind fun b => some (if b = true then 7 else 0)
    else some e5 else some e3 else some e2) (fun k => by simp only [rule_Check.f]; rw [if_neg c0]) ?_
  refine Ev.bind (check_ev l) ?_
  by_cases c1 : chk l = 0
  rotate_left
  · simp only [if_neg c1]
    exact Ev.now _
  simp only [if_pos c1]
  refine Ev.bind (check_ev r) ?_
  by_cases c2 : chk r = 0
  rotate_left
  · simp only [if_neg c2]
    exact Ev.now _
  simp only [if_pos c2]
  by_cases c3 : (l.length : Int) > 8 ∨ (r.length : Int) > 8
  · simp only [if_pos c3]
    exact Ev.now _
  simp only [if_neg c3]
  have hp : 0 < l.length := by obtain ⟨T, rfl, _, _⟩ := tree_of_chk l c1; exact flat_pos T
  have h5 : Ev (fun k => ruleCheck5.f k l) (if kindOf (rd_T33 l 0).f0 = 2 then 20 else 0) := by
    refine Ev.congr (f := fun k => (name_Kind.f k (rd_T33 l 0).f0).bind fun n => some (if n = 2 then 20 else 0)) (fun k => by unfold ruleCheck5.f; rw [if_pos (by omega)]) (Ev.bind (kind_ev _) (Ev.now _))
  refine Ev.bind h5 ?_
  by_cases c4 : kindOf (rd_T33 l 0).f0 = 2
  · simp only [if_pos c4]
    exact Ev.now _
  simp only [if_neg c4, if_true]
  refine Ev.bind (strange_ev l r c1 c2) ?_
  exact Ev.now _

theorem rmiss_l0 (a b : List ByteArray) (ha : a.length ≤ 1000000) (hb : b.length ≤ 1000000) : ∀ d i : Nat, i + d = b.length → Ev (fun k => aumbryref06_Check.l0 k a b (b.length : Int) (i : Int)) (if missL a (b.drop i) = true then 7 else 0)
  | 0, i, h => by
    refine Ev.nxt 0 (fun k _ => ?_)
    simp only [aumbryref06_Check.l0]
    rw [if_neg (by omega), List.drop_eq_nil_of_le (by omega)]
    rfl
  | d + 1, i, h => by
    have hw : wrap64 ((i : Int) + 1) = ((i + 1 : Nat) : Int) := by unfold wrap64; omega
    rw [drop_of b i (by omega)]
    have hc := has_ev a (rdOf ByteArray.empty b i) ha
    have ih := rmiss_l0 a b ha hb d (i + 1) (by omega)
    refine Ev.step (f := fun k => (aumbryref03_Has.f k a (rdOf ByteArray.empty b i)).bind fun t239 => (if t239 = true then (aumbryref06_Check.l0 k a b (b.length : Int) (wrap64 ((i : Int) + 1))) else (some 7))) (fun k => ?_) (Ev.bind hc ?_)
    · simp only [aumbryref06_Check.l0]
      rw [if_pos (by omega), if_pos (by omega), if_pos (by omega)]
    cases hh : hasB a (rdOf ByteArray.empty b i)
    · refine Ev.congr (f := fun _ => some 7) (fun k => by simp) ?_
      simp only [missL, List.any_cons, hh, Bool.not_false, Bool.true_or, if_true]
      exact Ev.now _
    · rw [hw]
      refine Ev.congr (f := fun k => aumbryref06_Check.l0 k a b (b.length : Int) ((i + 1 : Nat) : Int)) (fun k => by simp) ?_
      simp only [missL, List.any_cons, hh, Bool.not_true, Bool.false_or]
      exact ih
theorem var_ev (l : List S33) (h : chk l = 0) : Ev (fun k => aumbryref05_Var.f k l) (decide (kindOf (rd_T33 l 0).f0 = 2)) := by
  obtain ⟨T, rfl, hf, hl⟩ := tree_of_chk l h
  cases T with
  | node n ks =>
    have hd : (rd_T33 (flat (.node n ks)) 0).f0 = n := by simp [flat, rd_T33, rdOf]
    rw [hd]
    by_cases hn : (flat (.node n ks)).length = 1
    · refine Ev.congr (f := fun k => (aumbryref03_Kind.f k n).bind fun t218 => (some (t218 == 2))) (fun k => by unfold aumbryref05_Var.f; rw [if_pos (by omega), if_pos (by omega), hd]) (Ev.bind (rkind_ev n) ?_)
      exact Ev.now _
    · refine Ev.congr (f := fun k => some false) (fun k => by unfold aumbryref05_Var.f; rw [if_neg (by omega)]) ?_
      have : kindOf n ≠ 2 := by
        intro h2
        simp only [fine] at hf
        have h3 := hf.2.2.1 h2
        subst h3
        simp [flat, flatL] at hn
      rw [decide_eq_false this]
      exact Ev.now _
theorem refCheck_ev (id : Int) (l r : List S33) : Ev (fun k => aumbryref06_Check.f k id l r) (chkR id l r) := by
  unfold chkR
  have h0 : Ev (fun k => aumbryref06_Check.j0 k (decide (id < 0 ∨ id > 65535)) id l r) (chkR id l r) := by
    unfold chkR
    by_cases c0 : id < 0 ∨ id > 65535
    · rw [if_pos c0]
      exact Ev.step (f := fun _ => some 1) (fun k => by simp only [aumbryref06_Check.j0]; rw [if_pos (by simpa using c0)]) (Ev.now _)
    rw [if_neg c0]
    refine Ev.step (f := fun k => (aumbryref04_Check.f k l).bind fun t229 => (if t229 = 0 then ((aumbryref04_Check.f k r).bind fun t230 => (if t230 = 0 then (if (l.length : Int) > 8 then (aumbryref06_Check.j1 k true id l r) else (aumbryref06_Check.j1 k (decide ((r.length : Int) > 8)) id l r)) else (some t230))) else (some t229))) (fun k => by simp only [aumbryref06_Check.j0]; rw [if_neg (by simpa using c0)]) ?_
    refine Ev.bind (rcheck_ev l) ?_
    by_cases c1 : chk l = 0
    rotate_left
    · simp only [if_neg c1]
      exact Ev.now _
    simp only [if_pos c1]
    refine Ev.bind (rcheck_ev r) ?_
    by_cases c2 : chk r = 0
    rotate_left
    · simp only [if_neg c2]
      exact Ev.now _
    simp only [if_pos c2]
    refine Ev.congr (f := fun k => aumbryref06_Check.j1 k (decide ((l.length : Int) > 8 ∨ (r.length : Int) > 8)) id l r) (fun k => ?_) ?_
    · by_cases c : (l.length : Int) > 8
      · rw [if_pos c, decide_eq_true (Or.inl c)]
      · rw [if_neg c]
        congr 1
        simp [c]
    by_cases c3 : (l.length : Int) > 8 ∨ (r.length : Int) > 8
    · simp only [if_pos c3]
      exact Ev.step (f := fun _ => some 6) (fun k => by simp only [aumbryref06_Check.j1]; rw [if_pos (by simpa using c3)]) (Ev.now _)
    simp only [if_neg c3]
    refine Ev.step (f := fun k => (aumbryref05_Var.f k l).bind fun t231 => (if t231 = true then (some 20) else ((aumbryref04_Vars.f k l).bind fun t232 => ((aumbryref04_Vars.f k r).bind fun t235 => (aumbryref06_Check.l0 k t232 t235 (t235.length : Int) 0))))) (fun k => by simp only [aumbryref06_Check.j1]; rw [if_neg (by simpa using c3)]) ?_
    refine Ev.bind (var_ev l c1) ?_
    by_cases c4 : kindOf (rd_T33 l 0).f0 = 2
    · simp only [if_pos c4, decide_eq_true c4, if_true]
      exact Ev.now _
    simp only [if_neg c4, decide_eq_false c4, Bool.false_eq_true, if_false]
    have l1 : l.length ≤ 64 := by obtain ⟨T, _, _, hl⟩ := tree_of_chk l c1; exact hl
    have l2 : r.length ≤ 64 := by obtain ⟨T, _, _, hl⟩ := tree_of_chk r c2; exact hl
    have e1 := varsL_len l []
    have e2 := varsL_len r []
    simp only [List.length_nil] at e1 e2
    refine Ev.bind (rvars_ev l (by omega)) (Ev.bind (rvars_ev r (by omega)) ?_)
    have := rmiss_l0 (varsL l []) (varsL r []) (by omega) (by omega) (varsL r []).length 0 (by omega)
    rw [List.drop_zero] at this
    exact this
  refine Ev.congr (fun k => ?_) h0
  unfold aumbryref06_Check.f
  by_cases c : id < 0
  · rw [if_pos c, decide_eq_true (Or.inl c)]
  · rw [if_neg c]
    congr 1
    simp [c]
theorem same6_ev (id : Int) (l r : List S33) (h1 : l.length ≤ 4611686018427387904) (h2 : r.length ≤ 4611686018427387904) : Ev (fun k => aumbryref06_Same.f k id l r id l r) true := by
  refine Ev.congr (f := fun k => (aumbryref04_Same.f k l l).bind fun t297 => (if t297 = true then ((aumbryref04_Same.f k r r).bind fun t298 => (some t298)) else (some false))) (fun k => by unfold aumbryref06_Same.f; rw [if_pos rfl]) ?_
  refine Ev.bind (sameT_ev l h1) ?_
  simp only [if_true]
  exact Ev.bind (sameT_ev r h2) (Ev.now _)
theorem chkR_ok {id : Int} {l r : List S33} (h : chkR id l r = 0) : 0 ≤ id ∧ id ≤ 65535 ∧ chk l = 0 ∧ chk r = 0 ∧ l.length ≤ 8 ∧ r.length ≤ 8 ∧ kindOf (rd_T33 l 0).f0 ≠ 2 ∧ missL (varsL l []) (varsL r []) = false := by
  unfold chkR at h
  split at h
  · simp at h
  split at h
  rotate_left
  · rename_i h0 h1; exact absurd h h1
  split at h
  rotate_left
  · rename_i h0 h1 h2; exact absurd h h2
  split at h
  · simp at h
  split at h
  · simp at h
  split at h
  · simp at h
  rename_i a b c d e f
  exact ⟨by omega, by omega, b, c, by omega, by omega, e, by simpa using f⟩
end Go.Proofs.YtnkpcnnbeaomnaaDoor.C
end

section
/- A rule's plain form: the program's and the reference's come to the same cells. Plain words, no machine. -/
namespace Go.Proofs.YtnkpcnnbeaomnaaDoor.C
open Go.RowKit Go.Proofs.YtnkpcnnbeaomnaaDoorW.PrintWords Go.Proofs.YtnkpcnnbeaomnaaDoorW.PrintLast Go.Proofs.YtnkpcnnbeaomnaaDoorW.PrintMore
set_option linter.unusedVariables false
set_option linter.unusedSimpArgs false

def X (j : Nat) : ByteArray := (⟨#[88]⟩ : ByteArray) ++ dig j
/-- What the reference calls a variable: the last place that fits. -/
def refN : List ByteArray → ByteArray → Nat → ByteArray → ByteArray
  | [], _, _, cur => cur
  | v :: r, s, j, cur => refN r s (j + 1) (if s.toList = v.toList then X j else cur)
/-- What the program calls it: the first place that fits. -/
def proN : List ByteArray → ByteArray → Nat → ByteArray
  | [], s, _ => s
  | v :: r, s, j => if s.toList = v.toList then X j else proN r s (j + 1)
def mk (t : List S33) (V : List ByteArray) : List S33 := t.map fun c => ⟨proN V c.f0 0, c.f1⟩
def dis (V : List ByteArray) : Prop := V.Pairwise fun a b => a.toList ≠ b.toList

theorem refN_none : ∀ (V : List ByteArray) (s : ByteArray) (j : Nat) (cur : ByteArray), (∀ v ∈ V, s.toList ≠ v.toList) → refN V s j cur = cur
  | [], _, _, _, _ => rfl
  | v :: r, s, j, cur, h => by
    simp only [refN]
    rw [if_neg (h v (by simp))]
    exact refN_none r s (j + 1) cur (fun x hx => h x (by simp [hx]))
theorem refN_pro : ∀ (V : List ByteArray) (s : ByteArray) (j : Nat), dis V → refN V s j s = proN V s j
  | [], _, _, _ => rfl
  | v :: r, s, j, h => by
    have hd := List.pairwise_cons.1 h
    simp only [refN, proN]
    by_cases hc : s.toList = v.toList
    · rw [if_pos hc, if_pos hc]
      exact refN_none r s (j + 1) _ (fun x hx he => hd.1 x hx (hc.symm.trans he))
    · rw [if_neg hc, if_neg hc]
      exact refN_pro r s (j + 1) hd.2
theorem varsL_dis : ∀ (t : List S33) (acc : List ByteArray), dis acc → dis (varsL t acc)
  | [], acc, h => h
  | c :: r, acc, h => by
    simp only [varsL]
    refine varsL_dis r _ ?_
    split
    · split
      · exact h
      · rename_i h1 h2
        refine List.pairwise_append.2 ⟨h, by simp, fun a ha b hb he => h2 ?_⟩
        rw [List.mem_singleton] at hb
        subst hb
        exact List.any_eq_true.2 ⟨a, ha, decide_eq_true he⟩
    · exact h
theorem index_at (V : List ByteArray) (s : ByteArray) (hl : V.length ≤ 1000000) : ∀ (d i : Nat), i + d = V.length →
    (∃ j : Nat, j < V.length ∧ Ev (fun k => slices_Index_string_string.l0 k V s (V.length : Int) (i : Int)) (j : Int) ∧ proN (V.drop i) s i = X j) ∨ (Ev (fun k => slices_Index_string_string.l0 k V s (V.length : Int) (i : Int)) (-1) ∧ proN (V.drop i) s i = s)
  | 0, i, h => by
    refine .inr ⟨Ev.nxt 0 (fun k _ => ?_), ?_⟩
    · simp only [slices_Index_string_string.l0]
      rw [if_neg (by omega)]
    · rw [List.drop_eq_nil_of_le (by omega)]
      rfl
  | d + 1, i, h => by
    have hw : wrap64 ((i : Int) + 1) = ((i + 1 : Nat) : Int) := by unfold wrap64; omega
    rw [drop_of V i (by omega)]
    by_cases hc : s.toList = (rdOf ByteArray.empty V i).toList
    · refine .inl ⟨i, by omega, Ev.nxt 0 (fun k _ => ?_), ?_⟩
      · simp only [slices_Index_string_string.l0]
        rw [if_pos (by omega), if_pos (by omega), if_pos (by omega), if_pos hc]
      · simp only [proN]
        rw [if_pos hc]
    · have st : ∀ k, slices_Index_string_string.l0 (k + 1) V s (V.length : Int) (i : Int) = slices_Index_string_string.l0 k V s (V.length : Int) ((i + 1 : Nat) : Int) := fun k => by
        simp only [slices_Index_string_string.l0]
        rw [if_pos (by omega), if_pos (by omega), if_pos (by omega), if_neg hc, hw]
      rcases index_at V s hl d (i + 1) (by omega) with ⟨j, h0, h1, h2⟩ | ⟨h1, h2⟩
      · refine .inl ⟨j, h0, Ev.step st h1, ?_⟩
        simp only [proN]
        rw [if_neg hc, h2]
      · refine .inr ⟨Ev.step st h1, ?_⟩
        simp only [proN]
        rw [if_neg hc, h2]
theorem dig_size (i : Int) : (dig i).size = 1 := rfl
theorem plain_l0 (V : List ByteArray) (hV : V.length ≤ 9) : ∀ (B A : List S33), (A ++ B).length ≤ 64 → Ev (fun k => rule_PlainFn1.l0 k V (A ++ B) ((A ++ B).length : Int) (A.length : Int)) (A ++ mk B V)
  | [], A, h => by
    refine Ev.nxt 0 (fun k _ => ?_)
    simp only [rule_PlainFn1.l0, List.append_nil]
    rw [if_neg (by omega)]
    simp [mk]
  | c :: r, A, h => by
    have hw : wrap64 ((A.length : Int) + 1) = ((A.length + 1 : Nat) : Int) := by simp at h; unfold wrap64; omega
    have hlen : A.length < (A ++ c :: r).length := by simp
    have hrd := rd_mid A r c
    refine Ev.step (f := fun k => (slices_Index_string_string.f k V c.f0).bind fun t191 => (if t191 ≥ 0 then ((strconv_Itoa.f t191).bind fun t192 => (if 1 + t192.size ≤ 9223372036854775807 then (rule_PlainFn1.l0 k V ((A ++ c :: r).set (A.length : Int).toNat (⟨(⟨#[88]⟩ : ByteArray) ++ t192, c.f1⟩ : S33)) ((A ++ c :: r).length : Int) (wrap64 ((A.length : Int) + 1))) else (none))) else (rule_PlainFn1.l0 k V (A ++ c :: r) ((A ++ c :: r).length : Int) (wrap64 ((A.length : Int) + 1))))) (fun k => ?_) ?_
    · simp only [rule_PlainFn1.l0]
      rw [if_pos (by omega), if_pos (by omega), if_pos (by omega), hrd]
    have fin : ∀ d : S33, d = ⟨proN V c.f0 0, c.f1⟩ → Ev (fun k => rule_PlainFn1.l0 k V (A ++ d :: r) ((A ++ c :: r).length : Int) (wrap64 ((A.length : Int) + 1))) (A ++ mk (c :: r) V) := fun d hd => by
      have ih := plain_l0 V hV r (A ++ [d]) (by simpa using h)
      have e1 : ((A ++ [d]) ++ r) = A ++ d :: r := by simp
      have e2 : (((A ++ [d]) ++ r).length : Int) = ((A ++ c :: r).length : Int) := by simp
      rw [hw]
      rw [e2, e1] at ih
      have e3 : (A ++ [d]) ++ mk r V = A ++ mk (c :: r) V := by simp [mk, hd]
      rw [e3] at ih
      have e4 : ((A ++ [d]).length : Int) = ((A.length + 1 : Nat) : Int) := by simp
      rw [e4] at ih
      exact ih
    rcases index_at V c.f0 (by omega) V.length 0 (by omega) with ⟨j, h0, h1, h2⟩ | ⟨h1, h2⟩
    · rw [List.drop_zero] at h2
      refine Ev.bind (a := (j : Int)) h1 ?_
      have hi : strconv_Itoa.f (j : Int) = some (dig j) := by unfold strconv_Itoa.f; rw [if_pos (by omega), if_pos (by omega)]
      have hs : (A ++ c :: r).set (A.length : Int).toNat (⟨(⟨#[88]⟩ : ByteArray) ++ dig j, c.f1⟩ : S33) = A ++ ⟨X j, c.f1⟩ :: r := by
        rw [Int.toNat_natCast]
        simp [List.set_append, X]
      have hj : ((j : Int) ≥ 0) = True := eq_true (by omega)
      have hq : (1 + (dig (j : Int)).size ≤ 9223372036854775807) = True := eq_true (by rw [dig_size]; omega)
      simp only [hj, if_true, hi, Option.bind_some, hq, hs]
      exact fin _ (by rw [h2])
    · rw [List.drop_zero] at h2
      refine Ev.bind (a := (-1 : Int)) h1 ?_
      have hj : ((-1 : Int) ≥ 0) = False := eq_false (by omega)
      simp only [hj, if_false]
      exact fin _ (by rw [h2])
theorem plain_ev (V : List ByteArray) (hV : V.length ≤ 9) (t : List S33) (ht : t.length ≤ 64) : Ev (fun k => rule_PlainFn1.f k t V) (mk t V) := by
  have h := plain_l0 V hV t [] (by simpa using ht)
  refine Ev.congr (f := fun k => rule_PlainFn1.l0 k V t (t.length : Int) 0) (fun k => ?_) h
  unfold rule_PlainFn1.f clone_Term.f
  rw [if_pos (by omega)]
  rfl

theorem write_ev (j : Nat) (h : j ≤ 9) : Ev (fun k => aumbryref03_Write.f k (j : Int)) (dig j) := by
  have : j = 0 ∨ j = 1 ∨ j = 2 ∨ j = 3 ∨ j = 4 ∨ j = 5 ∨ j = 6 ∨ j = 7 ∨ j = 8 ∨ j = 9 := by omega
  have m : ∀ i : Int, aumbryref03_Write.f 3 i = some (dig i) → Ev (fun k => aumbryref03_Write.f k i) (dig i) := fun i hi => Ev.of (g := fun k => aumbryref03_Write.f k i) (fun k => aumbryref03_Write.mono i k) hi
  rcases this with rfl | rfl | rfl | rfl | rfl | rfl | rfl | rfl | rfl | rfl <;> exact m _ (by kernel_rfl)
theorem named_l1 (t : List S33) (V : List ByteArray) (acc : List S33) (i : Nat) (hi : i < t.length) (ht : t.length ≤ 64) (hV : V.length ≤ 9) (ha : acc.length ≤ 64) (a : Int) (res : List S33) : ∀ (R P : List ByteArray) (cur : ByteArray), V = P ++ R →
    Ev (fun k => aumbryref06_named.l0 k t V (acc ++ [(⟨refN R (rd_T33 t (i : Int)).f0 P.length cur, a⟩ : S33)]) (t.length : Int) (wrap64 ((i : Int) + 1))) res →
    Ev (fun k => aumbryref06_named.l1 k t V acc (i : Int) (t.length : Int) (i : Int) (V.length : Int) (P.length : Int) cur a) res
  | [], P, cur, hP, h => by
    rw [List.append_nil] at hP
    subst hP
    refine Ev.step (fun k => ?_) h
    simp only [aumbryref06_named.l1, refN]
    rw [if_neg (by omega), if_pos (by omega)]
  | v :: R, P, cur, hP, h => by
    have hl : V.length = P.length + R.length + 1 := by rw [hP]; simp; omega
    have hw : wrap64 ((P.length : Int) + 1) = ((P ++ [v]).length : Int) := by simp; unfold wrap64; omega
    have hv : rdOf ByteArray.empty V (P.length : Int) = v := by rw [hP]; simp [rdOf, List.getD_eq_getElem?_getD]
    have e : V = (P ++ [v]) ++ R := by rw [hP]; simp
    by_cases hc : (rd_T33 t (i : Int)).f0.toList = v.toList
    · have ih := named_l1 t V acc i hi ht hV ha a res R (P ++ [v]) (X P.length) e (by
        simp only [refN, if_pos hc] at h
        simpa using h)
      refine Ev.step (f := fun k => (aumbryref03_Write.f k (P.length : Int)).bind fun t353 => (if 1 + t353.size ≤ 9223372036854775807 then (aumbryref06_named.l1 k t V acc (i : Int) (t.length : Int) (i : Int) (V.length : Int) (wrap64 ((P.length : Int) + 1)) ((⟨#[88]⟩ : ByteArray) ++ t353) a) else (none))) (fun k => ?_) (Ev.bind (write_ev P.length (by omega)) ?_)
      · simp only [aumbryref06_named.l1]
        rw [if_pos (by omega), if_pos (by omega), if_pos (by omega), if_pos (by omega), if_pos (by omega), hv, if_pos hc]
      · have hq : (1 + (dig (P.length : Int)).size ≤ 9223372036854775807) = True := eq_true (by rw [dig_size]; omega)
        simp only [hq, if_true, hw]
        exact ih
    · have ih := named_l1 t V acc i hi ht hV ha a res R (P ++ [v]) cur e (by
        simp only [refN, if_neg hc] at h
        simpa using h)
      refine Ev.step (fun k => ?_) ih
      simp only [aumbryref06_named.l1]
      rw [if_pos (by omega), if_pos (by omega), if_pos (by omega), if_pos (by omega), if_pos (by omega), hv, if_neg hc, hw]
theorem named_l0 (V : List ByteArray) (hV : V.length ≤ 9) (hd : dis V) : ∀ (B A acc : List S33), (A ++ B).length ≤ 64 → acc.length ≤ A.length → Ev (fun k => aumbryref06_named.l0 k (A ++ B) V acc ((A ++ B).length : Int) (A.length : Int)) (acc ++ mk B V)
  | [], A, acc, h, ha => by
    refine Ev.nxt 0 (fun k _ => ?_)
    simp only [aumbryref06_named.l0, List.append_nil]
    rw [if_neg (by omega)]
    simp [mk]
  | c :: r, A, acc, h, ha => by
    have hw : wrap64 ((A.length : Int) + 1) = ((A ++ [c]).length : Int) := by simp at h ⊢; unfold wrap64; omega
    have hlen : A.length < (A ++ c :: r).length := by simp
    have hrd := rd_mid A r c
    have ih := named_l0 V hV hd r (A ++ [c]) (acc ++ [⟨proN V c.f0 0, c.f1⟩]) (by simpa using h) (by simp; omega)
    have e1 : ((A ++ [c]) ++ r) = A ++ c :: r := by simp
    have e2 : (acc ++ [(⟨proN V c.f0 0, c.f1⟩ : S33)]) ++ mk r V = acc ++ mk (c :: r) V := by simp [mk]
    rw [e1, e2, ← hw] at ih
    have h1 := named_l1 (A ++ c :: r) V acc A.length hlen h hV (by simp at h; omega) c.f1 (acc ++ mk (c :: r) V) V [] c.f0 rfl (by
      rw [hrd, List.length_nil, refN_pro V c.f0 0 hd]
      exact ih)
    refine Ev.step (fun k => ?_) h1
    simp only [aumbryref06_named.l0]
    rw [if_pos (by omega), if_pos (by omega), if_pos (by omega), hrd]
    rfl
theorem named_ev (V : List ByteArray) (hV : V.length ≤ 9) (hd : dis V) (t : List S33) (ht : t.length ≤ 64) : Ev (fun k => aumbryref06_named.f k t V) (mk t V) := by
  have h := named_l0 V hV hd t [] [] (by simpa using ht) (by simp)
  exact h
end Go.Proofs.YtnkpcnnbeaomnaaDoor.C
end

section
/- Any rule is written, and told in its plain form, or refused: the law's plain statement. -/
namespace Go.Proofs.YtnkpcnnbeaomnaaDoor.Pure
open Go.RowKit Go.Proofs.YtnkpcnnbeaomnaaDoor.C Go.Proofs.YtnkpcnnbeaomnaaDoorW.PrintWords Go.Proofs.YtnkpcnnbeaomnaaDoorW.PrintLast
set_option linter.unusedVariables false
set_option linter.unusedSimpArgs false

theorem arrow_size (s : ByteArray) : (s ++ (⟨#[32, 45, 62, 32]⟩ : ByteArray)).size = s.size + 4 := by rw [ByteArray.size_append]; rfl
theorem RulePrints (id : Int) (l r : List S33) (h1 : l.length < 5864062014805) (h2 : r.length < 5864062014805) : ∃ k, aumbrylaw06_RulePrints.f k id l r = some true := by
  refine Ev.rounds (r := true) ?_
  refine Ev.bind wakes6_ev ?_
  simp only [if_true, copy6 id h1 h2, Option.bind_some]
  by_cases hc : chkR id l r = 0
  · obtain ⟨c1, c2, c3, c4, c5, c6, c7, c8⟩ := chkR_ok hc
    obtain ⟨T, rfl, f1, f2⟩ := tree_of_chk l c3
    obtain ⟨U, rfl, k1, k2⟩ := tree_of_chk r c4
    have zT := bytes_size (txt T)
    have zU := bytes_size (txt U)
    have nT := txt_len T f1
    have nU := txt_len U k1
    have y1 : ((C.bytes (txt T)).size + 4 ≤ 9223372036854775807) = True := eq_true (by omega)
    have y2 : ((C.bytes (txt T)).size + 4 + (C.bytes (txt U)).size ≤ 9223372036854775807) = True := eq_true (by omega)
    have hp : Ev (fun k => rule_Print.f k id (flat T) (flat U)) ((C.bytes (txt T) ++ (⟨#[32, 45, 62, 32]⟩ : ByteArray)) ++ C.bytes (txt U), 0) := by
      refine Ev.bind (ruleCheck_ev id (flat T) (flat U)) ?_
      simp only [if_pos hc]
      refine Ev.bind (print_ok T f1 f2) (Ev.bind (print_ok U k1 k2) ?_)
      simp only [arrow_size, y1, y2, if_true]
      exact Ev.now _
    have hV := varsL_len (flat T) []
    simp only [List.length_nil] at hV
    have hV9 : (varsL (flat T) []).length ≤ 9 := by omega
    have hD : dis (varsL (flat T) []) := varsL_dis _ _ List.Pairwise.nil
    have hq : Ev (fun k => rule_Plain.f k id (flat T) (flat U)) (id, mk (flat T) (varsL (flat T) []), mk (flat U) (varsL (flat T) []), 0) := by
      refine Ev.bind (ruleCheck_ev id (flat T) (flat U)) ?_
      simp only [if_pos hc]
      refine Ev.bind (vars_ok (flat T) c3) (Ev.bind (plain_ev _ hV9 (flat T) (by omega)) (Ev.bind (plain_ev _ hV9 (flat U) (by omega)) ?_))
      exact Ev.now _
    refine Ev.bind hp (Ev.bind hq (Ev.bind (refCheck_ev id (flat T) (flat U)) ?_))
    simp only [hc, if_true, bne_self_eq_false]
    have ht : Ev (fun k => aumbryref06_Text.f k id (flat T) (flat U)) ((C.bytes (txt T) ++ (⟨#[32, 45, 62, 32]⟩ : ByteArray)) ++ C.bytes (txt U)) := by
      refine Ev.bind (text_tree T (by omega) (tame_flat _ (fine_to T f1)) (by omega)) ?_
      simp only [y1, if_true]
      refine Ev.bind (text_tree U (by omega) (tame_flat _ (fine_to U k1)) (by omega)) ?_
      simp only [arrow_size, y2, if_true]
      exact Ev.now _
    have hr : Ev (fun k => aumbryref06_Plain.f k id (flat T) (flat U)) (id, mk (flat T) (varsL (flat T) []), mk (flat U) (varsL (flat T) [])) := by
      refine Ev.bind (rvars_ev (flat T) (by omega)) (Ev.bind (named_ev _ hV9 hD (flat T) (by omega)) (Ev.bind (named_ev _ hV9 hD (flat U) (by omega)) ?_))
      exact Ev.now _
    refine Ev.step (f := fun k => ((aumbryref06_Text.f k id (flat T) (flat U)).bind fun t396 => (if ((C.bytes (txt T) ++ (⟨#[32, 45, 62, 32]⟩ : ByteArray)) ++ C.bytes (txt U)).toList = t396.toList then ((aumbryref06_Plain.f k id (flat T) (flat U)).bind fun bt397 => ((aumbryref06_Same.f k id (mk (flat T) (varsL (flat T) [])) (mk (flat U) (varsL (flat T) [])) bt397.1 bt397.2.1 bt397.2.2).bind fun t404 => (some t404))) else (some false)))) (fun k => ?_) ?_
    · simp only [aumbrylaw06_RulePrints.j0, Bool.false_eq_true, if_false, if_true]
    refine Ev.bind ht ?_
    simp only [if_true]
    refine Ev.bind hr ?_
    refine Ev.bind (same6_ev id _ _ (by simp [mk]; omega) (by simp [mk]; omega)) ?_
    exact Ev.now _
  · have hp : Ev (fun k => rule_Print.f k id l r) ((⟨#[]⟩ : ByteArray), chkR id l r) := by
      refine Ev.bind (ruleCheck_ev id l r) ?_
      simp only [if_neg hc]
      exact Ev.now _
    have hq : Ev (fun k => rule_Plain.f k id l r) (0, [], [], chkR id l r) := by
      refine Ev.bind (ruleCheck_ev id l r) ?_
      simp only [if_neg hc]
      exact Ev.now _
    refine Ev.bind hp (Ev.bind hq (Ev.bind (refCheck_ev id l r) ?_))
    simp only [if_true, bne_self_eq_false]
    refine Ev.step (f := fun k => (aumbryref06_Same.f k 0 ([] : List S33) [] 0 [] []).bind fun t405 => (some t405)) (fun k => ?_) ?_
    · simp only [aumbrylaw06_RulePrints.j0, Bool.false_eq_true, if_false]
      rw [if_neg hc, if_pos (by kernel_rfl)]
    exact Ev.bind (same6_ev 0 [] [] (by simp) (by simp)) (Ev.now _)
end Go.Proofs.YtnkpcnnbeaomnaaDoor.Pure
end

section
/- An argument that can be read as data reads as a plain Lean value of its kind (strings, whole numbers, structs of two, slices of these), with the form's own bounds on its parts. -/
namespace Go.Proofs.YtnkpcnnbeaomnaaDoor.C
open Go.RowKit Go.ChangeShapes Go.WideShapes Go.Deep Go.Proofs.YtnkpcnnbeaomnaaDoorW.PrintWords
set_option linter.unusedVariables false
set_option linter.unusedSimpArgs false

section
variable {H : Type} {enc : TypeId × Value → H} {P : Program} {w : World} {base : Nat} {spare : Nat → Bool} {held : Bool}

/-- What reads as data of type T is of kind d, and B holds of it. -/
def Opens (enc : TypeId × Value → H) (P : Program) (w : World) (base : Nat) (spare : Nat → Bool) (held : Bool) {α : Type} (d : Kd α) (T : TypeId) (B : α → Prop) : Prop :=
  ∀ fuel cs x, DataW.trod enc P w base spare held fuel T cs = some x → (∀ n ∈ x.1.weights P T, n ≤ reachBytes) → ∃ y, d.K w y cs ∧ B y

theorem opens_string {T : TypeId} (h : P.underlying T = some .string) : Opens enc P w base spare held Kd.string T (fun s => s.size ≤ reachBytes) := by
  intro fuel cs x hx hw
  obtain ⟨s, rfl, rfl, hs⟩ := DataW.trod_string h hx
  refine ⟨s, rfl, ?_⟩
  have := hw s.data.toList.length (by simp [DataW.weights])
  rwa [data_length] at this
theorem opens_int {T : TypeId} {k : IntKind} (h : P.underlying T = some (.int k)) : Opens enc P w base spare held (Kd.int k) T (fun n => (Lit.int k n).wf = true) := by
  intro fuel cs x hx hw
  obtain ⟨n, rfl, rfl, hs⟩ := DataW.trod_int h hx
  exact ⟨n, rfl, hs⟩
theorem opens_pair {α β : Type} {T : TypeId} {a : Kd α} {b : Kd β} {A : α → Prop} {B : β → Prop} {f0 f1 : Field} (h : P.underlying T = some (.struct #[f0, f1])) (hT : P.cellsOf T = P.cellsOf f0.type + P.cellsOf f1.type) (h0 : f0.offset = 0) (h1 : f1.offset = P.cellsOf f0.type)
    (ha : Opens enc P w base spare held a f0.type A) (hb : Opens enc P w base spare held b f1.type B) : Opens enc P w base spare held (Kd.pair a b) T (fun x => A x.1 ∧ B x.2) := by
  intro fuel cs x hx hw
  obtain ⟨y0, y1, n, rfl, hl, hy0, hy1⟩ := trod_struct2 h hx
  simp only [DataW.weights, h, List.map_cons, List.map_nil, DataW.weightsEach, List.append_nil, List.mem_append] at hw
  obtain ⟨z0, hz0, hA⟩ := ha _ _ _ hy0 (fun n hn => hw n (.inl hn))
  obtain ⟨z1, hz1, hB⟩ := hb _ _ _ hy1 (fun n hn => hw n (.inr hn))
  refine ⟨(z0, z1), ⟨_, _, ?_, hz0, hz1⟩, hA, hB⟩
  rw [h0, h1, List.drop_zero]
  have : (cs.drop (P.cellsOf f0.type)).take (P.cellsOf f1.type) = cs.drop (P.cellsOf f0.type) := List.take_of_length_le (by rw [List.length_drop]; omega)
  rw [this, List.take_append_drop]
theorem opens_iso {α β : Type} {T : TypeId} {d : Kd α} {A : α → Prop} (f : β → α) (g : α → β) (hfg : ∀ x, f (g x) = x) (h : Opens enc P w base spare held d T A) : Opens enc P w base spare held (Kd.iso d f) T (fun x => A (f x)) := by
  intro fuel cs x hx hw
  obtain ⟨y, hy, hA⟩ := h _ _ _ hx hw
  exact ⟨g y, by show d.K w (f (g y)) cs; rw [hfg]; exact hy, by show A (f (g y)); rw [hfg]; exact hA⟩

theorem mem_weightsAll {e : TypeId} : ∀ (l : List (DataW H)) (d : DataW H), d ∈ l → ∀ n ∈ d.weights P e, n ∈ DataW.weightsAll P e l
  | c :: r, d, hd, n, hn => by
    simp only [DataW.weightsAll, List.mem_append]
    rcases List.mem_cons.1 hd with rfl | hd
    · exact .inl hn
    · exact .inr (mem_weightsAll r d hd n hn)

theorem list_of {α : Type} {n : Nat} {p : Nat → α → Prop} (h : ∀ i, i < n → ∃ x, p i x) : ∃ l : List α, l.length = n ∧ ∀ i x, l[i]? = some x → p i x := by
  induction n with
  | zero => exact ⟨[], rfl, fun i x hx => by simp at hx⟩
  | succ n ih =>
    obtain ⟨l, hl, hp⟩ := ih (fun i hi => h i (by omega))
    obtain ⟨x, hx⟩ := h n (by omega)
    refine ⟨l ++ [x], by simp [hl], fun i y hy => ?_⟩
    by_cases hi : i < n
    · rw [List.getElem?_append_left (by omega)] at hy
      exact hp i y hy
    · have hi' : i = n := by
        have := (List.getElem?_eq_some_iff.1 hy).1
        simp at this
        omega
      subst hi'
      rw [List.getElem?_append_right (by omega), hl] at hy
      simp at hy
      subst hy
      exact hx

theorem opens_slice {α : Type} {T e : TypeId} {d : Kd α} {B : α → Prop} {bytes : Nat} (h : P.underlying T = some (.slice e)) (hsz : d.sz = P.cellsOf e) (hby : P.bytesOf e = bytes) (hd : Opens enc P w base spare held d e B) :
    Opens enc P w base spare held (Kd.slice e d) T (fun l => l.length * bytes ≤ reachBytes ∧ ∀ x ∈ l, B x) := by
  intro fuel cs x hx hw
  rcases open_slice h hx with ⟨rfl, rfl⟩ | ⟨a, len, cap, m, n, D, Pl, rfl, hb, hl, hm, hmm, rfl, hi⟩
  · exact ⟨[], ⟨none, 0, rfl, Nat.le_refl _, rfl, by simp, fun h => absurd h (by simp)⟩, by simp, fun x hx => by cases hx⟩
  · have hlm : len ≤ m := by rw [hmm]; split <;> omega
    simp only [DataW.weights, h, List.mem_cons, List.mem_append] at hw
    have hall : ∀ i, i < len → ∃ y, (∃ cs', w.cells? base (a.add (i * P.cellsOf e)) (P.cellsOf e) = some cs' ∧ d.K w y cs') ∧ B y := by
      intro i hil
      obtain ⟨cs', hc, ht⟩ := hi i (by omega)
      obtain ⟨y, hy, hB⟩ := hd _ _ _ ht (fun n hn => hw n (.inr (.inl (mem_weightsAll _ (D i) (List.mem_map.2 ⟨i, List.mem_range.2 hil, rfl⟩) n hn))))
      exact ⟨y, ⟨cs', hc, hy⟩, hB⟩
    obtain ⟨l, hll, hp⟩ := list_of hall
    have hlen : len * bytes ≤ reachBytes := by
      have := hw _ (.inl rfl)
      rw [hby] at this
      simp only [List.length_map, List.length_range] at this
      exact Nat.le_trans (Nat.mul_le_mul_right _ (by omega)) this
    refine ⟨l, ⟨some a, cap, by rw [hll], by omega, rfl, by simp only [maxLen] at hm; omega, fun _ => ⟨a, rfl, fun j p hj => ?_⟩⟩, by rw [hll]; exact hlen, fun x hx => ?_⟩
    · obtain ⟨⟨cs', hc, hK⟩, _⟩ := hp j p hj
      obtain ⟨_, hcl, hat⟩ := World.cells?_some hc
      refine ⟨cs', by rw [hsz]; exact hcl, hK, fun i u hu => ?_⟩
      have hil : i < P.cellsOf e := by
        have := (List.getElem?_eq_some_iff.1 hu).1
        omega
      rw [hsz, ← Go.Deep.add_add, hat i hil, hu]
    · obtain ⟨i, hi, rfl⟩ := List.getElem_of_mem hx
      exact (hp i _ (List.getElem?_eq_getElem hi)).2
end

section
variable {H : Type} {enc : TypeId × Value → H} {w : World} {base : Nat} {spare : Nat → Bool} {held : Bool}
theorem cells9 : Tryd.prog.cellsOf 9 = 1 := by kernel_rfl
theorem cells3 : Tryd.prog.cellsOf 3 = 1 := by kernel_rfl
theorem cells33 : Tryd.prog.cellsOf 33 = 2 := by kernel_rfl
theorem cells23 : Tryd.prog.cellsOf 23 = 1 := by kernel_rfl
theorem bytes33 : Tryd.prog.bytesOf 33 = 24 := by kernel_rfl
def Bd28 (c : S33) : Prop := c.f0.size ≤ reachBytes ∧ (Lit.int .i64 c.f1).wf = true
def BdT (t : List S33) : Prop := t.length * 24 ≤ reachBytes ∧ ∀ c ∈ t, Bd28 c
theorem opens33 : Opens enc Tryd.prog w base spare held k33 33 Bd28 :=
  opens_iso (fun x : S33 => (x.f0, x.f1)) (fun x => ⟨x.1, x.2⟩) (fun _ => rfl) (opens_pair Tryd.underlying33 (by rw [cells33, cells9, cells3]) rfl (by rw [cells9]) (opens_string Tryd.underlying9) (opens_int Tryd.underlying3))
theorem opens23 : Opens enc Tryd.prog w base spare held (Kd.slice 33 k33) 23 BdT := opens_slice Tryd.underlying23 (by rw [cells33]; rfl) bytes33 opens33

end
end Go.Proofs.YtnkpcnnbeaomnaaDoor.C
end

section
/- The rows' door: a rule as an argument reads as a number and two terms; a world in which the listed variables are laid. -/
namespace Go.Proofs.YtnkpcnnbeaomnaaDoor.C
open Go.RowKit Go.ChangeShapes Go.WideShapes Go.Deep Go.Proofs.YtnkpcnnbeaomnaaDoorW.PrintWords
set_option linter.unusedVariables false
set_option linter.unusedSimpArgs false
variable {H : Type} {enc : TypeId × Value → H} {w : World} {base : Nat} {spare : Nat → Bool} {held : Bool}
theorem cells25 : Tryd.prog.cellsOf 25 = 3 := by kernel_rfl
theorem trod_struct3 {P : Program} {t : TypeId} {f0 f1 f2 : Field} {fuel : Nat} {cs : List Value} {x : DataW H × List MemPlace} (ht : P.underlying t = some (.struct #[f0, f1, f2])) (h : DataW.trod enc P w base spare held fuel t cs = some x) :
    ∃ y0 y1 y2 n, x = (.agg [y0.1, y1.1, y2.1], y0.2 ++ y1.2 ++ y2.2) ∧ cs.length = P.cellsOf t ∧ DataW.trod enc P w base spare held n f0.type ((cs.drop f0.offset).take (P.cellsOf f0.type)) = some y0 ∧
      DataW.trod enc P w base spare held n f1.type ((cs.drop f1.offset).take (P.cellsOf f1.type)) = some y1 ∧ DataW.trod enc P w base spare held n f2.type ((cs.drop f2.offset).take (P.cellsOf f2.type)) = some y2 := by
  obtain ⟨xs, n, _, rfl, hl, hlen, hf⟩ := DataW.trod_struct ht h
  match xs, hlen with
  | [y0, y1, y2], _ => exact ⟨y0, y1, y2, n, by simp, hl, by simpa using hf 0 f0 rfl, by simpa using hf 1 f1 rfl, by simpa using hf 2 f2 rfl⟩
set_option maxRecDepth 100000 in
theorem open_rule {v : Value} {x : DataW H} {ps : List MemPlace} {ts : List TypeId} {ds : List (DataW H)} {j : Nat} {W : World} {bs : Nat}
    (hv : Value.okWide Tryd.prog W .any bs 25 v) (hsz : (DataW.weightsEach Tryd.prog ts ds).all (· ≤ reachBytes) = true) (ht : ts[j]? = some 25) (hd : ds[j]? = some x) (h : DataW.Trod enc Tryd.prog w base spare held 25 v x ps) :
    ∃ (id : Int) (A : Option Addr) (c : Nat) (l : List S33) (B : Option Addr) (d : Nat) (r : List S33), v = .agg #[.int .i64 id, .slice A l.length c, .slice B r.length d] ∧ Kd.C k33 w A l.length l ∧ l.length ≤ c ∧ Kd.C k33 w B r.length r ∧ r.length ≤ d ∧ BdT l ∧ BdT r := by
  obtain ⟨⟨cs⟩, rfl, hcs⟩ := okWide_struct Tryd.underlying25 hv
  obtain ⟨fuel, hf⟩ := h
  have hw : ∀ n ∈ x.weights Tryd.prog 25, n ≤ reachBytes := fun n hn => by
    have := List.all_eq_true.1 hsz _ (DataW.weights_mem_each ht hd n hn)
    simpa using this
  obtain ⟨y0, y1, y2, n, hx, hl, h0, h1, h2⟩ := trod_struct3 Tryd.underlying25 hf
  obtain ⟨rfl, rfl⟩ := Prod.mk.inj hx
  simp only [DataW.weights, Tryd.underlying25, List.map_cons, List.map_nil, DataW.weightsEach, List.append_nil, List.mem_append] at hw
  rw [cells25] at hl
  match cs, hl with
  | [u0, u1, u2], _ =>
    simp only [Value.cells, List.drop_zero, List.drop_succ_cons, cells3, cells23, List.take_succ_cons, List.take_zero] at h0 h1 h2
    obtain ⟨id, e0, _, _⟩ := DataW.trod_int Tryd.underlying3 h0
    obtain ⟨l, ⟨A, c, e1, hc, hC⟩, hB⟩ := opens23 _ _ _ h1 (fun n hn => hw n (.inr (.inl hn)))
    obtain ⟨r, ⟨B, d, e2, hd', hD⟩, hB2⟩ := opens23 _ _ _ h2 (fun n hn => hw n (.inr (.inr hn)))
    simp only [List.cons.injEq, and_true] at e0 e1 e2
    subst e0 e1 e2
    exact ⟨id, A, c, l, B, d, r, rfl, hC, hc, hD, hd', hB, hB2⟩

def laid3 : List (String × DataW Unit) := [("math/bits.deBruijn32tab", Rows.laid_math_bits_deBruijn32tab), ("math/bits.deBruijn64tab", Rows.laid_math_bits_deBruijn64tab), ("internal/strconv.uint64pow10", Rows.laid_internal_strconv_uint64pow10)]
theorem own : ownKnob Tryd.prog.godebug = none := by kernel_rfl
theorem laidOut : laidOutB Tryd.prog = true := by kernel_rfl
/-- The door's own heap meets the condition. -/
theorem door_met (os : Os) (args : Array Value) : laidMetH Tryd.prog laid3 ((World.doorLaid Tryd.prog 4000 os).forCall (fun _ _ => 0) ⟨#[], args, []⟩).memory :=
  laidMetH_of_parts3 (fuel := 8) (laidMet_of_run' 8 (by kernel_rfl) (by kernel_rfl)) (by kernel_rfl) (by kernel_rfl)
theorem door_shaped (os : Os) (args : Array Value) : ((World.doorLaid Tryd.prog 4000 os).forCall (fun _ _ => 0) ⟨#[], args, []⟩).Shaped Tryd.prog := World.shaped_of_RefB (by kernel_rfl) (by kernel_rfl)
end Go.Proofs.YtnkpcnnbeaomnaaDoor.C
end

section
/- The row RulePrints and its card, out of its walk (C43), its plain law and the way its argument reads (HDoor). -/
namespace Go.Proofs.YtnkpcnnbeaomnaaDoor.rulePrints
open Go.ChangeShapes Go.WideShapes Go.ChangeAt Go.RowKit
set_option linter.unusedVariables false
set_option maxRecDepth 100000 in
theorem lifted (os : Os) (started : os.Started) (H : Type) (enc : TypeId × Value → H) :
    ReturnsInHanded {} Tryd.checked os 5 .any (fun w args => (Rows.rulePrintsSpec.pre enc Tryd.prog Tryd.f5 [] false w args ∧ laidMetH Tryd.prog C.laid3 w) ∧ sizedMet enc Tryd.prog Tryd.f5 (OpenSpec.ofChange Rows.rulePrintsSpec) false w args)
      (Rows.rulePrintsSpec.post enc Tryd.prog Tryd.f5 false true false false) := by
  refine returnsInHanded_of_change_and (C := Tryd.checked) (X := fun w _ => laidMetH Tryd.prog C.laid3 w) (fun _ _ _ hh h => h.of_heap hh) C.own started (by kernel_rfl) Tryd.func5
    (ChangeSpec.witness_shaped (enc := enc) (C := Tryd.checked) (os := os) (X := fun w _ => laidMetH Tryd.prog C.laid3 w) false (World.doorLaid Tryd.prog 4000 os) #[.agg #[.int .i64 0, .slice none 0 0, .slice none 0 0]] 8 rfl (C.door_shaped os _) (by kernel_rfl) (by kernel_rfl) (by kernel_rfl) (C.door_met os _)) ?_
  intro W base args ds gs before hval0 hW _ hsz0 hL _
  have hsz : (DataW.weightsEach Tryd.prog (Tryd.f5.params.toList ++ Rows.rulePrintsSpec.plain.varTypes Tryd.prog) (ds ++ gs)).all (· ≤ reachBytes) = true := hsz0
  have hval : ∀ (j : Nat) t v, Tryd.f5.params[j]? = some t → args[j]? = some v → Value.okWide Tryd.prog W .any base t v := hval0
  have hW' := hW
  obtain ⟨p, q, hA0, hV, rfl, hfz, hnd⟩ := hW
  have hA : DataW.TrodAll enc Tryd.prog W 0 (fun _ => true) true Tryd.f5.params.toList args.toList ds p := hA0
  rw [Tryd.params5] at hA hval hsz
  obtain ⟨v0, d0, rfl, rfl, h0⟩ := trodAll_one hA
  obtain ⟨rfl, rfl⟩ := trodVars_none hV
  obtain ⟨id, A, c, l, B, d, r, rfl, hl, hc, hr, hd, hB1, hB2⟩ := C.open_rule (hval 0 25 v0 rfl rfl) hsz (j := 0) rfl rfl h0
  have lt0 : ∀ x ∈ p, x.block < W.heap.size := by
    obtain ⟨m, hm⟩ := h0
    exact DataW.trod_lt m _ _ _ hm
  have hb1 : l.length < 5864062014805 := by
    have := hB1.1
    simp only [reachBytes] at this
    omega
  have hb2 : r.length < 5864062014805 := by
    have := hB2.1
    simp only [reachBytes] at this
    omega
  clear hA0 hval0 hsz0 hsz
  obtain ⟨k, hk⟩ := Pure.RulePrints id l r hb1 hb2
  refine (C.aumbrylaw06_RulePrints.calls k id A c l B d r true W hl hc hr hd hk).mono fun e W' ⟨he, bel⟩ => ?_
  subst he
  have y0 := Below.trod C.laidOut (by kernel_rfl) (of_decide_eq_true (by kernel_rfl)) h0 bel lt0
  exact ⟨_, rfl, _, _, _, [], _, [], hW', trodAll_mk1 (shut_bool Tryd.underlying4 _), trodAll_mk1 y0, rfl, bel.frame _, fun h => by cases h⟩
theorem row : Rows.RulePrintsSaid :=
  OpenClaim.holds_of_wide 5 Tryd.f5 rfl rfl rfl rfl rfl rfl rfl ⟨rfl, rfl, rfl, rfl, rfl⟩ rfl rfl rfl rfl rfl (by kernel_rfl) Tryd.func5 (by kernel_rfl)
    (of_decide_eq_true (by kernel_rfl)) (by unfold Func.isWrapper; first | (rw [if_pos (by decide +kernel)]; kernel_rfl) | (rw [if_neg (by decide +kernel)]; exact ⟨rfl, rfl⟩))
    (fun os started H enc _ => lifted os started H enc)
theorem proved : Rows.RulePrintsCardSaid :=
  Claim7.holds_tied_plain_at .later [] [.data, .data, .data] true (true, "d7d3729d2d58240f662ab746c0667e5a7bf5c879bdf9c037e04c36a243ffaedc") true
    row (fun _ h => by cases h) (by kernel_rfl) (fun _ h => by cases h) rulePrints_row_tie rfl ⟨rfl, rfl⟩ (by kernel_rfl) rfl
    (fun f fn hf hfn => by
      obtain rfl : f = 5 := Option.some.inj ((show Tryd.prog.funcNamed "aumbry/aumbrylaw06.RulePrints" = some 5 by kernel_rfl).symm.trans hf) |>.symm
      obtain rfl : fn = Tryd.f5 := (Option.some.inj (Tryd.func5.symm.trans hfn)).symm
      exact ⟨by kernel_rfl, fun j t ht => by
        rw [Tryd.params5] at ht
        have hm : t ∈ [25] := by simpa using Array.mem_of_getElem? ht
        have hall : ([25].all fun u => !Tryd.prog.wantsStandIn u) = true := by kernel_rfl
        exact (show Tryd.prog.wantsStandIn t = false by simpa using List.all_eq_true.1 hall t hm)⟩)
    (by kernel_rfl)
#print axioms proved
end Go.Proofs.YtnkpcnnbeaomnaaDoor.rulePrints
namespace Go.Proofs.YtnkpcnnbeaomnaaDoor
/-- The card, under a short name, for the claim. -/
theorem rulePrints_card : Rows.RulePrintsCardSaid := rulePrints.proved
end Go.Proofs.YtnkpcnnbeaomnaaDoor
end
