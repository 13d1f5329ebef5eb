import Derived.Test.YtnkpcnnbeaomnaaDoorRB12
import Derived.Test.YtnkpcnnbeaomnaaDoorRB5
import Derived.Test.YtnkpcnnbeaomnaaDoorRB2
import Derived.Test.YtnkpcnnbeaomnaaDoorRB8
import Derived.Test.YtnkpcnnbeaomnaaDoorRB11
import Derived.Test.YtnkpcnnbeaomnaaDoorRB6
import Derived.Test.YtnkpcnnbeaomnaaDoorRB4

section
/- Whether a list of cells is a term: the program's Check and the reference's come to the same plain answer, chk, at every list. -/
namespace Go.Proofs.YtnkpcnnbeaomnaaDoor.C
open Go.RowKit Go.Proofs.YtnkpcnnbeaomnaaDoorW.PrintWords Go.Proofs.YtnkpcnnbeaomnaaDoorW.PrintLast Go.Proofs.YtnkpcnnbeaomnaaDoorW.PrintMore
set_option linter.unusedVariables false
set_option linter.unusedSimpArgs false

theorem Ev.nxt {α : Type} {g : Nat → Option α} {r : α} (K : Nat) (h : ∀ k, K ≤ k → g (k + 1) = some r) : Ev g r :=
  ⟨K + 1, fun k hk => by obtain ⟨m, rfl⟩ : ∃ m, k = m + 1 := ⟨k - 1, by omega⟩; exact h m (by omega)⟩

def cellErr (c : S33) : Int := if kindOf c.f0 = 0 then 4 else if c.f1 < 0 then 5 else if c.f1 > 4 then 5 else if kindOf c.f0 = 2 ∧ c.f1 > 0 then 5 else 0
def firstErr : List S33 → Int
  | [] => 0
  | c :: r => if cellErr c = 0 then firstErr r else cellErr c
/-- What stands behind n terms at a list's head. -/
def skip : Nat → List S33 → Option (List S33)
  | 0, l => some l
  | _ + 1, [] => none
  | n + 1, c :: r => skip (n + c.f1.toNat) r
def endOf (t : List S33) (n : Nat) (l : List S33) : Int := match skip n l with
  | some r => (t.length : Int) - r.length
  | none => -1
def chk (t : List S33) : Int := if t.length > 64 then 6 else if firstErr t = 0 then (match skip 1 t with | some [] => 0 | _ => 3) else firstErr t

theorem cell_ev (c : S33) : Ev (fun k => term_cell.f k c.f0 c.f1) (cellErr c) := by
  obtain ⟨K, h⟩ := kind_ev c.f0
  refine ⟨K, fun k hk => ?_⟩
  have h1 := h k hk
  dsimp only at h1 ⊢
  unfold term_cell.f cellErr
  rw [h1, Option.bind_some]
  by_cases c1 : kindOf c.f0 = 0
  · rw [if_pos c1, if_pos c1]
  · rw [if_neg c1, if_neg c1]
    by_cases c2 : c.f1 < 0
    · rw [if_pos c2, if_pos c2]
    · rw [if_neg c2, if_neg c2]
      by_cases c3 : c.f1 > 4
      · rw [if_pos c3, if_pos c3]
      · rw [if_neg c3, if_neg c3]
        by_cases c4 : kindOf c.f0 = 2
        · by_cases c5 : c.f1 > 0
          · rw [if_pos c4, if_pos c5, if_pos ⟨c4, c5⟩]
          · rw [if_pos c4, if_neg c5, if_neg (fun h => c5 h.2)]
        · rw [if_neg c4, if_neg (fun h => c4 h.1)]

theorem drop_rd (t : List S33) (i : Nat) (h : i < t.length) : t.drop i = rd_T33 t i :: t.drop (i + 1) := by
  rw [List.drop_eq_getElem_cons h]
  simp [rd_T33, List.getD_eq_getElem?_getD, List.getElem?_eq_getElem h]
theorem drop_end (t : List S33) (i : Nat) (h : t.length ≤ i) : t.drop i = [] := List.drop_eq_nil_of_le h

/-- All cells' numbers of arguments are from 0 to 4. -/
def tame (t : List S33) : Prop := ∀ c ∈ t, 0 ≤ c.f1 ∧ c.f1 ≤ 4
theorem tame_rd {t : List S33} (h : tame t) (i : Nat) (hi : i < t.length) : 0 ≤ (rd_T33 t i).f1 ∧ (rd_T33 t i).f1 ≤ 4 := by
  have : rd_T33 t i = t[i] := by simp [rd_T33, List.getD_eq_getElem?_getD, List.getElem?_eq_getElem hi]
  rw [this]
  exact h _ (List.getElem_mem hi)
theorem tame_of_first : ∀ (t : List S33), firstErr t = 0 → tame t
  | [], _ => fun _ h => by cases h
  | c :: r, h => by
    simp only [firstErr] at h
    split at h
    · rename_i hc
      intro x hx
      rcases List.mem_cons.1 hx with rfl | hx
      · unfold cellErr at hc
        split at hc
        · exact absurd hc (by decide)
        · split at hc
          · exact absurd hc (by decide)
          · split at hc
            · exact absurd hc (by decide)
            · omega
      · exact tame_of_first r h x hx
    · rename_i hc; exact absurd h hc

theorem behind_l0 (t : List S33) (ht : tame t) (hl : t.length ≤ 1000000) : ∀ (d i n : Nat), i + d = t.length → n ≤ 4 * i + 1 → Ev (fun k => term_behind.l0 k t (i : Int) (n : Int)) (endOf t n (t.drop i))
  | d, i, 0, h, hn => by
    refine Ev.nxt 0 (fun k _ => ?_)
    simp only [term_behind.l0]
    rw [if_neg (by omega)]
    simp only [endOf, skip, List.length_drop]
    congr 1
    omega
  | 0, i, n + 1, h, hn => by
    refine Ev.nxt 0 (fun k _ => ?_)
    simp only [term_behind.l0]
    rw [if_pos (by omega), if_pos (by omega), drop_end t i (by omega)]
    rfl
  | d + 1, i, n + 1, h, hn => by
    obtain ⟨h0, h4⟩ := tame_rd ht i (by omega)
    have hw : wrap64 ((i : Int) + 1) = ((i + 1 : Nat) : Int) := by unfold wrap64; omega
    have hw2 : wrap64 (((n + 1 : Nat) : Int) + (wrap64 (((rd_T33 t i).f1) - 1))) = ((n + (rd_T33 t i).f1.toNat : Nat) : Int) := by unfold wrap64; omega
    have ih := behind_l0 t ht hl d (i + 1) (n + (rd_T33 t i).f1.toNat) (by omega) (by omega)
    refine Ev.step (f := fun k => term_behind.l0 k t ((i + 1 : Nat) : Int) ((n + (rd_T33 t i).f1.toNat : Nat) : Int)) (fun k => ?_) ?_
    · simp only [term_behind.l0]
      rw [if_pos (by omega), if_neg (by omega), if_pos (by omega), if_pos (by omega), hw, hw2]
    · rw [drop_rd t i (by omega)]
      exact ih

theorem behind_ev (t : List S33) (ht : tame t) (hl : t.length ≤ 1000000) (i : Nat) (hi : i ≤ t.length) : Ev (fun k => term_behind.f k t (i : Int)) (endOf t 1 (t.drop i)) :=
  behind_l0 t ht hl (t.length - i) i 1 (by omega) (by omega)

theorem check_l0 (t : List S33) (hl : t.length ≤ 64) : ∀ (d i : Nat), i + d = t.length → firstErr (t.take i) = 0 → Ev (fun k => term_Check.l0 k t t (t.length : Int) (i : Int)) (if firstErr (t.drop i) = 0 then (match skip 1 t with | some [] => 0 | _ => 3) else firstErr (t.drop i))
  | 0, i, h, hf => by
    have hi : i = t.length := by omega
    subst hi
    rw [List.take_length] at hf
    have ht := tame_of_first t hf
    refine Ev.step (f := fun k => (term_behind.f k t 0).bind fun t111 => (if t111 = (t.length : Int) then (some 0) else (some 3))) (fun k => ?_) ?_
    · simp only [term_Check.l0]
      rw [if_neg (by omega)]
    · refine Ev.bind (a := endOf t 1 t) (by simpa using behind_ev t ht (by omega) 0 (by omega)) ?_
      rw [List.drop_length]
      simp only [firstErr, if_true]
      unfold endOf
      cases hs : skip 1 t with
      | none => simpa [hs] using (show Ev (fun n : Nat => if (-1 : Int) = (t.length : Int) then some (0 : Int) else some 3) 3 from by rw [if_neg (by omega)]; exact Ev.now 3)
      | some r =>
        cases r with
        | nil => simpa using Ev.now (0 : Int)
        | cons c r =>
          have : ¬ ((t.length : Int) - ((c :: r).length : Nat) = (t.length : Int)) := by simp; omega
          simp only [this, if_false]
          exact Ev.now (3 : Int)
  | d + 1, i, h, hf => by
    have hw : wrap64 ((i : Int) + 1) = ((i + 1 : Nat) : Int) := by unfold wrap64; omega
    have hd := drop_rd t i (by omega)
    refine Ev.step (f := fun k => (term_cell.f k ((rd_T33 t i).f0) ((rd_T33 t i).f1)).bind fun t110 => (if t110 = 0 then (term_Check.l0 k t t (t.length : Int) ((i + 1 : Nat) : Int)) else (some t110))) (fun k => ?_) ?_
    · simp only [term_Check.l0]
      rw [if_pos (by omega), if_pos (by omega), if_pos (by omega), hw]
    · refine Ev.bind (cell_ev _) ?_
      rw [hd]
      simp only [firstErr]
      by_cases hc : cellErr (rd_T33 t i) = 0
      · simp only [hc, if_true]
        refine check_l0 t hl d (i + 1) (by omega) ?_
        rw [List.take_succ_eq_append_getElem (by omega)]
        have : rd_T33 t i = t[i] := by simp [rd_T33, List.getD_eq_getElem?_getD, List.getElem?_eq_getElem (show i < t.length by omega)]
        rw [← this]
        clear hd
        generalize rd_T33 t i = c at *
        generalize t.take i = l at *
        induction l with
        | nil => simp [firstErr, hc]
        | cons x l ih =>
          simp only [firstErr, List.cons_append] at hf ⊢
          split at hf
          · rename_i hx
            rw [if_pos hx]
            exact ih hf
          · rename_i hx; exact absurd hf hx
      · simp only [hc, if_false]
        exact Ev.now _

theorem check_ev (t : List S33) : Ev (fun k => term_Check.f k t) (chk t) := by
  by_cases h : t.length > 64
  · refine Ev.congr (f := fun _ => some 6) (fun k => ?_) ?_
    · unfold term_Check.f; rw [if_pos (by omega)]
    · unfold chk; rw [if_pos h]; exact Ev.now 6
  · refine Ev.congr (f := fun k => term_Check.l0 k t t (t.length : Int) ((0 : Nat) : Int)) (fun k => ?_) ?_
    · unfold term_Check.f; rw [if_neg (by omega)]; rfl
    · unfold chk
      rw [if_neg h]
      exact check_l0 t (by omega) t.length 0 (by omega) (by simp [firstErr])

/-! ### the reference's -/
theorem skip_add : ∀ (n m : Nat) (l : List S33), skip (n + m) l = (skip n l).bind (skip m)
  | 0, m, l => by simp [skip]
  | n + 1, m, [] => by rw [show n + 1 + m = (n + m) + 1 by omega]; simp [skip]
  | n + 1, m, c :: r => by
    rw [show n + 1 + m = (n + m) + 1 by omega]
    simp only [skip]
    rw [show n + m + c.f1.toNat = (n + c.f1.toNat) + m by omega]
    exact skip_add _ m r
termination_by _ _ l => l.length







end Go.Proofs.YtnkpcnnbeaomnaaDoor.C
end

section
/- Terms as trees: what a tree is as cells, as text, how deep it is; every list of cells that is a term is some tree's cells. Plain words, no machine. -/
namespace Go.Proofs.YtnkpcnnbeaomnaaDoor.C
open Go.RowKit Go.Proofs.YtnkpcnnbeaomnaaDoorW.PrintWords Go.Proofs.YtnkpcnnbeaomnaaDoorW.PrintLast Go.Proofs.YtnkpcnnbeaomnaaDoorW.PrintMore
set_option linter.unusedVariables false
set_option linter.unusedSimpArgs false

inductive Tr where
  | node (nm : ByteArray) (ks : List Tr)
mutual
def flat : Tr → List S33
  | .node n ks => ⟨n, ks.length⟩ :: flatL ks
def flatL : List Tr → List S33
  | [] => []
  | t :: r => flat t ++ flatL r
end
mutual
def txt : Tr → List UInt8
  | .node n ks => n.data.toList ++ txtK true ks ++ (if ks.length = 0 then [] else [41])
def txtK : Bool → List Tr → List UInt8
  | _, [] => []
  | b, t :: r => (if b then 40 else 44) :: (txt t ++ txtK false r)
end
mutual
/-- Each name is one, variables have no arguments, symbols at most four. -/
def fine : Tr → Prop
  | .node n ks => kindOf n ≠ 0 ∧ ks.length ≤ 4 ∧ (kindOf n = 2 → ks = []) ∧ fineL ks
def fineL : List Tr → Prop
  | [] => True
  | t :: r => fine t ∧ fineL r
end

theorem flat_pos (t : Tr) : 0 < (flat t).length := by cases t; simp [flat]
theorem flatL_len (ks : List Tr) : ks.length ≤ (flatL ks).length := by
  induction ks with
  | nil => simp
  | cons x r ih => have := flat_pos x; simp [flatL]; omega
theorem flatL_append (a b : List Tr) : flatL (a ++ b) = flatL a ++ flatL b := by
  induction a with
  | nil => simp [flatL]
  | cons x r ih => simp [flatL, ih]

mutual
theorem skip_flat : ∀ (t : Tr) (post : List S33), skip 1 (flat t ++ post) = some post
  | .node n ks, post => by
    simp only [flat, List.cons_append, skip, Nat.zero_add, Int.toNat_natCast]
    exact skip_flatL ks post
theorem skip_flatL : ∀ (ks : List Tr) (post : List S33), skip ks.length (flatL ks ++ post) = some post
  | [], post => by simp [flatL, skip]
  | t :: r, post => by
    rw [List.length_cons, Nat.add_comm, skip_add, flatL, List.append_assoc, skip_flat t]
    exact skip_flatL r post
end

theorem skip_forest : ∀ (l : List S33) (n : Nat) (r : List S33), tame l → skip n l = some r → ∃ F : List Tr, F.length = n ∧ l = flatL F ++ r
  | l, 0, r, _, h => by
    simp only [skip] at h
    exact ⟨[], rfl, by simpa [flatL] using Option.some.inj h⟩
  | [], n + 1, r, _, h => by simp [skip] at h
  | c :: l, n + 1, r, ht, h => by
    simp only [skip] at h
    obtain ⟨F, hF, hl⟩ := skip_forest l _ r (fun x hx => ht x (List.mem_cons_of_mem _ hx)) h
    have hc := ht c List.mem_cons_self
    refine ⟨.node c.f0 (F.take c.f1.toNat) :: F.drop c.f1.toNat, by simp [hF], ?_⟩
    have hlen : ((F.take c.f1.toNat).length : Int) = c.f1 := by rw [List.length_take, hF]; omega
    simp only [flatL, flat, List.cons_append, List.append_assoc, hlen]
    rw [← List.append_assoc, ← flatL_append, List.take_append_drop, hl]

theorem firstErr_append : ∀ (a b : List S33), firstErr (a ++ b) = if firstErr a = 0 then firstErr b else firstErr a
  | [], b => by simp [firstErr]
  | c :: a, b => by
    by_cases h : cellErr c = 0
    · have e : ∀ x, firstErr (c :: x) = firstErr x := fun x => by simp only [firstErr]; rw [if_pos h]
      rw [List.cons_append, e, e]
      exact firstErr_append a b
    · have e : ∀ x, firstErr (c :: x) = cellErr c := fun x => by simp only [firstErr]; rw [if_neg h]
      rw [List.cons_append, e, e, if_neg h]

theorem cellErr_ok {n : ByteArray} {a : Nat} (h : cellErr ⟨n, a⟩ = 0) : kindOf n ≠ 0 ∧ a ≤ 4 ∧ (kindOf n = 2 → a = 0) := by
  unfold cellErr at h
  dsimp only at h
  split at h
  · exact absurd h (by decide)
  · rename_i h0
    split at h
    · exact absurd h (by decide)
    · split at h
      · exact absurd h (by decide)
      · rename_i h1
        split at h
        · exact absurd h (by decide)
        · rename_i h2
          refine ⟨h0, by omega, fun hk => ?_⟩
          rcases Nat.eq_zero_or_pos a with ha | ha
          · exact ha
          · exact absurd ⟨hk, by omega⟩ h2
theorem cellErr_mk {n : ByteArray} {a : Nat} (h0 : kindOf n ≠ 0) (h1 : a ≤ 4) (h2 : kindOf n = 2 → a = 0) : cellErr ⟨n, a⟩ = 0 := by
  unfold cellErr
  dsimp only
  rw [if_neg h0, if_neg (by omega), if_neg (by omega), if_neg]
  rintro ⟨hk, ha⟩
  have := h2 hk
  omega

mutual
theorem fine_of : ∀ (T : Tr), firstErr (flat T) = 0 → fine T
  | .node n ks, h => by
    simp only [flat, firstErr] at h
    split at h
    · rename_i hc
      obtain ⟨h0, h1, h2⟩ := cellErr_ok hc
      exact ⟨h0, h1, fun hk => List.eq_nil_of_length_eq_zero (h2 hk), fine_ofL ks h⟩
    · rename_i hc; exact absurd h hc
theorem fine_ofL : ∀ (ks : List Tr), firstErr (flatL ks) = 0 → fineL ks
  | [], _ => trivial
  | t :: r, h => by
    simp only [flatL, firstErr_append] at h
    split at h
    · rename_i hc
      exact ⟨fine_of t hc, fine_ofL r h⟩
    · rename_i hc; exact absurd h hc
end
mutual
theorem fine_to : ∀ (T : Tr), fine T → firstErr (flat T) = 0
  | .node n ks, h => by
    obtain ⟨h0, h1, h2, h3⟩ := h
    simp only [flat, firstErr]
    rw [if_pos (cellErr_mk h0 h1 (fun hk => by rw [h2 hk]; rfl))]
    exact fine_toL ks h3
theorem fine_toL : ∀ (ks : List Tr), fineL ks → firstErr (flatL ks) = 0
  | [], _ => rfl
  | t :: r, h => by
    simp only [flatL, firstErr_append]
    rw [if_pos (fine_to t h.1)]
    exact fine_toL r h.2
end

theorem tree_of_chk (t : List S33) (h : chk t = 0) : ∃ T, t = flat T ∧ fine T ∧ t.length ≤ 64 := by
  unfold chk at h
  split at h
  · exact absurd h (by decide)
  · rename_i hl
    split at h
    · rename_i hf
      split at h
      · rename_i hs
        obtain ⟨F, hF, ht⟩ := skip_forest t 1 [] (tame_of_first t hf) hs
        match F, hF with
        | [T], _ =>
          have hT : t = flat T := by simpa [flatL] using ht
          exact ⟨T, hT, fine_of T (by rw [← hT]; exact hf), by omega⟩
      · exact absurd h (by decide)
    · rename_i hf; exact absurd h hf
theorem chk_of_tree (T : Tr) (hf : fine T) (hl : (flat T).length ≤ 64) : chk (flat T) = 0 := by
  unfold chk
  rw [if_neg (by omega), if_pos (fine_to T hf)]
  have := skip_flat T []
  rw [List.append_nil] at this
  rw [this]

/-! ### a name's letters -/
theorem bt_get (s : ByteArray) (i : Nat) (h : i < s.size) : bt s i = ((s.data.toList[i]'(by rw [data_length]; exact h)).toNat : Int) := by
  unfold bt
  simp only [Int.toNat_natCast]
  rw [dif_pos h]
  rfl
theorem allR_all {p : Nat → Bool} : ∀ d i, allR p d i = true → ∀ j, i ≤ j → j < i + d → p j = true
  | 0, i, _, j, h1, h2 => by omega
  | d + 1, i, h, j, h1, h2 => by
    simp only [allR, Bool.and_eq_true] at h
    by_cases hj : j = i
    · subst hj; exact h.1
    · exact allR_all d (i + 1) h.2 j (by omega) (by omega)
/-- A name has from one to eight signs, letters and digits all. -/
theorem name_signs (n : ByteArray) (h : kindOf n ≠ 0) : 1 ≤ n.size ∧ n.size ≤ 8 ∧ ∀ i, i < n.size → (97 ≤ bt n i ∧ bt n i ≤ 122 ∨ 65 ≤ bt n i ∧ bt n i ≤ 90 ∨ 48 ≤ bt n i ∧ bt n i ≤ 57) := by
  unfold kindOf at h
  split at h
  · exact absurd rfl h
  · refine ⟨by omega, by omega, fun i hi => ?_⟩
    split at h
    · rename_i h1
      have := allR_all _ _ h1 i (by omega) (by omega)
      simp [smB, lo, dg] at this
      omega
    · split at h
      · rename_i h1
        have := allR_all _ _ h1 i (by omega) (by omega)
        simp [grB, up, dg] at this
        omega
      · exact absurd rfl h

mutual
theorem txt_len : ∀ (T : Tr), fine T → (txt T).length + 1 ≤ 10 * (flat T).length
  | .node n ks, h => by
    obtain ⟨h0, h1, h2, h3⟩ := h
    obtain ⟨ha, hb, _⟩ := name_signs n h0
    have := txt_lenL ks true h3
    have hn : n.data.toList.length = n.size := data_length n
    simp only [txt, flat, List.length_append, List.length_cons, hn]
    split
    · simp; omega
    · simp; omega
theorem txt_lenL : ∀ (ks : List Tr) (b : Bool), fineL ks → (txtK b ks).length ≤ 10 * (flatL ks).length
  | [], b, _ => by simp [txtK]
  | t :: r, b, h => by
    have h1 := txt_len t h.1
    have h2 := txt_lenL r false h.2
    simp only [txtK, flatL, List.length_append, List.length_cons]
    omega
end

/-! ### where a cell lies -/
theorem rd_mid (pre post : List S33) (c : S33) : rd_T33 (pre ++ c :: post) (pre.length : Int) = c := by
  simp [rd_T33, List.getD_eq_getElem?_getD]

end Go.Proofs.YtnkpcnnbeaomnaaDoor.C
end

section
-- Written by a program of this session (a scratch print over hand-made contracts), out of the translation. Not trusted: Lean checks it.
namespace Go.Proofs.YtnkpcnnbeaomnaaDoor.C
open Go.RowKit Go.Proofs.YtnkpcnnbeaomnaaDoorW.PrintWords Go.Proofs.YtnkpcnnbeaomnaaDoorW.PrintLast Go.Proofs.YtnkpcnnbeaomnaaDoorW.PrintMore
attribute [local go_sem] max2_int min2_int max_two min_two max_three min_three max_four min_four   -- for this text's walks alone
set_option linter.unusedVariables false
set_option linter.unusedSimpArgs false

/-! ### aumbryref04_Copy: function 35 -/

end Go.Proofs.YtnkpcnnbeaomnaaDoor.C
end

section
-- Written by a program of this session (a scratch print over hand-made contracts), out of the translation. Not trusted: Lean checks it.
namespace Go.Proofs.YtnkpcnnbeaomnaaDoor.C
open Go.RowKit Go.Proofs.YtnkpcnnbeaomnaaDoorW.PrintWords Go.Proofs.YtnkpcnnbeaomnaaDoorW.PrintLast Go.Proofs.YtnkpcnnbeaomnaaDoorW.PrintMore
attribute [local go_sem] max2_int min2_int max_two min_two max_three min_three max_four min_four   -- for this text's walks alone
set_option linter.unusedVariables false
set_option linter.unusedSimpArgs false

/-! ### aumbryref04_Kids: function 69 -/

end Go.Proofs.YtnkpcnnbeaomnaaDoor.C
end

section
-- Written by a program of this session (a scratch print over hand-made contracts), out of the translation. Not trusted: Lean checks it.
namespace Go.Proofs.YtnkpcnnbeaomnaaDoor.C
open Go.RowKit Go.Proofs.YtnkpcnnbeaomnaaDoorW.PrintWords Go.Proofs.YtnkpcnnbeaomnaaDoorW.PrintLast Go.Proofs.YtnkpcnnbeaomnaaDoorW.PrintMore
attribute [local go_sem] max2_int min2_int max_two min_two max_three min_three max_four min_four   -- for this text's walks alone
set_option linter.unusedVariables false
set_option linter.unusedSimpArgs false

/-! ### aumbryref04_Text: function 49 -/

end Go.Proofs.YtnkpcnnbeaomnaaDoor.C
end

section
-- Written by a program of this session (a scratch print over hand-made contracts), out of the translation. Not trusted: Lean checks it.
namespace Go.Proofs.YtnkpcnnbeaomnaaDoor.C
open Go.RowKit Go.Proofs.YtnkpcnnbeaomnaaDoorW.PrintWords Go.Proofs.YtnkpcnnbeaomnaaDoorW.PrintLast Go.Proofs.YtnkpcnnbeaomnaaDoorW.PrintMore
attribute [local go_sem] max2_int min2_int max_two min_two max_three min_three max_four min_four   -- for this text's walks alone
set_option linter.unusedVariables false
set_option linter.unusedSimpArgs false

/-! ### aumbryref03_Has: function 39 -/
def aumbryref03_Has.l0 : Nat → List ByteArray → ByteArray → Int → Int → Option (Bool)
  | 0, _, _, _, _ => none
  | k + 1, x0, x1, x7, x8 => if x8 < x7 then (if 0 ≤ x8 then (if x8 < (x0.length : Int) then (if (rdOf ByteArray.empty x0 x8).toList = x1.toList then (some true) else (aumbryref03_Has.l0 k x0 x1 x7 (wrap64 (x8 + 1)))) else (none)) else (none)) else (some false)
def aumbryref03_Has.f (k : Nat) (l0 : List ByteArray) (a1 : ByteArray) : Option (Bool) := aumbryref03_Has.l0 k l0 a1 (l0.length : Int) 0

end Go.Proofs.YtnkpcnnbeaomnaaDoor.C
end

section
-- Written by a program of this session (a scratch print over hand-made contracts), out of the translation. Not trusted: Lean checks it.
namespace Go.Proofs.YtnkpcnnbeaomnaaDoor.C
open Go.RowKit Go.Proofs.YtnkpcnnbeaomnaaDoorW.PrintWords Go.Proofs.YtnkpcnnbeaomnaaDoorW.PrintLast Go.Proofs.YtnkpcnnbeaomnaaDoorW.PrintMore
attribute [local go_sem] max2_int min2_int max_two min_two max_three min_three max_four min_four   -- for this text's walks alone
set_option linter.unusedVariables false
set_option linter.unusedSimpArgs false

/-! ### aumbryref04_Vars: function 38 -/

end Go.Proofs.YtnkpcnnbeaomnaaDoor.C
end

section
/- What the program's and the reference's functions on terms come to, said of trees: written text, arguments, depth, variables. Plain words, no machine. -/
namespace Go.Proofs.YtnkpcnnbeaomnaaDoor.C
open Go.RowKit Go.Proofs.YtnkpcnnbeaomnaaDoorW.PrintWords Go.Proofs.YtnkpcnnbeaomnaaDoorW.PrintLast Go.Proofs.YtnkpcnnbeaomnaaDoorW.PrintMore
set_option linter.unusedVariables false
set_option linter.unusedSimpArgs false

/-! ### term.write and term.Print -/
mutual
theorem wrt_tree : ∀ (T : Tr) (pre post : List S33), (pre ++ flat T ++ post).length ≤ 1000000 → Ev (fun k => wrt.f k (pre ++ flat T ++ post) (pre.length : Int)) (txt T, ((pre.length + (flat T).length : Nat) : Int))
  | .node n ks, pre, post, hl => by
    have hw : wrap64 ((pre.length : Int) + 1) = (((pre ++ [(⟨n, ks.length⟩ : S33)]).length : Nat) : Int) := by simp [flat] at hl ⊢; unfold wrap64; omega
    have ht : pre ++ flat (.node n ks) ++ post = (pre ++ [(⟨n, ks.length⟩ : S33)]) ++ flatL ks ++ post := by simp [flat]
    have hrd : rd_T33 (pre ++ flat (.node n ks) ++ post) (pre.length : Int) = ⟨n, ks.length⟩ := by
      rw [show pre ++ flat (.node n ks) ++ post = pre ++ (⟨n, ks.length⟩ : S33) :: (flatL ks ++ post) from by simp [flat]]
      exact rd_mid _ _ _
    have hk := wrt_forest ks (pre ++ [(⟨n, ks.length⟩ : S33)]) post 0 n.data.toList (by rw [← ht]; exact hl) (by have := flatL_len ks; simp [flat] at hl; omega)
    rw [← ht] at hk
    obtain ⟨K, hk⟩ := hk
    dsimp only at hk
    refine Ev.nxt K (fun k hkk => ?_)
    simp only [wrt.f]
    rw [if_pos (by omega), if_pos (by simp [flat]; omega), hrd, hw]
    dsimp only
    have := hk k hkk
    rw [Nat.zero_add, show (((0 : Nat) : Int)) = 0 from rfl] at this
    rw [this, Option.bind_some]
    by_cases h0 : ks.length = 0
    · rw [if_neg (by omega)]
      simp only [txt, flat, h0, decide_true, List.length_append, List.length_singleton, List.length_cons]
      simp
      omega
    · rw [if_pos (by omega)]
      simp only [txt, flat, decide_true, List.length_append, List.length_singleton, List.length_cons]
      rw [if_neg h0]
      simp
      omega
theorem wrt_forest : ∀ (ks : List Tr) (pre post : List S33) (i : Nat) (acc : List UInt8), (pre ++ flatL ks ++ post).length ≤ 1000000 → i + ks.length ≤ 1000000 →
    Ev (fun k => wrt.l k (pre ++ flatL ks ++ post) (pre.length : Int) ((i + ks.length : Nat) : Int) (i : Int) acc) (acc ++ txtK (decide (i = 0)) ks, ((pre.length + (flatL ks).length : Nat) : Int))
  | [], pre, post, i, acc, hl, hi => by
    refine Ev.nxt 0 (fun k hkk => ?_)
    simp only [wrt.l]
    rw [if_neg (by simp)]
    simp [txtK, flatL]
  | T :: r, pre, post, i, acc, hl, hi => by
    have e1 : pre ++ flatL (T :: r) ++ post = pre ++ flat T ++ (flatL r ++ post) := by simp [flatL]
    have e2 : pre ++ flatL (T :: r) ++ post = (pre ++ flat T) ++ flatL r ++ post := by simp [flatL]
    have h1 := wrt_tree T pre (flatL r ++ post) (by rw [← e1]; exact hl)
    have h2 := wrt_forest r (pre ++ flat T) post (i + 1) (acc ++ (if i = 0 then 40 else 44) :: txt T) (by rw [← e2]; exact hl) (by simp at hi; omega)
    rw [← e1] at h1
    rw [← e2] at h2
    obtain ⟨K1, h1⟩ := h1
    obtain ⟨K2, h2⟩ := h2
    dsimp only at h1 h2
    have hw : wrap64 ((i : Int) + 1) = ((i + 1 : Nat) : Int) := by simp at hi; unfold wrap64; omega
    have hn : ((i + (T :: r).length : Nat) : Int) = ((i + 1 + r.length : Nat) : Int) := by simp; omega
    rw [hn]
    have hres : (acc ++ (if i = 0 then 40 else 44) :: txt T) ++ txtK (decide (i + 1 = 0)) r = acc ++ txtK (decide (i = 0)) (T :: r) := by
      by_cases h0 : i = 0 <;> simp [txtK, h0]
    have hend : (((pre ++ flat T).length + (flatL r).length : Nat) : Int) = ((pre.length + (flatL (T :: r)).length : Nat) : Int) := by simp [flatL]; omega
    have hpos : (((pre ++ flat T).length : Nat) : Int) = ((pre.length + (flat T).length : Nat) : Int) := by simp
    rw [hres, hend, hpos] at h2
    refine Ev.nxt (max K1 K2) (fun k hkk => ?_)
    simp only [wrt.l]
    rw [if_pos (by omega), hw, h1 k (by omega)]
    simp only [Option.bind_some]
    by_cases h0 : i = 0
    · have := h2 k (by omega)
      rw [if_pos h0] at this
      rw [if_pos (by omega)]
      exact this
    · have := h2 k (by omega)
      rw [if_neg h0] at this
      rw [if_neg (by omega)]
      by_cases h1' : i = 1
      · rw [if_pos (by omega)]
        exact this
      · rw [if_neg (by omega), if_pos (by omega)]
        exact this
end

def bytes (l : List UInt8) : ByteArray := ⟨l.toArray⟩
theorem print_ok (T : Tr) (hf : fine T) (hl : (flat T).length ≤ 64) : Ev (fun k => term_Print.f k (flat T)) (bytes (txt T), 0) := by
  have h1 := check_ev (flat T)
  rw [chk_of_tree T hf hl] at h1
  have h2 := wrt_tree T [] [] (by simp; omega)
  simp only [List.nil_append, List.append_nil] at h2
  have hlen := txt_len T hf
  obtain ⟨K1, h1⟩ := h1
  obtain ⟨K2, h2⟩ := h2
  dsimp only at h1 h2
  refine ⟨max K1 K2, fun k hk => ?_⟩
  dsimp only
  unfold term_Print.f
  rw [h1 k (by omega), Option.bind_some, if_pos rfl]
  rw [show wrt.f k (flat T) 0 = _ from h2 k (by omega), Option.bind_some, if_pos (by dsimp only; omega)]
  rfl

/-! ### arguments -/




theorem bytes_data (s : ByteArray) : bytes s.data.toList = s := by
  apply ByteArray.ext
  simp [bytes]

def hasB (l : List ByteArray) (s : ByteArray) : Bool := l.any fun x => decide (x.toList = s.toList)
theorem drop_of (l : List ByteArray) (i : Nat) (h : i < l.length) : l.drop i = rdOf ByteArray.empty l i :: l.drop (i + 1) := by
  rw [List.drop_eq_getElem_cons h]
  simp [rdOf, List.getD_eq_getElem?_getD, List.getElem?_eq_getElem h]
theorem has_l0 (l : List ByteArray) (s : ByteArray) (hl : l.length ≤ 1000000) : ∀ d i : Nat, i + d = l.length → Ev (fun k => aumbryref03_Has.l0 k l s (l.length : Int) (i : Int)) (hasB (l.drop i) s)
  | 0, i, h => by
    refine Ev.nxt 0 (fun k _ => ?_)
    simp only [aumbryref03_Has.l0]
    rw [if_neg (by omega), List.drop_eq_nil_of_le (by omega)]
    rfl
  | d + 1, i, h => by
    have hw : wrap64 ((i : Int) + 1) = ((i + 1 : Nat) : Int) := by unfold wrap64; omega
    rw [drop_of l i (by omega)]
    by_cases hc : (rdOf ByteArray.empty l i).toList = s.toList
    · refine Ev.nxt 0 (fun k _ => ?_)
      simp only [aumbryref03_Has.l0]
      rw [if_pos (by omega), if_pos (by omega), if_pos (by omega), if_pos hc]
      simp [hasB, hc]
    · refine Ev.step (f := fun k => aumbryref03_Has.l0 k l s (l.length : Int) ((i + 1 : Nat) : Int)) (fun k => ?_) ?_
      · simp only [aumbryref03_Has.l0]
        rw [if_pos (by omega), if_pos (by omega), if_pos (by omega), if_neg hc, hw]
      · have := has_l0 l s hl d (i + 1) (by omega)
        simpa [hasB, hc] using this
theorem has_ev (l : List ByteArray) (s : ByteArray) (hl : l.length ≤ 1000000) : Ev (fun k => aumbryref03_Has.f k l s) (hasB l s) := has_l0 l s hl l.length 0 (by omega)
theorem index_l0 (l : List ByteArray) (s : ByteArray) (hl : l.length ≤ 1000000) : ∀ d i : Nat, i + d = l.length → ∃ r, Ev (fun k => slices_Index_string_string.l0 k l s (l.length : Int) (i : Int)) r ∧ decide (r ≥ 0) = hasB (l.drop i) s
  | 0, i, h => by
    refine ⟨-1, Ev.nxt 0 (fun k _ => ?_), ?_⟩
    · simp only [slices_Index_string_string.l0]
      rw [if_neg (by omega)]
    · rw [List.drop_eq_nil_of_le (by omega)]
      rfl
  | d + 1, i, h => by
    have hw : wrap64 ((i : Int) + 1) = ((i + 1 : Nat) : Int) := by unfold wrap64; omega
    rw [drop_of l i (by omega)]
    by_cases hc : (rdOf ByteArray.empty l i).toList = s.toList
    · refine ⟨(i : Int), Ev.nxt 0 (fun k _ => ?_), ?_⟩
      · simp only [slices_Index_string_string.l0]
        rw [if_pos (by omega), if_pos (by omega), if_pos (by omega), if_pos hc.symm]
      · simp [hasB, hc]
    · obtain ⟨r, h1, h2⟩ := index_l0 l s hl d (i + 1) (by omega)
      refine ⟨r, Ev.step (f := fun k => slices_Index_string_string.l0 k l s (l.length : Int) ((i + 1 : Nat) : Int)) (fun k => ?_) h1, ?_⟩
      · simp only [slices_Index_string_string.l0]
        rw [if_pos (by omega), if_pos (by omega), if_pos (by omega), if_neg (fun h => hc h.symm), hw]
      · rw [h2]
        simp [hasB, hc]
theorem contains_ev (l : List ByteArray) (s : ByteArray) (hl : l.length ≤ 1000000) : Ev (fun k => slices_Contains_string_string.f k l s) (hasB l s) := by
  obtain ⟨r, h1, h2⟩ := index_l0 l s hl l.length 0 (by omega)
  refine Ev.congr (f := fun k => (slices_Index_string_string.l0 k l s (l.length : Int) ((0 : Nat) : Int)).bind fun t457 => (some (decide (t457 ≥ 0)))) (fun k => by rfl) (Ev.bind h1 ?_)
  rw [h2]
  exact Ev.now _

def varsL : List S33 → List ByteArray → List ByteArray
  | [], acc => acc
  | c :: r, acc => varsL r (if kindOf c.f0 = 2 then (if hasB acc c.f0 then acc else acc ++ [c.f0]) else acc)
theorem vars_l0 (t : List S33) (ht : t.length ≤ 1000) : ∀ (d i : Nat) (acc : List ByteArray), i + d = t.length → acc.length ≤ i → Ev (fun k => term_Vars.l0 k acc t (t.length : Int) (i : Int)) (varsL (t.drop i) acc, 0)
  | 0, i, acc, h, ha => by
    refine Ev.nxt 0 (fun k _ => ?_)
    simp only [term_Vars.l0]
    rw [if_neg (by omega), drop_end t i (by omega)]
    rfl
  | d + 1, i, acc, h, ha => by
    have hw : wrap64 ((i : Int) + 1) = ((i + 1 : Nat) : Int) := by unfold wrap64; omega
    rw [drop_rd t i (by omega)]
    obtain ⟨K1, hk⟩ := kind_ev (rd_T33 t i).f0
    obtain ⟨K2, hc⟩ := contains_ev acc (rd_T33 t i).f0 (by omega)
    dsimp only at hk hc
    by_cases c1 : kindOf (rd_T33 t i).f0 = 2
    · by_cases c2 : hasB acc (rd_T33 t i).f0 = true
      · have ih := vars_l0 t ht d (i + 1) acc (by omega) (by omega)
        obtain ⟨K3, ih⟩ := ih
        refine Ev.nxt (max (max K1 K2) K3) (fun k hkk => ?_)
        simp only [term_Vars.l0, varsL]
        rw [if_pos (by omega), if_pos (by omega), if_pos (by omega), hk k (by omega), Option.bind_some, if_pos c1, hc k (by omega), Option.bind_some, if_pos c2, hw, if_pos c1, if_pos c2]
        exact ih k (by omega)
      · have ih := vars_l0 t ht d (i + 1) (acc ++ [(rd_T33 t i).f0]) (by omega) (by simp; omega)
        obtain ⟨K3, ih⟩ := ih
        refine Ev.nxt (max (max K1 K2) K3) (fun k hkk => ?_)
        simp only [term_Vars.l0, varsL]
        rw [if_pos (by omega), if_pos (by omega), if_pos (by omega), hk k (by omega), Option.bind_some, if_pos c1, hc k (by omega), Option.bind_some, if_neg c2, if_pos (by omega), hw, if_pos c1, if_neg c2]
        exact ih k (by omega)
    · have ih := vars_l0 t ht d (i + 1) acc (by omega) (by omega)
      obtain ⟨K3, ih⟩ := ih
      refine Ev.nxt (max K1 K3) (fun k hkk => ?_)
      simp only [term_Vars.l0, varsL]
      rw [if_pos (by omega), if_pos (by omega), if_pos (by omega), hk k (by omega), Option.bind_some, if_neg c1, hw, if_neg c1]
      exact ih k (by omega)
theorem varsL_len : ∀ (t : List S33) (acc : List ByteArray), (varsL t acc).length ≤ acc.length + t.length
  | [], acc => by simp [varsL]
  | c :: r, acc => by
    simp only [varsL]
    refine Nat.le_trans (varsL_len r _) ?_
    split
    · split
      · simp
      · simp; omega
    · simp
theorem vars_ok (t : List S33) (h : chk t = 0) : Ev (fun k => term_Vars.f k t) (varsL t [], 0) := by
  have hl : t.length ≤ 64 := by obtain ⟨T, _, _, hl⟩ := tree_of_chk t h; exact hl
  have h1 := check_ev t
  rw [h] at h1
  obtain ⟨K1, h1⟩ := h1
  obtain ⟨K2, h2⟩ := vars_l0 t (by omega) t.length 0 [] (by omega) (by simp)
  dsimp only at h1 h2
  refine ⟨max K1 K2, fun k hk => ?_⟩
  dsimp only
  unfold term_Vars.f
  rw [h1 k (by omega), Option.bind_some, if_pos rfl]
  exact h2 k (by omega)

/-! ### alike -/
theorem sameT_l0 (a : List S33) (hb : a.length ≤ 4611686018427387904) : ∀ d i : Nat, i + d = a.length → Ev (fun k => aumbryref04_Same.l0 k a a (a.length : Int) (i : Int)) true
  | 0, i, h => Ev.nxt 0 (fun k _ => by simp only [aumbryref04_Same.l0]; rw [if_neg (by omega)])
  | d + 1, i, h => by
    have hw : wrap64 ((i : Int) + 1) = ((i + 1 : Nat) : Int) := by unfold wrap64; omega
    refine Ev.step (f := fun k => aumbryref04_Same.l0 k a a (a.length : Int) ((i + 1 : Nat) : Int)) (fun k => ?_) (sameT_l0 a hb d (i + 1) (by omega))
    simp only [aumbryref04_Same.l0]
    rw [if_pos (by omega), if_pos (by omega), if_pos (by omega), if_pos (by omega), if_neg (by simp), hw]
theorem sameT_ev (a : List S33) (hb : a.length ≤ 4611686018427387904) : Ev (fun k => aumbryref04_Same.f k a a) true :=
  Ev.congr (fun k => by unfold aumbryref04_Same.f; rw [if_pos rfl]; rfl) (sameT_l0 a hb a.length 0 (by omega))
end Go.Proofs.YtnkpcnnbeaomnaaDoor.C
end

section
-- Written by a program of this session (a scratch print over hand-made contracts), out of the translation. Not trusted: Lean checks it.
namespace Go.Proofs.YtnkpcnnbeaomnaaDoor.C
open Go.RowKit Go.Proofs.YtnkpcnnbeaomnaaDoorW.PrintWords Go.Proofs.YtnkpcnnbeaomnaaDoorW.PrintLast Go.Proofs.YtnkpcnnbeaomnaaDoorW.PrintMore
attribute [local go_sem] max2_int min2_int max_two min_two max_three min_three max_four min_four   -- for this text's walks alone
set_option linter.unusedVariables false
set_option linter.unusedSimpArgs false

/-! ### aumbryref04_sign: function 79 -/
def aumbryref04_sign.f (a0 : Int) : Option (Bool) := if a0 ≥ 97 then (if a0 ≤ 122 then (some true) else (if a0 ≥ 65 then (if a0 ≤ 90 then (some true) else (if a0 ≥ 48 then (some (decide (a0 ≤ 57))) else (some false))) else (if a0 ≥ 48 then (some (decide (a0 ≤ 57))) else (some false)))) else (if a0 ≥ 65 then (if a0 ≤ 90 then (some true) else (if a0 ≥ 48 then (some (decide (a0 ≤ 57))) else (some false))) else (if a0 ≥ 48 then (some (decide (a0 ≤ 57))) else (some false)))

end Go.Proofs.YtnkpcnnbeaomnaaDoor.C
end

section
-- Written by a program of this session (a scratch print over hand-made contracts), out of the translation. Not trusted: Lean checks it.
namespace Go.Proofs.YtnkpcnnbeaomnaaDoor.C
open Go.RowKit Go.Proofs.YtnkpcnnbeaomnaaDoorW.PrintWords Go.Proofs.YtnkpcnnbeaomnaaDoorW.PrintLast Go.Proofs.YtnkpcnnbeaomnaaDoorW.PrintMore
attribute [local go_sem] max2_int min2_int max_two min_two max_three min_three max_four min_four   -- for this text's walks alone
set_option linter.unusedVariables false
set_option linter.unusedSimpArgs false

/-! ### aumbryref04_Read: function 65 -/
mutual
def aumbryref04_Read.j1 : Nat → ByteArray → Int → List (S33) → Int → Option ((List (S33)) × Int × Int)
  | 0, _, _, _, _ => none
  | k + 1, x0, x1, x2, x9 => if 0 ≤ x1 then (if x1 ≤ x9 then (if x9 ≤ (x0.size : Int) then (if (x0.extract (x1 : Int).toNat (x9 : Int).toNat).toList = ([] : List UInt8) then (some (([] : List (S33)), x1, 3)) else ((aumbryref03_Kind.f k (x0.extract (x1 : Int).toNat (x9 : Int).toNat)).bind fun t265 => (if t265 = 0 then (some (([] : List (S33)), x1, 4)) else (if (x2.length : Int) = 64 then (some (([] : List (S33)), x1, 6)) else (if x2.length < 5864062014805 then ((some (x2 ++ [(⟨x0.extract (x1 : Int).toNat (x9 : Int).toNat, 0⟩ : S33)] : List (S33))).bind fun y266 => (if x9 = (x0.size : Int) then (aumbryref04_Read.j2 k x0 y266 x9 t265 (x2.length : Int) true) else (if 0 ≤ x9 then (if x9 < (x0.size : Int) then (aumbryref04_Read.j2 k x0 y266 x9 t265 (x2.length : Int) ((bt x0 x9) != 40)) else (none)) else (none)))) else (none)))))) else (none)) else (none)) else (none)
def aumbryref04_Read.j2 : Nat → ByteArray → List (S33) → Int → Int → Int → Bool → Option ((List (S33)) × Int × Int)
  | 0, _, _, _, _, _, _ => none
  | k + 1, x0, x2, x9, x11, x12, x62 => if x62 = true then (some (x2, x9, 0)) else (if x11 = 2 then (some (([] : List (S33)), x9, 5)) else (aumbryref04_Read.l1 k x0 x2 x9 x12 1))
def aumbryref04_Read.l1 : Nat → ByteArray → List (S33) → Int → Int → Int → Option ((List (S33)) × Int × Int)
  | 0, _, _, _, _, _ => none
  | k + 1, x0, x2, x9, x12, x13 => (aumbryref04_Read.f k x0 (wrap64 (x9 + 1)) x2).bind fun bt269 => (if bt269.2.2 = 0 then (if 0 ≤ x12 then (if x12 < (bt269.1.length : Int) then ((some (bt269.1.set (x12 : Int).toNat (⟨(rd_T33 bt269.1 x12).f0, x13⟩ : S33) : List (S33))).bind fun y274 => (if bt269.2.1 < (x0.size : Int) then (if 0 ≤ bt269.2.1 then (aumbryref04_Read.j4 k x0 y274 bt269.2.1 x12 x13 ((bt x0 bt269.2.1) == 41)) else (none)) else (aumbryref04_Read.j4 k x0 y274 bt269.2.1 x12 x13 false))) else (none)) else (none)) else (some (([] : List (S33)), bt269.2.1, bt269.2.2)))
def aumbryref04_Read.j4 : Nat → ByteArray → List (S33) → Int → Int → Int → Bool → Option ((List (S33)) × Int × Int)
  | 0, _, _, _, _, _, _ => none
  | k + 1, x0, x2, x9, x12, x13, x99 => if x99 = true then (some (x2, wrap64 (x9 + 1), 0)) else (if x9 = (x0.size : Int) then (aumbryref04_Read.j5 k x0 x2 x9 x12 x13 true) else (if 0 ≤ x9 then (if x9 < (x0.size : Int) then (aumbryref04_Read.j5 k x0 x2 x9 x12 x13 ((bt x0 x9) != 44)) else (none)) else (none)))
def aumbryref04_Read.j5 : Nat → ByteArray → List (S33) → Int → Int → Int → Bool → Option ((List (S33)) × Int × Int)
  | 0, _, _, _, _, _, _ => none
  | k + 1, x0, x2, x9, x12, x13, x112 => if x112 = true then (some (([] : List (S33)), x9, 3)) else (if x13 = 4 then (some (([] : List (S33)), x9, 5)) else (aumbryref04_Read.l1 k x0 x2 x9 x12 (wrap64 (x13 + 1))))
def aumbryref04_Read.l0 : Nat → ByteArray → Int → List (S33) → Int → Option ((List (S33)) × Int × Int)
  | 0, _, _, _, _ => none
  | k + 1, x0, x1, x2, x9 => if x9 < (x0.size : Int) then (if 0 ≤ x9 then ((aumbryref04_sign.f (bt x0 x9)).bind fun t264 => (if t264 = true then (aumbryref04_Read.l0 k x0 x1 x2 (wrap64 (x9 + 1))) else (aumbryref04_Read.j1 k x0 x1 x2 x9))) else (none)) else (aumbryref04_Read.j1 k x0 x1 x2 x9)
def aumbryref04_Read.f : Nat → ByteArray → Int → List (S33) → Option ((List (S33)) × Int × Int)
  | 0, _, _, _ => none
  | k + 1, a0, a1, l2 => aumbryref04_Read.l0 k a0 a1 l2 a1
end

end Go.Proofs.YtnkpcnnbeaomnaaDoor.C
end

section
-- Written by a program of this session (a scratch print over hand-made contracts), out of the translation. Not trusted: Lean checks it.
namespace Go.Proofs.YtnkpcnnbeaomnaaDoor.C
open Go.RowKit Go.Proofs.YtnkpcnnbeaomnaaDoorW.PrintWords Go.Proofs.YtnkpcnnbeaomnaaDoorW.PrintLast Go.Proofs.YtnkpcnnbeaomnaaDoorW.PrintMore
attribute [local go_sem] max2_int min2_int max_two min_two max_three min_three max_four min_four   -- for this text's walks alone
set_option linter.unusedVariables false
set_option linter.unusedSimpArgs false

/-! ### aumbryref04_Parse: function 41 -/

end Go.Proofs.YtnkpcnnbeaomnaaDoor.C
end

section
/- The program's reader and the reference's, held against each other: at every text and place both come to one answer. -/
namespace Go.Proofs.YtnkpcnnbeaomnaaDoor.C
open Go.RowKit Go.Proofs.YtnkpcnnbeaomnaaDoorW.PrintWords Go.Proofs.YtnkpcnnbeaomnaaDoorW.PrintLast Go.Proofs.YtnkpcnnbeaomnaaDoorW.PrintMore
set_option linter.unusedVariables false
set_option linter.unusedSimpArgs false

theorem Ev.succ {α : Type} {g : Nat → Option α} {r : α} (K : Nat) (h : ∀ k, K ≤ k → g (k + 1) = some r) : Ev g r :=
  ⟨K + 1, fun k hk => by obtain ⟨m, rfl⟩ : ∃ m, k = m + 1 := ⟨k - 1, by omega⟩; exact h m (by omega)⟩

theorem sign04 (c : Int) : aumbryref04_sign.f c = some (sgn c) := by
  unfold aumbryref04_sign.f sgn
  by_cases a1 : 97 ≤ c
  · by_cases a2 : c ≤ 122
    · simp [a1, a2]
    · have a3 : ¬ c ≤ 90 := by omega
      have a4 : 65 ≤ c := by omega
      have a5 : 48 ≤ c := by omega
      have a6 : ¬ c ≤ 57 := by omega
      simp [a1, a2, a3, a4, a5, a6]
  · by_cases a3 : 65 ≤ c
    · by_cases a4 : c ≤ 90
      · simp [a1, a3, a4]
      · have a5 : 48 ≤ c := by omega
        have a6 : ¬ c ≤ 57 := by omega
        simp [a1, a3, a4, a5, a6]
    · by_cases a5 : 48 ≤ c
      · by_cases a6 : c ≤ 57
        · simp [a1, a3, a5, a6]
        · simp [a1, a3, a5, a6]
      · simp [a1, a3, a5]


theorem scan_both (s : ByteArray) (hs : s.size ≤ 1024) : ∀ (d : Nat) (a : Int), 0 ≤ a → a + d = (s.size : Int) → ∃ b, a ≤ b ∧ b ≤ (s.size : Int) ∧ Ev (fun k => scan k s a) b ∧
    ∀ (x : Int) (out : List S33) (r : List S33 × Int × Int), Ev (fun k => aumbryref04_Read.j1 k s x out b) r → Ev (fun k => aumbryref04_Read.l0 k s x out a) r
  | 0, a, h0, hd => by
    refine ⟨a, Int.le_refl _, by omega, Ev.succ 0 (fun k _ => ?_), fun x out r h => Ev.step (f := fun k => aumbryref04_Read.j1 k s x out a) (fun k => ?_) h⟩
    · simp only [scan]; rw [if_neg (by omega)]
    · simp only [aumbryref04_Read.l0]; rw [if_neg (by omega)]
  | d + 1, a, h0, hd => by
    by_cases hg : sgn (bt s a) = true
    · obtain ⟨b, h1, h2, h3, h4⟩ := scan_both s hs d (a + 1) (by omega) (by omega)
      have hw : wrap64 (a + 1) = a + 1 := by unfold wrap64; omega
      refine ⟨b, by omega, h2, Ev.step (f := fun k => scan k s (a + 1)) (fun k => ?_) h3, fun x out r h => Ev.step (f := fun k => aumbryref04_Read.l0 k s x out (a + 1)) (fun k => ?_) (h4 x out r h)⟩
      · simp only [scan]; rw [if_pos (by omega), if_pos h0, if_pos hg, hw]
      · simp only [aumbryref04_Read.l0]; rw [if_pos (by omega), if_pos h0, sign04, hg, hw]; rfl
    · refine ⟨a, Int.le_refl _, by omega, Ev.succ 0 (fun k _ => ?_), fun x out r h => Ev.step (f := fun k => aumbryref04_Read.j1 k s x out a) (fun k => ?_) h⟩
      · simp only [scan]; rw [if_pos (by omega), if_pos h0, if_neg hg]
      · simp only [aumbryref04_Read.l0]; rw [if_pos (by omega), if_pos h0, sign04]; simp [hg]

def trR : PR → List S33 × Int × Int
  | .ok a out => (out, a, 0)
  | .bad x y => ([], x, y)
def goodR (s : ByteArray) (a : Int) (out : List S33) : PR → Prop
  | .ok a1 out1 => a < a1 ∧ a1 ≤ (s.size : Int) ∧ out.length ≤ out1.length ∧ out1.length ≤ 64
  | .bad x y => 0 ≤ x ∧ x ≤ (s.size : Int) ∧ y ≠ 0
def FP (s : ByteArray) (d : Nat) : Prop := ∀ (a : Int) (out : List S33), 0 ≤ a → a ≤ (s.size : Int) → (s.size : Int) - a ≤ d → out.length ≤ 64 →
  ∃ r, Ev (fun k => rdt.f k s a out) r ∧ Ev (fun k => aumbryref04_Read.f k s a out) (trR r) ∧ goodR s a out r
def LP (s : ByteArray) (d : Nat) : Prop := ∀ (a : Int) (out : List S33) (cell : Nat) (n : Int), 0 ≤ a → a < (s.size : Int) → (s.size : Int) - a ≤ d → cell < out.length → out.length ≤ 64 → 1 ≤ n → n ≤ 4 →
  ∃ r, Ev (fun k => rdt.l k s a out cell n) r ∧ Ev (fun k => aumbryref04_Read.l1 k s out a (cell : Int) n) (trR r) ∧ goodR s a out r

theorem word_nil (s : ByteArray) (a b : Int) (h0 : 0 ≤ a) (hab : a ≤ b) (hb : b ≤ (s.size : Int)) : (s.extract a.toNat b.toNat).toList = ([] : List UInt8) ↔ a = b := by
  have hsz : (s.extract a.toNat b.toNat).size = b.toNat - a.toNat := by rw [ByteArray.size_extract]; omega
  constructor
  · intro h
    have h1 : (s.extract a.toNat b.toNat).toList.length = 0 := by rw [h]; rfl
    rw [tl_len, hsz] at h1
    omega
  · intro h
    apply List.eq_nil_of_length_eq_zero
    rw [tl_len, hsz]
    omega

theorem f_step (s : ByteArray) (hs : s.size ≤ 1024) (d : Nat) (ih : ∀ e, e < d → LP s e) : FP s d := by
  intro a out h0 h1 hd hlen
  obtain ⟨b, hab, hb, hsc, hrd⟩ := scan_both s hs (s.size - a.toNat) a h0 (by omega)
  obtain ⟨wd, hwd⟩ : ∃ wd, s.extract a.toNat b.toNat = wd := ⟨_, rfl⟩
  have hnil := word_nil s a b h0 hab hb
  rw [hwd] at hnil
  have hk := kind_ev wd
  have hrk := rkind_ev wd
  obtain ⟨K1, hsc⟩ := hsc
  dsimp only at hsc
  obtain ⟨K2, hk⟩ := hk
  dsimp only at hk
  have hR : ∀ r, Ev (fun k => aumbryref04_Read.j1 k s a out b) r → Ev (fun k => aumbryref04_Read.f k s a out) r := fun r h => Ev.step (f := fun k => aumbryref04_Read.l0 k s a out a) (fun k => by simp only [aumbryref04_Read.f]) (hrd a out r h)
  by_cases c1 : a = b
  · have hn := hnil.2 c1
    refine ⟨.bad a 3, Ev.succ (max K1 K2) (fun k hkk => ?_), hR _ (Ev.succ 0 (fun k _ => ?_)), h0, h1, by decide⟩
    · simp only [rdt.f]
      rw [if_pos ⟨h0, h1⟩, hsc k (by omega), Option.bind_some, hwd, hk k (by omega), Option.bind_some, if_pos hn]
    · simp only [aumbryref04_Read.j1]
      rw [if_pos h0, if_pos hab, if_pos hb, hwd, if_pos hn]
      rfl
  have hn : ¬ wd.toList = ([] : List UInt8) := fun h => c1 (hnil.1 h)
  by_cases c2 : kindOf wd = 0
  · refine ⟨.bad a 4, Ev.succ (max K1 K2) (fun k hkk => ?_), hR _ ?_, h0, h1, by decide⟩
    · simp only [rdt.f]
      rw [if_pos ⟨h0, h1⟩, hsc k (by omega), Option.bind_some, hwd, hk k (by omega), Option.bind_some, if_neg hn, if_pos c2]
    · obtain ⟨K3, hrk⟩ := hrk
      dsimp only at hrk
      refine Ev.succ K3 (fun k hkk => ?_)
      simp only [aumbryref04_Read.j1]
      rw [if_pos h0, if_pos hab, if_pos hb, hwd, if_neg hn, hrk k hkk, Option.bind_some, if_pos c2]
      rfl
  by_cases c3 : out.length = 64
  · refine ⟨.bad a 6, Ev.succ (max K1 K2) (fun k hkk => ?_), hR _ ?_, h0, h1, by decide⟩
    · simp only [rdt.f]
      rw [if_pos ⟨h0, h1⟩, hsc k (by omega), Option.bind_some, hwd, hk k (by omega), Option.bind_some, if_neg hn, if_neg c2, if_pos c3]
    · obtain ⟨K3, hrk⟩ := hrk
      dsimp only at hrk
      refine Ev.succ K3 (fun k hkk => ?_)
      simp only [aumbryref04_Read.j1]
      rw [if_pos h0, if_pos hab, if_pos hb, hwd, if_neg hn, hrk k hkk, Option.bind_some, if_neg c2, if_pos (by omega)]
      rfl
  have hR2 : ∀ r, Ev (fun k => aumbryref04_Read.j2 k s (out ++ [(⟨wd, 0⟩ : S33)]) b (kindOf wd) (out.length : Int) (decide (nxt s b ≠ 40))) r → Ev (fun k => aumbryref04_Read.f k s a out) r := by
    intro r h
    refine hR r ?_
    obtain ⟨K3, hrk⟩ := hrk
    dsimp only at hrk
    obtain ⟨K4, h⟩ := h
    dsimp only at h
    refine Ev.succ (max K3 K4) (fun k hkk => ?_)
    simp only [aumbryref04_Read.j1]
    rw [if_pos h0, if_pos hab, if_pos hb, hwd, if_neg hn, hrk k (by omega), Option.bind_some, if_neg c2, if_neg (by omega), if_pos (by omega), Option.bind_some]
    by_cases hbs : b = (s.size : Int)
    · rw [if_pos hbs]
      have : decide (nxt s b ≠ 40) = true := by rw [nxt, if_neg (by omega)]; decide
      rw [this] at h
      exact h k (by omega)
    · rw [if_neg hbs, if_pos (by omega), if_pos (by omega)]
      have : decide (nxt s b ≠ 40) = (bt s b != 40) := by
        rw [nxt, if_pos (by omega)]
        by_cases h40 : bt s b = 40 <;> simp [h40]
      rw [this] at h
      exact h k (by omega)
  by_cases c4 : nxt s b = 40
  · have hlt : b < (s.size : Int) := by
      rcases Int.lt_or_le b s.size with h' | h'
      · exact h'
      · rw [nxt, if_neg (by omega)] at c4
        exact absurd c4 (by decide)
    by_cases c5 : kindOf wd = 2
    · refine ⟨.bad b 5, Ev.succ (max K1 K2) (fun k hkk => ?_), hR2 _ (Ev.succ 0 (fun k _ => ?_)), by omega, hb, by decide⟩
      · simp only [rdt.f]
        rw [if_pos ⟨h0, h1⟩, hsc k (by omega), Option.bind_some, hwd, hk k (by omega), Option.bind_some, if_neg hn, if_neg c2, if_neg c3, if_pos (by omega), if_pos c4, if_pos c5]
      · simp only [aumbryref04_Read.j2]
        rw [if_neg (by simp [c4]), if_pos c5]
        rfl
    · obtain ⟨r, hr1, hr2, hg⟩ := ih (s.size - b.toNat) (by omega) b (out ++ [(⟨wd, 0⟩ : S33)]) out.length 1 (by omega) hlt (by omega) (by simp) (by simp; omega) (by omega) (by omega)
      obtain ⟨K5, hr1⟩ := hr1
      dsimp only at hr1
      refine ⟨r, Ev.succ (max (max K1 K2) K5) (fun k hkk => ?_), hR2 _ (Ev.step (f := fun k => aumbryref04_Read.l1 k s (out ++ [(⟨wd, 0⟩ : S33)]) b (out.length : Int) 1) (fun k => ?_) hr2), ?_⟩
      · simp only [rdt.f]
        rw [if_pos ⟨h0, h1⟩, hsc k (by omega), Option.bind_some, hwd, hk k (by omega), Option.bind_some, if_neg hn, if_neg c2, if_neg c3, if_pos (by omega), if_pos c4, if_neg c5]
        exact hr1 k (by omega)
      · simp only [aumbryref04_Read.j2]
        rw [if_neg (by simp [c4]), if_neg c5]
      · cases r with
        | ok x y => simp only [goodR, List.length_append, List.length_singleton] at hg ⊢; omega
        | bad x y => exact hg
  · refine ⟨.ok b (out ++ [(⟨wd, 0⟩ : S33)]), Ev.succ (max K1 K2) (fun k hkk => ?_), hR2 _ (Ev.succ 0 (fun k _ => ?_)), by omega, hb, by simp, by simp; omega⟩
    · simp only [rdt.f]
      rw [if_pos ⟨h0, h1⟩, hsc k (by omega), Option.bind_some, hwd, hk k (by omega), Option.bind_some, if_neg hn, if_neg c2, if_neg c3, if_pos (by omega), if_neg c4]
    · simp only [aumbryref04_Read.j2]
      rw [if_pos (by simp [c4])]
      rfl

theorem l_step (s : ByteArray) (hs : s.size ≤ 1024) (d : Nat) (ihf : ∀ e, e < d → FP s e) (ihl : ∀ e, e < d → LP s e) : LP s d := by
  intro a out cell n h0 h1 hd hc hlen hn1 hn4
  have hw : wrap64 (a + 1) = a + 1 := by unfold wrap64; omega
  obtain ⟨x, hx1, hx2, hg⟩ := ihf (s.size - (a + 1).toNat) (by omega) (a + 1) out (by omega) (by omega) (by omega) hlen
  obtain ⟨K1, hx1⟩ := hx1
  dsimp only at hx1
  obtain ⟨K2, hx2⟩ := hx2
  dsimp only at hx2
  cases x with
  | bad x y =>
    obtain ⟨g1, g2, g3⟩ := hg
    refine ⟨.bad x y, Ev.succ K1 (fun k hkk => ?_), Ev.succ K2 (fun k hkk => ?_), g1, g2, g3⟩
    · simp only [rdt.l]
      rw [hw, hx1 k hkk]
      rfl
    · simp only [aumbryref04_Read.l1]
      rw [hw, hx2 k hkk]
      simp only [trR, Option.bind_some]
      rw [if_neg g3]
  | ok a1 out1 =>
    obtain ⟨g1, g2, g3, g4⟩ := hg
    have hcell : cell < out1.length := by omega
    obtain ⟨o2, ho2⟩ : ∃ o2, out1.set cell ⟨(rd_T33 out1 cell).f0, n⟩ = o2 := ⟨_, rfl⟩
    have ho2l : o2.length = out1.length := by rw [← ho2]; simp
    have hR : ∀ r, Ev (fun k => aumbryref04_Read.j4 k s o2 a1 (cell : Int) n (nxt s a1 == 41)) r → Ev (fun k => aumbryref04_Read.l1 k s out a (cell : Int) n) r := by
      intro r h
      obtain ⟨K3, h⟩ := h
      dsimp only at h
      refine Ev.succ (max K2 K3) (fun k hkk => ?_)
      simp only [aumbryref04_Read.l1]
      rw [hw, hx2 k (by omega)]
      simp only [trR, Option.bind_some]
      rw [if_pos trivial, if_pos (by omega), if_pos (by omega), show ((cell : Int)).toNat = cell from Int.toNat_natCast cell, ho2]
      by_cases hlt : a1 < (s.size : Int)
      · rw [if_pos hlt, if_pos (by omega)]
        have := h k (by omega)
        rwa [nxt, if_pos hlt] at this
      · rw [if_neg hlt]
        have := h k (by omega)
        rwa [nxt, if_neg hlt] at this
    by_cases c1 : nxt s a1 = 41
    · have hlt : a1 < (s.size : Int) := by
        rcases Int.lt_or_le a1 s.size with h' | h'
        · exact h'
        · rw [nxt, if_neg (by omega)] at c1
          exact absurd c1 (by decide)
      have hw1 : wrap64 (a1 + 1) = a1 + 1 := by unfold wrap64; omega
      refine ⟨.ok (a1 + 1) o2, Ev.succ K1 (fun k hkk => ?_), hR _ (Ev.succ 0 (fun k _ => ?_)), by omega, by omega, by omega, by omega⟩
      · simp only [rdt.l]
        rw [hw, hx1 k hkk]
        simp only [Option.bind_some]
        rw [if_pos (by omega), if_pos hcell, if_pos c1, hw1, ho2]
      · simp only [aumbryref04_Read.j4]
        rw [if_pos (by simp [c1]), hw1]
        rfl
    · have hR5 : ∀ r, Ev (fun k => aumbryref04_Read.j5 k s o2 a1 (cell : Int) n (nxt s a1 != 44)) r → Ev (fun k => aumbryref04_Read.l1 k s out a (cell : Int) n) r := by
        intro r h
        refine hR r ?_
        obtain ⟨K3, h⟩ := h
        dsimp only at h
        refine Ev.succ K3 (fun k hkk => ?_)
        simp only [aumbryref04_Read.j4]
        rw [if_neg (by simp [c1])]
        by_cases hlt : a1 < (s.size : Int)
        · rw [if_neg (by omega), if_pos (by omega), if_pos hlt]
          have := h k hkk
          rwa [nxt, if_pos hlt] at this
        · rw [if_pos (by omega)]
          have := h k hkk
          rwa [nxt, if_neg hlt] at this
      by_cases c2 : nxt s a1 = 44
      · have hlt : a1 < (s.size : Int) := by
          rcases Int.lt_or_le a1 s.size with h' | h'
          · exact h'
          · rw [nxt, if_neg (by omega)] at c2
            exact absurd c2 (by decide)
        by_cases c3 : n = 4
        · refine ⟨.bad a1 5, Ev.succ K1 (fun k hkk => ?_), hR5 _ (Ev.succ 0 (fun k _ => ?_)), by omega, by omega, by decide⟩
          · simp only [rdt.l]
            rw [hw, hx1 k hkk]
            simp only [Option.bind_some]
            rw [if_pos (by omega), if_pos hcell, if_neg c1, if_pos c2, if_pos c3]
          · simp only [aumbryref04_Read.j5]
            rw [if_neg (by simp [c2]), if_pos c3]
            rfl
        · have hwn : wrap64 (n + 1) = n + 1 := by unfold wrap64; omega
          obtain ⟨r, hr1, hr2, hg⟩ := ihl (s.size - a1.toNat) (by omega) a1 o2 cell (n + 1) (by omega) hlt (by omega) (by omega) (by omega) (by omega) (by omega)
          obtain ⟨K5, hr1⟩ := hr1
          dsimp only at hr1
          refine ⟨r, Ev.succ (max K1 K5) (fun k hkk => ?_), hR5 _ (Ev.step (f := fun k => aumbryref04_Read.l1 k s o2 a1 (cell : Int) (n + 1)) (fun k => ?_) hr2), ?_⟩
          · simp only [rdt.l]
            rw [hw, hx1 k (by omega)]
            simp only [Option.bind_some]
            rw [if_pos (by omega), if_pos hcell, if_neg c1, if_pos c2, if_neg c3, hwn, ho2]
            exact hr1 k (by omega)
          · simp only [aumbryref04_Read.j5]
            rw [if_neg (by simp [c2]), if_neg c3, hwn]
          · cases r with
            | ok x y => simp only [goodR] at hg ⊢; omega
            | bad x y => exact hg
      · refine ⟨.bad a1 3, Ev.succ K1 (fun k hkk => ?_), hR5 _ (Ev.succ 0 (fun k _ => ?_)), by omega, by omega, by decide⟩
        · simp only [rdt.l]
          rw [hw, hx1 k hkk]
          simp only [Option.bind_some]
          rw [if_pos (by omega), if_pos hcell, if_neg c1, if_neg c2]
        · simp only [aumbryref04_Read.j5]
          rw [if_pos (by simp [c2])]
          rfl

theorem reads_all (s : ByteArray) (hs : s.size ≤ 1024) : ∀ d, FP s d ∧ LP s d := by
  intro d
  induction d using Nat.strongRecOn with
  | _ d ih => exact ⟨f_step s hs d (fun e he => (ih e he).2), l_step s hs d (fun e he => (ih e he).1) (fun e he => (ih e he).2)⟩



end Go.Proofs.YtnkpcnnbeaomnaaDoor.C
end

section
/- Pieces of a text, byte by byte. Plain words, no machine. -/
namespace Go.Proofs.YtnkpcnnbeaomnaaDoor.C
open Go.RowKit Go.Proofs.YtnkpcnnbeaomnaaDoorW.PrintWords Go.Proofs.YtnkpcnnbeaomnaaDoorW.PrintLast Go.Proofs.YtnkpcnnbeaomnaaDoorW.PrintMore
set_option linter.unusedVariables false
set_option linter.unusedSimpArgs false

def seg (s : ByteArray) (a b : Nat) : List UInt8 := (s.data.toList.take b).drop a
theorem seg_app (s : ByteArray) (a b c : Nat) (hab : a ≤ b) (hbc : b ≤ c) (hc : c ≤ s.size) : seg s a c = seg s a b ++ seg s b c := by
  have hl := data_length s
  have h1 : s.data.toList.take c = s.data.toList.take b ++ (s.data.toList.take c).drop b := by
    have := (List.take_append_drop b (s.data.toList.take c)).symm
    rwa [List.take_take, Nat.min_eq_left hbc] at this
  have h2 : (s.data.toList.take b).length = b := by rw [List.length_take]; omega
  unfold seg
  conv => lhs; rw [h1]
  rw [List.drop_append, h2, show a - b = 0 by omega, List.drop_zero]
theorem seg_one (s : ByteArray) (a : Nat) (ha : a < s.size) : ∃ c : UInt8, seg s a (a + 1) = [c] ∧ bt s a = (c.toNat : Int) := by
  have hl := data_length s
  refine ⟨s.data.toList[a]'(by omega), ?_, bt_get s a ha⟩
  unfold seg
  rw [List.take_add_one, List.drop_append, List.drop_eq_nil_of_le (by rw [List.length_take]; omega), List.getElem?_eq_getElem (by omega), List.length_take, Nat.min_eq_left (by omega), Nat.sub_self]
  rfl
theorem seg_byte (s : ByteArray) (a : Nat) (ha : a < s.size) (c : UInt8) (h : bt s a = (c.toNat : Int)) : seg s a (a + 1) = [c] := by
  obtain ⟨d, h1, h2⟩ := seg_one s a ha
  rw [h1]
  have : d.toNat = c.toNat := by omega
  rw [UInt8.toNat_inj.1 this]
theorem seg_extract (s : ByteArray) (a b : Nat) : (s.extract a b).data.toList = seg s a b := by
  unfold seg
  rw [ByteArray.data_extract, Array.toList_extract, List.extract_eq_take_drop, List.drop_take]




theorem rd_app {a b : List S33} {i : Nat} (h : i < a.length) : rd_T33 (a ++ b) (i : Int) = rd_T33 a (i : Int) := by
  simp [rd_T33, List.getD_eq_getElem?_getD, List.getElem?_append_left h]
theorem rd_set {a : List S33} {i : Nat} {x : S33} (h : i < a.length) : rd_T33 (a.set i x) (i : Int) = x := by
  simp [rd_T33, List.getD_eq_getElem?_getD, h]

theorem wrap_nat (n : Nat) (h : n ≤ 1000000) : wrap64 ((n : Int) + 1) = ((n + 1 : Nat) : Int) := by unfold wrap64; omega
theorem wrap_int (a : Int) (h0 : 0 ≤ a) (h : a ≤ 1000000) : wrap64 (a + 1) = a + 1 := by unfold wrap64; omega
theorem set_twice (a b : List S33) (c : Nat) (x y : S33) (h : c < a.length) : (a.set c x ++ b).set c y = (a ++ b).set c y := by
  rw [List.set_append_left _ _ (by rw [List.length_set]; exact h), List.set_set, ← List.set_append_left _ _ h]

end Go.Proofs.YtnkpcnnbeaomnaaDoor.C
end

section
/- A written tree is read as it was. Plain words, no machine. -/
namespace Go.Proofs.YtnkpcnnbeaomnaaDoor.C
open Go.RowKit Go.Proofs.YtnkpcnnbeaomnaaDoorW.PrintWords Go.Proofs.YtnkpcnnbeaomnaaDoorW.PrintLast Go.Proofs.YtnkpcnnbeaomnaaDoorW.PrintMore
set_option linter.unusedVariables false
set_option linter.unusedSimpArgs false







end Go.Proofs.YtnkpcnnbeaomnaaDoor.C
end

section
/- What is read is a fine tree's text. Plain words, no machine. -/
namespace Go.Proofs.YtnkpcnnbeaomnaaDoor.C
open Go.RowKit Go.Proofs.YtnkpcnnbeaomnaaDoorW.PrintWords Go.Proofs.YtnkpcnnbeaomnaaDoorW.PrintLast Go.Proofs.YtnkpcnnbeaomnaaDoorW.PrintMore
set_option linter.unusedVariables false
set_option linter.unusedSimpArgs false

/-! ### what is read is a fine tree's text -/
theorem kind_is {k : Nat} {s : ByteArray} {kd : Int} (h : name_Kind.f k s = some kd) : kd = kindOf s :=
  Ev.det (Ev.of (g := fun k => name_Kind.f k s) (fun k => name_Kind.mono s k) h) (kind_ev s)
theorem nxt_in {s : ByteArray} {a : Int} {c : Int} (h0 : 0 ≤ a) (h : nxt s a = c) (hc : c ≠ 0) : a.toNat < s.size ∧ bt s ((a.toNat : Nat) : Int) = c := by
  unfold nxt at h
  split at h
  · rename_i hlt
    exact ⟨by omega, by rw [Int.toNat_of_nonneg h0]; exact h⟩
  · exact absurd h.symm hc
def BackF (k : Nat) : Prop := ∀ (s : ByteArray) (a : Int) (out : List S33) (a' : Int) (o' : List S33), s.size ≤ 1024 → out.length ≤ 64 → rdt.f k s a out = some (.ok a' o') →
  ∃ T, fine T ∧ o' = out ++ flat T ∧ 0 ≤ a ∧ a ≤ a' ∧ a' ≤ (s.size : Int) ∧ o'.length ≤ 64 ∧ seg s a.toNat a'.toNat = txt T
def BackL (k : Nat) : Prop := ∀ (s : ByteArray) (a : Int) (out : List S33) (cell n : Nat) (a' : Int) (o' : List S33) (b : Bool), s.size ≤ 1024 → 0 ≤ a → a < (s.size : Int) → cell < out.length → out.length ≤ 64 → 1 ≤ n → n ≤ 4 → bt s ((a.toNat : Nat) : Int) = (if b then 40 else 44) →
  rdt.l k s a out cell (n : Int) = some (.ok a' o') →
  ∃ ks, ks ≠ [] ∧ fineL ks ∧ o' = (out ++ flatL ks).set cell ⟨(rd_T33 out (cell : Int)).f0, ((n - 1 + ks.length : Nat) : Int)⟩ ∧ n - 1 + ks.length ≤ 4 ∧ a ≤ a' ∧ a' ≤ (s.size : Int) ∧ o'.length ≤ 64 ∧ seg s a.toNat a'.toNat = txtK b ks ++ [41]
theorem back_f (k : Nat) (ih : BackL k) : BackF (k + 1) := by
  intro s a out a' o' hs ho h
  simp only [rdt.f] at h
  split at h
  case isFalse => cases h
  case isTrue h01 =>
  obtain ⟨h0, h1⟩ := h01
  obtain ⟨b, hsc, h⟩ := Option.bind_eq_some_iff.1 h
  obtain ⟨kd, hkd, h⟩ := Option.bind_eq_some_iff.1 h
  obtain ⟨hab, hb⟩ := scan_le _ s a b (by omega) h0 h1 hsc
  obtain rfl := kind_is hkd
  obtain ⟨wd, hwd⟩ : ∃ wd, s.extract a.toNat b.toNat = wd := ⟨_, rfl⟩
  have hseg : seg s a.toNat b.toNat = wd.data.toList := by rw [← hwd, seg_extract]
  rw [hwd] at h
  split at h
  case isTrue => cases h
  case isFalse hn =>
  split at h
  case isTrue => cases h
  case isFalse hk =>
  split at h
  case isTrue => cases h
  case isFalse h64 =>
  split at h
  case isFalse => cases h
  case isTrue =>
  split at h
  case isTrue h40 =>
    split at h
    case isTrue => cases h
    case isFalse hk2 =>
    obtain ⟨hlt, hbt⟩ := nxt_in (by omega) h40 (by decide)
    have HBT := Aside0.mk hbt
    clear h40 hbt
    obtain ⟨ks, k1, k2, k3, k4, k5, k6, k7, k8⟩ := ih s b (out ++ [(⟨wd, 0⟩ : S33)]) out.length 1 a' o' true hs (by omega) (by omega) (by simp) (by simp; omega) (by omega) (by omega) HBT.out h
    have hkl : ks.length ≠ 0 := fun h => k1 (List.eq_nil_of_length_eq_zero h)
    refine ⟨.node wd ks, ⟨hk, by omega, fun h => absurd h hk2, k2⟩, ?_, h0, by omega, k6, k7, ?_⟩
    · rw [k3, show rd_T33 (out ++ [(⟨wd, 0⟩ : S33)]) (out.length : Int) = ⟨wd, 0⟩ from rd_mid out [] _]
      simp [flat]
    · rw [seg_app s a.toNat b.toNat a'.toNat (by omega) (by omega) (by omega), hseg, k8]
      simp [txt, hkl]
  case isFalse h40 =>
    obtain ⟨rfl, rfl⟩ : b = a' ∧ out ++ [(⟨wd, 0⟩ : S33)] = o' := by simpa using h
    refine ⟨.node wd [], ⟨hk, by simp, fun _ => rfl, trivial⟩, by simp [flat, flatL], h0, hab, hb, by simp; omega, ?_⟩
    rw [hseg]
    simp [txt, txtK]
theorem back_l (k : Nat) (ihf : BackF k) (ihl : BackL k) : BackL (k + 1) := by
  intro s a out cell n a' o' b hs h0 h1 hc ho hn1 hn4 hb h
  simp only [rdt.l] at h
  rw [wrap_int a h0 (by omega)] at h
  obtain ⟨x, hx, h⟩ := Option.bind_eq_some_iff.1 h
  have hsb : seg s a.toNat (a.toNat + 1) = [if b then 40 else 44] := by
    refine seg_byte s a.toNat (by omega) _ ?_
    rw [hb]
    cases b <;> rfl
  clear hb
  cases x with
  | bad x y => cases h
  | ok a1 out1 =>
    obtain ⟨T, t1, t2, t3, t4, t5, t6, t7⟩ := ihf s (a + 1) out a1 out1 hs ho hx
    dsimp only at h
    have hrd : rd_T33 out1 (cell : Int) = rd_T33 out (cell : Int) := by rw [t2]; exact rd_app hc
    have hlt1 : cell < out1.length := by rw [t2, List.length_append]; omega
    rw [if_pos (by omega), if_pos hlt1, hrd] at h
    have hto : (a + 1).toNat = a.toNat + 1 := by omega
    rw [hto] at t7
    split at h
    case isTrue h41 =>
      obtain ⟨hlt, hbt⟩ := nxt_in (by omega) h41 (by decide)
      have hs1 : seg s a1.toNat (a1.toNat + 1) = [41] := seg_byte s a1.toNat hlt 41 (by rw [hbt]; rfl)
      clear hbt h41
      rw [wrap_int a1 (by omega) (by omega)] at h
      obtain ⟨rfl, rfl⟩ : a1 + 1 = a' ∧ out1.set cell ⟨(rd_T33 out (cell : Int)).f0, (n : Int)⟩ = o' := by simpa using h
      refine ⟨[T], by simp, ⟨t1, trivial⟩, ?_, by simp; omega, by omega, by omega, by simpa using t6, ?_⟩
      · rw [t2, show ((n - 1 + [T].length : Nat) : Int) = (n : Int) from by simp; omega]
        simp [flatL]
      · rw [show (a1 + 1).toNat = a1.toNat + 1 by omega, seg_app s a.toNat (a.toNat + 1) (a1.toNat + 1) (by omega) (by omega) (by omega), seg_app s (a.toNat + 1) a1.toNat (a1.toNat + 1) (by omega) (by omega) (by omega), hsb, t7, hs1]
        simp [txtK]
    case isFalse h41 =>
    split at h
    case isFalse => cases h
    case isTrue h44 =>
    split at h
    case isTrue => cases h
    case isFalse hn =>
    clear h41
    obtain ⟨hlt, hbt⟩ := nxt_in (by omega) h44 (by decide)
    have HBT := Aside0.mk hbt
    clear h44 hbt
    rw [wrap_nat n (by omega)] at h
    obtain ⟨ks, k1, k2, k3, k4, k5, k6, k7, k8⟩ := ihl s a1 (out1.set cell ⟨(rd_T33 out (cell : Int)).f0, (n : Int)⟩) cell (n + 1) a' o' false hs (by omega) (by omega) (by simpa using hlt1) (by simpa using t6) (by omega) (by omega) HBT.out h
    refine ⟨T :: ks, by simp, ⟨t1, k2⟩, ?_, by simp; omega, by omega, k6, k7, ?_⟩
    · rw [k3, rd_set hlt1, show n + 1 - 1 + ks.length = n - 1 + (T :: ks).length by simp; omega]
      rw [set_twice _ _ _ _ _ hlt1, t2, List.append_assoc]
      rfl
    · rw [seg_app s a.toNat (a.toNat + 1) a'.toNat (by omega) (by omega) (by omega), seg_app s (a.toNat + 1) a1.toNat a'.toNat (by omega) (by omega) (by omega), hsb, t7, k8]
      simp [txtK]
theorem back_0 : BackL 0 := by
  intro s a out cell n a' o' b _ _ _ _ _ _ _ _ h
  simp only [rdt.l] at h
  cases h
theorem back_all : ∀ k, BackF k ∧ BackL k
  | 0 => ⟨fun s a out a' o' _ _ h => by simp [rdt.f] at h, back_0⟩
  | k + 1 => ⟨back_f k (back_all k).2, back_l k (back_all k).1 (back_all k).2⟩


end Go.Proofs.YtnkpcnnbeaomnaaDoor.C
end

section
/- A written tree is read as it was; what is read is some fine tree, and the text read is what it is written as. Plain words, no machine. -/
namespace Go.Proofs.YtnkpcnnbeaomnaaDoor.C
open Go.RowKit Go.Proofs.YtnkpcnnbeaomnaaDoorW.PrintWords Go.Proofs.YtnkpcnnbeaomnaaDoorW.PrintLast Go.Proofs.YtnkpcnnbeaomnaaDoorW.PrintMore
set_option linter.unusedVariables false
set_option linter.unusedSimpArgs false

theorem parse_back (s : ByteArray) : ∃ (t : List S33) (a e : Int), Ev (fun k => term_Parse.f k s) (t, a, e) ∧ (e = 0 → ∃ T, t = flat T ∧ fine T ∧ (flat T).length ≤ 64 ∧ s = bytes (txt T)) ∧ (e ≠ 0 → t = [] ∧ 0 ≤ a ∧ a ≤ (s.size : Int)) := by
  by_cases hs : (s.size : Int) > 1024
  · refine ⟨[], 0, 2, Ev.congr (f := fun _ => some ([], 0, 2)) (fun k => ?_) (Ev.now _), fun h => absurd h (by decide), fun _ => ⟨rfl, by omega, by omega⟩⟩
    unfold term_Parse.f
    rw [if_pos hs]
  · obtain ⟨r, h1, _, hg⟩ := (reads_all s (by omega) s.size).1 0 [] (by omega) (by omega) (by omega) (by simp)
    obtain ⟨K1, h1⟩ := h1
    dsimp only at h1
    cases r with
    | bad x y =>
      obtain ⟨g1, g2, g3⟩ := hg
      refine ⟨[], x, y, ⟨K1, fun k hk => ?_⟩, fun h => absurd h g3, fun _ => ⟨rfl, g1, g2⟩⟩
      dsimp only
      unfold term_Parse.f
      rw [if_neg hs, h1 k hk]
      rfl
    | ok x out =>
      obtain ⟨g1, g2, g3, g4⟩ := hg
      obtain ⟨T, t1, t2, t3, t4, t5, t6, t7⟩ := (back_all K1).1 s 0 [] x out (by omega) (by simp) (h1 K1 (Nat.le_refl _))
      by_cases hx : x < (s.size : Int)
      · refine ⟨[], x, 3, ⟨K1, fun k hk => ?_⟩, fun h => absurd h (by decide), fun _ => ⟨rfl, by omega, by omega⟩⟩
        dsimp only
        unfold term_Parse.f
        rw [if_neg hs, h1 k hk]
        simp only [Option.bind_some]
        rw [if_pos hx]
      · refine ⟨out, 0, 0, ⟨K1, fun k hk => ?_⟩, fun _ => ⟨T, by simpa using t2, t1, by simpa [t2] using t6, ?_⟩, fun h => absurd rfl h⟩
        · dsimp only
          unfold term_Parse.f
          rw [if_neg hs, h1 k hk]
          simp only [Option.bind_some]
          rw [if_neg hx]
          unfold clone_Term.f
          rw [if_pos (by omega)]
          rfl
        · have hxx : x = (s.size : Int) := by omega
          subst hxx
          have hl := data_length s
          unfold seg at t7
          rw [Int.toNat_natCast, List.take_of_length_le (by omega), show (0 : Int).toNat = 0 from rfl, List.drop_zero] at t7
          rw [← t7, bytes_data]

end Go.Proofs.YtnkpcnnbeaomnaaDoor.C
end

section
-- Written by a program of this session (a scratch print over hand-made contracts), out of the translation. Not trusted: Lean checks it.
namespace Go.Proofs.YtnkpcnnbeaomnaaDoor.C
open Go.RowKit Go.Proofs.YtnkpcnnbeaomnaaDoorW.PrintWords Go.Proofs.YtnkpcnnbeaomnaaDoorW.PrintLast Go.Proofs.YtnkpcnnbeaomnaaDoorW.PrintMore
attribute [local go_sem] max2_int min2_int max_two min_two max_three min_three max_four min_four   -- for this text's walks alone
set_option linter.unusedVariables false
set_option linter.unusedSimpArgs false

/-! ### aumbryref06_Copy: function 10 -/

end Go.Proofs.YtnkpcnnbeaomnaaDoor.C
end
