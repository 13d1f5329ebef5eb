import Derived.Test.YtnkpcnnbeaomnaaMO16
import Derived.Test.YtnkpcnnbeaomnaaMO7

section
/- Whether a list of cells is a term: the program's Check and the reference's come to the same plain answer, chk, at every list. -/
namespace Go.Proofs.Ytnkpcnnbeaomnaa.C
open Go.RowKit Go.Proofs.YtnkpcnnbeaomnaaW.PrintWords Go.Proofs.YtnkpcnnbeaomnaaW.PrintLast Go.Proofs.YtnkpcnnbeaomnaaW.PrintMore
set_option linter.unusedVariables false
set_option linter.unusedSimpArgs false

theorem Ev.nxt {α : Type} {g : Nat → Option α} {r : α} (K : Nat) (h : ∀ k, K ≤ k → g (k + 1) = some r) : Ev g r :=
  ⟨K + 1, fun k hk => by obtain ⟨m, rfl⟩ : ∃ m, k = m + 1 := ⟨k - 1, by omega⟩; exact h m (by omega)⟩

def cellErr (c : S28) : Int := if kindOf c.f0 = 0 then 4 else if c.f1 < 0 then 5 else if c.f1 > 4 then 5 else if kindOf c.f0 = 2 ∧ c.f1 > 0 then 5 else 0
def firstErr : List S28 → Int
  | [] => 0
  | c :: r => if cellErr c = 0 then firstErr r else cellErr c
/-- What stands behind n terms at a list's head. -/
def skip : Nat → List S28 → Option (List S28)
  | 0, l => some l
  | _ + 1, [] => none
  | n + 1, c :: r => skip (n + c.f1.toNat) r
def endOf (t : List S28) (n : Nat) (l : List S28) : Int := match skip n l with
  | some r => (t.length : Int) - r.length
  | none => -1
def chk (t : List S28) : Int := if t.length > 64 then 6 else if firstErr t = 0 then (match skip 1 t with | some [] => 0 | _ => 3) else firstErr t

theorem cell_ev (c : S28) : Ev (fun k => term_cell.f k c.f0 c.f1) (cellErr c) := by
  obtain ⟨K, h⟩ := kind_ev c.f0
  refine ⟨K, fun k hk => ?_⟩
  have h1 := h k hk
  dsimp only at h1 ⊢
  unfold term_cell.f cellErr
  rw [h1, Option.bind_some]
  by_cases c1 : kindOf c.f0 = 0
  · rw [if_pos c1, if_pos c1]
  · rw [if_neg c1, if_neg c1]
    by_cases c2 : c.f1 < 0
    · rw [if_pos c2, if_pos c2]
    · rw [if_neg c2, if_neg c2]
      by_cases c3 : c.f1 > 4
      · rw [if_pos c3, if_pos c3]
      · rw [if_neg c3, if_neg c3]
        by_cases c4 : kindOf c.f0 = 2
        · by_cases c5 : c.f1 > 0
          · rw [if_pos c4, if_pos c5, if_pos ⟨c4, c5⟩]
          · rw [if_pos c4, if_neg c5, if_neg (fun h => c5 h.2)]
        · rw [if_neg c4, if_neg (fun h => c4 h.1)]

theorem drop_rd (t : List S28) (i : Nat) (h : i < t.length) : t.drop i = rd_T28 t i :: t.drop (i + 1) := by
  rw [List.drop_eq_getElem_cons h]
  simp [rd_T28, List.getD_eq_getElem?_getD, List.getElem?_eq_getElem h]
theorem drop_end (t : List S28) (i : Nat) (h : t.length ≤ i) : t.drop i = [] := List.drop_eq_nil_of_le h

/-- All cells' numbers of arguments are from 0 to 4. -/
def tame (t : List S28) : Prop := ∀ c ∈ t, 0 ≤ c.f1 ∧ c.f1 ≤ 4
theorem tame_rd {t : List S28} (h : tame t) (i : Nat) (hi : i < t.length) : 0 ≤ (rd_T28 t i).f1 ∧ (rd_T28 t i).f1 ≤ 4 := by
  have : rd_T28 t i = t[i] := by simp [rd_T28, List.getD_eq_getElem?_getD, List.getElem?_eq_getElem hi]
  rw [this]
  exact h _ (List.getElem_mem hi)
theorem tame_of_first : ∀ (t : List S28), firstErr t = 0 → tame t
  | [], _ => fun _ h => by cases h
  | c :: r, h => by
    simp only [firstErr] at h
    split at h
    · rename_i hc
      intro x hx
      rcases List.mem_cons.1 hx with rfl | hx
      · unfold cellErr at hc
        split at hc
        · exact absurd hc (by decide)
        · split at hc
          · exact absurd hc (by decide)
          · split at hc
            · exact absurd hc (by decide)
            · omega
      · exact tame_of_first r h x hx
    · rename_i hc; exact absurd h hc

theorem behind_l0 (t : List S28) (ht : tame t) (hl : t.length ≤ 1000000) : ∀ (d i n : Nat), i + d = t.length → n ≤ 4 * i + 1 → Ev (fun k => term_behind.l0 k t (i : Int) (n : Int)) (endOf t n (t.drop i))
  | d, i, 0, h, hn => by
    refine Ev.nxt 0 (fun k _ => ?_)
    simp only [term_behind.l0]
    rw [if_neg (by omega)]
    simp only [endOf, skip, List.length_drop]
    congr 1
    omega
  | 0, i, n + 1, h, hn => by
    refine Ev.nxt 0 (fun k _ => ?_)
    simp only [term_behind.l0]
    rw [if_pos (by omega), if_pos (by omega), drop_end t i (by omega)]
    rfl
  | d + 1, i, n + 1, h, hn => by
    obtain ⟨h0, h4⟩ := tame_rd ht i (by omega)
    have hw : wrap64 ((i : Int) + 1) = ((i + 1 : Nat) : Int) := by unfold wrap64; omega
    have hw2 : wrap64 (((n + 1 : Nat) : Int) + (wrap64 (((rd_T28 t i).f1) - 1))) = ((n + (rd_T28 t i).f1.toNat : Nat) : Int) := by unfold wrap64; omega
    have ih := behind_l0 t ht hl d (i + 1) (n + (rd_T28 t i).f1.toNat) (by omega) (by omega)
    refine Ev.step (f := fun k => term_behind.l0 k t ((i + 1 : Nat) : Int) ((n + (rd_T28 t i).f1.toNat : Nat) : Int)) (fun k => ?_) ?_
    · simp only [term_behind.l0]
      rw [if_pos (by omega), if_neg (by omega), if_pos (by omega), if_pos (by omega), hw, hw2]
    · rw [drop_rd t i (by omega)]
      exact ih

theorem behind_ev (t : List S28) (ht : tame t) (hl : t.length ≤ 1000000) (i : Nat) (hi : i ≤ t.length) : Ev (fun k => term_behind.f k t (i : Int)) (endOf t 1 (t.drop i)) :=
  behind_l0 t ht hl (t.length - i) i 1 (by omega) (by omega)

theorem check_l0 (t : List S28) (hl : t.length ≤ 64) : ∀ (d i : Nat), i + d = t.length → firstErr (t.take i) = 0 → Ev (fun k => term_Check.l0 k t t (t.length : Int) (i : Int)) (if firstErr (t.drop i) = 0 then (match skip 1 t with | some [] => 0 | _ => 3) else firstErr (t.drop i))
  | 0, i, h, hf => by
    have hi : i = t.length := by omega
    subst hi
    rw [List.take_length] at hf
    have ht := tame_of_first t hf
    refine Ev.step (f := fun k => (term_behind.f k t 0).bind fun t111 => (if t111 = (t.length : Int) then (some 0) else (some 3))) (fun k => ?_) ?_
    · simp only [term_Check.l0]
      rw [if_neg (by omega)]
    · refine Ev.bind (a := endOf t 1 t) (by simpa using behind_ev t ht (by omega) 0 (by omega)) ?_
      rw [List.drop_length]
      simp only [firstErr, if_true]
      unfold endOf
      cases hs : skip 1 t with
      | none => simpa [hs] using (show Ev (fun n : Nat => if (-1 : Int) = (t.length : Int) then some (0 : Int) else some 3) 3 from by rw [if_neg (by omega)]; exact Ev.now 3)
      | some r =>
        cases r with
        | nil => simpa using Ev.now (0 : Int)
        | cons c r =>
          have : ¬ ((t.length : Int) - ((c :: r).length : Nat) = (t.length : Int)) := by simp; omega
          simp only [this, if_false]
          exact Ev.now (3 : Int)
  | d + 1, i, h, hf => by
    have hw : wrap64 ((i : Int) + 1) = ((i + 1 : Nat) : Int) := by unfold wrap64; omega
    have hd := drop_rd t i (by omega)
    refine Ev.step (f := fun k => (term_cell.f k ((rd_T28 t i).f0) ((rd_T28 t i).f1)).bind fun t110 => (if t110 = 0 then (term_Check.l0 k t t (t.length : Int) ((i + 1 : Nat) : Int)) else (some t110))) (fun k => ?_) ?_
    · simp only [term_Check.l0]
      rw [if_pos (by omega), if_pos (by omega), if_pos (by omega), hw]
    · refine Ev.bind (cell_ev _) ?_
      rw [hd]
      simp only [firstErr]
      by_cases hc : cellErr (rd_T28 t i) = 0
      · simp only [hc, if_true]
        refine check_l0 t hl d (i + 1) (by omega) ?_
        rw [List.take_succ_eq_append_getElem (by omega)]
        have : rd_T28 t i = t[i] := by simp [rd_T28, List.getD_eq_getElem?_getD, List.getElem?_eq_getElem (show i < t.length by omega)]
        rw [← this]
        clear hd
        generalize rd_T28 t i = c at *
        generalize t.take i = l at *
        induction l with
        | nil => simp [firstErr, hc]
        | cons x l ih =>
          simp only [firstErr, List.cons_append] at hf ⊢
          split at hf
          · rename_i hx
            rw [if_pos hx]
            exact ih hf
          · rename_i hx; exact absurd hf hx
      · simp only [hc, if_false]
        exact Ev.now _

theorem check_ev (t : List S28) : Ev (fun k => term_Check.f k t) (chk t) := by
  by_cases h : t.length > 64
  · refine Ev.congr (f := fun _ => some 6) (fun k => ?_) ?_
    · unfold term_Check.f; rw [if_pos (by omega)]
    · unfold chk; rw [if_pos h]; exact Ev.now 6
  · refine Ev.congr (f := fun k => term_Check.l0 k t t (t.length : Int) ((0 : Nat) : Int)) (fun k => ?_) ?_
    · unfold term_Check.f; rw [if_neg (by omega)]; rfl
    · unfold chk
      rw [if_neg h]
      exact check_l0 t (by omega) t.length 0 (by omega) (by simp [firstErr])

/-! ### the reference's -/
theorem skip_add : ∀ (n m : Nat) (l : List S28), skip (n + m) l = (skip n l).bind (skip m)
  | 0, m, l => by simp [skip]
  | n + 1, m, [] => by rw [show n + 1 + m = (n + m) + 1 by omega]; simp [skip]
  | n + 1, m, c :: r => by
    rw [show n + 1 + m = (n + m) + 1 by omega]
    simp only [skip]
    rw [show n + m + c.f1.toNat = (n + c.f1.toNat) + m by omega]
    exact skip_add _ m r
termination_by _ _ l => l.length

theorem skip_len : ∀ (n : Nat) (l r : List S28), skip n l = some r → ∃ i, i ≤ l.length ∧ r = l.drop i ∧ (n ≠ 0 → 0 < i)
  | 0, l, r, h => by
    simp only [skip] at h
    obtain rfl := Option.some.inj h
    exact ⟨0, by omega, rfl, fun h => absurd rfl h⟩
  | n + 1, [], r, h => by simp [skip] at h
  | n + 1, c :: l, r, h => by
    simp only [skip] at h
    obtain ⟨i, h1, h2, _⟩ := skip_len _ l r h
    exact ⟨i + 1, by simp; omega, by simpa using h2, fun _ => by omega⟩
termination_by _ l => l.length

def BF (t : List S28) (d : Nat) : Prop := ∀ i : Nat, i ≤ t.length → t.length - i ≤ d → Ev (fun k => aumbryref04_Behind.f k t (i : Int)) (endOf t 1 (t.drop i))
theorem rbehind_l0 (t : List S28) (ht : tame t) (hl : t.length ≤ 1000000) (d : Nat) (ih : BF t d) : ∀ (m n i j : Nat), j + m = n → n ≤ 4 → i ≤ t.length → t.length - i ≤ d → Ev (fun k => aumbryref04_Behind.l0 k t (i : Int) (n : Int) (j : Int)) (endOf t m (t.drop i))
  | 0, n, i, j, h, hn, hi, hd => by
    refine Ev.nxt 0 (fun k _ => ?_)
    simp only [aumbryref04_Behind.l0]
    rw [if_neg (by omega)]
    simp only [endOf, skip, List.length_drop]
    congr 1
    omega
  | m + 1, n, i, j, h, hn, hi, hd => by
    have hw : wrap64 ((j : Int) + 1) = ((j + 1 : Nat) : Int) := by unfold wrap64; omega
    have h1 := ih i hi hd
    refine Ev.step (f := fun k => (aumbryref04_Behind.f k t (i : Int)).bind fun t319 => (aumbryref04_Behind.l0 k t t319 (n : Int) ((j + 1 : Nat) : Int))) (fun k => ?_) ?_
    · simp only [aumbryref04_Behind.l0]
      rw [if_pos (by omega), if_pos (by omega), hw]
    · refine Ev.bind h1 ?_
      have hs : skip (m + 1) (t.drop i) = (skip 1 (t.drop i)).bind (skip m) := by rw [Nat.add_comm]; exact skip_add 1 m _
      cases hq : skip 1 (t.drop i) with
      | none =>
        have e1 : endOf t 1 (t.drop i) = -1 := by unfold endOf; rw [hq]
        have e2 : endOf t (m + 1) (t.drop i) = -1 := by unfold endOf; rw [hs, hq]; rfl
        rw [e1, e2]
        refine Ev.nxt 0 (fun k _ => ?_)
        simp only [aumbryref04_Behind.l0]
        by_cases hjn : ((j + 1 : Nat) : Int) < (n : Int)
        · rw [if_pos hjn, if_neg (by omega)]
        · rw [if_neg hjn]
      | some r =>
        obtain ⟨q, hq1, hq2, hq3⟩ := skip_len 1 _ r hq
        have hq0 := hq3 (by decide)
        rw [List.length_drop] at hq1
        have hr : r = t.drop (i + q) := by rw [hq2, List.drop_drop]
        have e1 : endOf t 1 (t.drop i) = ((i + q : Nat) : Int) := by
          unfold endOf
          rw [hq]
          simp only [hr, List.length_drop]
          omega
        have e2 : endOf t (m + 1) (t.drop i) = endOf t m (t.drop (i + q)) := by
          unfold endOf
          rw [hs, hq, hr]
          rfl
        rw [e1, e2]
        exact rbehind_l0 t ht hl d ih m n (i + q) (j + 1) (by omega) hn (by omega) (by omega)

theorem rbehind_all (t : List S28) (ht : tame t) (hl : t.length ≤ 1000000) : ∀ d, BF t d := by
  intro d
  induction d with
  | zero =>
    intro i hi hd
    have hi' : i = t.length := by omega
    subst hi'
    refine Ev.nxt 1 (fun k hk => ?_)
    obtain ⟨k, rfl⟩ : ∃ m, k = m + 1 := ⟨k - 1, by omega⟩
    simp only [aumbryref04_Behind.f]
    rw [if_neg (by omega), show decide ((t.length : Int) ≥ (t.length : Int)) = true from decide_eq_true (by omega)]
    simp only [aumbryref04_Behind.j0, if_true, List.drop_length, endOf, skip]
  | succ d ih =>
    intro i hi hd
    by_cases hlt : i < t.length
    · obtain ⟨h0, h4⟩ := tame_rd ht i hlt
      have hw : wrap64 ((i : Int) + 1) = ((i + 1 : Nat) : Int) := by unfold wrap64; omega
      have hn : ((rd_T28 t i).f1.toNat : Int) = (rd_T28 t i).f1 := by omega
      refine Ev.step (f := fun k => aumbryref04_Behind.j0 k t (i : Int) false) (fun k => ?_) (Ev.step (f := fun k => aumbryref04_Behind.l0 k t ((i + 1 : Nat) : Int) ((rd_T28 t i).f1.toNat : Int) ((0 : Nat) : Int)) (fun k => ?_) ?_)
      · simp only [aumbryref04_Behind.f]
        rw [if_neg (by omega), show decide ((i : Int) ≥ (t.length : Int)) = false from decide_eq_false (by omega)]
      · simp only [aumbryref04_Behind.j0]
        rw [if_neg (by decide), if_pos (by omega), if_pos (by omega), hw, hn]
        rfl
      · rw [drop_rd t i hlt]
        have : endOf t 1 (rd_T28 t i :: t.drop (i + 1)) = endOf t (rd_T28 t i).f1.toNat (t.drop (i + 1)) := by
          unfold endOf
          simp only [skip, Nat.zero_add]
        rw [this]
        exact rbehind_l0 t ht hl d ih _ _ (i + 1) 0 (by omega) (by omega) (by omega) (by omega)
    · have hi' : i = t.length := by omega
      subst hi'
      refine Ev.nxt 1 (fun k hk => ?_)
      obtain ⟨k, rfl⟩ : ∃ m, k = m + 1 := ⟨k - 1, by omega⟩
      simp only [aumbryref04_Behind.f]
      rw [if_neg (by omega), show decide ((t.length : Int) ≥ (t.length : Int)) = true from decide_eq_true (by omega)]
      simp only [aumbryref04_Behind.j0, if_true, List.drop_length, endOf, skip]

theorem rbehind_ev (t : List S28) (ht : tame t) (hl : t.length ≤ 1000000) (i : Nat) (hi : i ≤ t.length) : Ev (fun k => aumbryref04_Behind.f k t (i : Int)) (endOf t 1 (t.drop i)) := rbehind_all t ht hl _ i hi (Nat.le_refl _)

theorem rcheck_l0 (t : List S28) (hl : t.length ≤ 64) : ∀ (d i : Nat), i + d = t.length → firstErr (t.take i) = 0 → Ev (fun k => aumbryref04_Check.l0 k t (t.length : Int) (i : Int)) (if firstErr (t.drop i) = 0 then (match skip 1 t with | some [] => 0 | _ => 3) else firstErr (t.drop i))
  | 0, i, h, hf => by
    have hi : i = t.length := by omega
    subst hi
    rw [List.take_length] at hf
    have ht := tame_of_first t hf
    refine Ev.step (f := fun k => (aumbryref04_Behind.f k t 0).bind fun t111 => (if t111 = (t.length : Int) then (some 0) else (some 3))) (fun k => ?_) ?_
    · simp only [aumbryref04_Check.l0]
      rw [if_neg (by omega)]
    · refine Ev.bind (a := endOf t 1 t) (by simpa using rbehind_ev t ht (by omega) 0 (by omega)) ?_
      rw [List.drop_length]
      simp only [firstErr, if_true]
      unfold endOf
      cases hs : skip 1 t with
      | none => simpa [hs] using (show Ev (fun n : Nat => if (-1 : Int) = (t.length : Int) then some (0 : Int) else some 3) 3 from by rw [if_neg (by omega)]; exact Ev.now 3)
      | some r =>
        cases r with
        | nil => simpa using Ev.now (0 : Int)
        | cons c r =>
          have : ¬ ((t.length : Int) - ((c :: r).length : Nat) = (t.length : Int)) := by simp; omega
          simp only [this, if_false]
          exact Ev.now (3 : Int)
  | d + 1, i, h, hf => by
    have hw : wrap64 ((i : Int) + 1) = ((i + 1 : Nat) : Int) := by unfold wrap64; omega
    have hd := drop_rd t i (by omega)
    obtain ⟨K, hk⟩ := rkind_ev (rd_T28 t i).f0
    dsimp only at hk
    rw [hd]
    by_cases hc : cellErr (rd_T28 t i) = 0
    · rw [show firstErr (rd_T28 t i :: t.drop (i + 1)) = firstErr (t.drop (i + 1)) from by simp only [firstErr]; rw [if_pos hc]]
      have ih := rcheck_l0 t hl d (i + 1) (by omega) (by
        rw [List.take_succ_eq_append_getElem (by omega)]
        have : rd_T28 t i = t[i] := by simp [rd_T28, List.getD_eq_getElem?_getD, List.getElem?_eq_getElem (show i < t.length by omega)]
        rw [← this]
        clear hd hk
        generalize rd_T28 t i = c at *
        generalize t.take i = l at *
        induction l with
        | nil => simp [firstErr, hc]
        | cons x l ih =>
          simp only [firstErr, List.cons_append] at hf ⊢
          split at hf
          · rename_i hx
            rw [if_pos hx]
            exact ih hf
          · rename_i hx; exact absurd hf hx)
      obtain ⟨K2, ih⟩ := ih
      dsimp only at ih
      refine Ev.nxt (max K K2) (fun k hkk => ?_)
      simp only [aumbryref04_Check.l0]
      rw [if_pos (by omega), if_pos (by omega), if_pos (by omega), hw, hk k (by omega), Option.bind_some]
      unfold cellErr at hc
      by_cases c1 : kindOf (rd_T28 t i).f0 = 0
      · rw [if_pos c1] at hc; exact absurd hc (by decide)
      · rw [if_neg c1] at hc ⊢
        by_cases c2 : (rd_T28 t i).f1 < 0
        · rw [if_pos c2] at hc; exact absurd hc (by decide)
        · rw [if_neg c2] at hc ⊢
          by_cases c3 : (rd_T28 t i).f1 > 4
          · rw [if_pos c3] at hc; exact absurd hc (by decide)
          · rw [if_neg c3] at hc ⊢
            by_cases c4 : kindOf (rd_T28 t i).f0 = 2
            · rw [if_pos c4]
              by_cases c5 : (rd_T28 t i).f1 = 0
              · rw [if_pos c5]; exact ih k (by omega)
              · rw [if_pos ⟨c4, by omega⟩] at hc; exact absurd hc (by decide)
            · rw [if_neg c4]; exact ih k (by omega)
    · rw [show firstErr (rd_T28 t i :: t.drop (i + 1)) = cellErr (rd_T28 t i) from by simp only [firstErr]; rw [if_neg hc]]
      rw [if_neg hc]
      refine Ev.nxt K (fun k hkk => ?_)
      simp only [aumbryref04_Check.l0]
      rw [if_pos (by omega), if_pos (by omega), if_pos (by omega), hw, hk k (by omega), Option.bind_some]
      unfold cellErr at hc ⊢
      by_cases c1 : kindOf (rd_T28 t i).f0 = 0
      · rw [if_pos c1, if_pos c1]
      · rw [if_neg c1] at hc ⊢
        rw [if_neg c1]
        by_cases c2 : (rd_T28 t i).f1 < 0
        · rw [if_pos c2, if_pos c2]
        · rw [if_neg c2] at hc ⊢
          rw [if_neg c2]
          by_cases c3 : (rd_T28 t i).f1 > 4
          · rw [if_pos c3, if_pos c3]
          · rw [if_neg c3] at hc ⊢
            rw [if_neg c3]
            by_cases c4 : kindOf (rd_T28 t i).f0 = 2
            · rw [if_pos c4]
              by_cases c5 : (rd_T28 t i).f1 = 0
              · rw [if_neg (by omega)] at hc; exact absurd rfl hc
              · rw [if_neg c5, if_pos ⟨c4, by omega⟩]
            · rw [if_neg (fun h => c4 h.1)] at hc; exact absurd rfl hc

theorem rcheck_ev (t : List S28) : Ev (fun k => aumbryref04_Check.f k t) (chk t) := by
  by_cases h : t.length > 64
  · refine Ev.congr (f := fun _ => some 6) (fun k => ?_) ?_
    · unfold aumbryref04_Check.f; rw [if_pos (by omega)]
    · unfold chk; rw [if_pos h]; exact Ev.now 6
  · refine Ev.congr (f := fun k => aumbryref04_Check.l0 k t (t.length : Int) ((0 : Nat) : Int)) (fun k => ?_) ?_
    · unfold aumbryref04_Check.f; rw [if_neg (by omega)]; rfl
    · unfold chk
      rw [if_neg h]
      exact rcheck_l0 t (by omega) t.length 0 (by omega) (by simp [firstErr])

end Go.Proofs.Ytnkpcnnbeaomnaa.C
end

section
/- Terms as trees: what a tree is as cells, as text, how deep it is; every list of cells that is a term is some tree's cells. Plain words, no machine. -/
namespace Go.Proofs.Ytnkpcnnbeaomnaa.C
open Go.RowKit Go.Proofs.YtnkpcnnbeaomnaaW.PrintWords Go.Proofs.YtnkpcnnbeaomnaaW.PrintLast Go.Proofs.YtnkpcnnbeaomnaaW.PrintMore
set_option linter.unusedVariables false
set_option linter.unusedSimpArgs false

inductive Tr where
  | node (nm : ByteArray) (ks : List Tr)
mutual
def flat : Tr → List S28
  | .node n ks => ⟨n, ks.length⟩ :: flatL ks
def flatL : List Tr → List S28
  | [] => []
  | t :: r => flat t ++ flatL r
end
mutual
def txt : Tr → List UInt8
  | .node n ks => n.data.toList ++ txtK true ks ++ (if ks.length = 0 then [] else [41])
def txtK : Bool → List Tr → List UInt8
  | _, [] => []
  | b, t :: r => (if b then 40 else 44) :: (txt t ++ txtK false r)
end
mutual
def dep : Tr → Nat
  | .node _ ks => depL ks + 1
def depL : List Tr → Nat
  | [] => 0
  | t :: r => max (dep t) (depL r)
end
mutual
/-- Each name is one, variables have no arguments, symbols at most four. -/
def fine : Tr → Prop
  | .node n ks => kindOf n ≠ 0 ∧ ks.length ≤ 4 ∧ (kindOf n = 2 → ks = []) ∧ fineL ks
def fineL : List Tr → Prop
  | [] => True
  | t :: r => fine t ∧ fineL r
end

theorem flat_pos (t : Tr) : 0 < (flat t).length := by cases t; simp [flat]
theorem flatL_len (ks : List Tr) : ks.length ≤ (flatL ks).length := by
  induction ks with
  | nil => simp
  | cons x r ih => have := flat_pos x; simp [flatL]; omega
theorem flatL_append (a b : List Tr) : flatL (a ++ b) = flatL a ++ flatL b := by
  induction a with
  | nil => simp [flatL]
  | cons x r ih => simp [flatL, ih]

mutual
theorem skip_flat : ∀ (t : Tr) (post : List S28), skip 1 (flat t ++ post) = some post
  | .node n ks, post => by
    simp only [flat, List.cons_append, skip, Nat.zero_add, Int.toNat_natCast]
    exact skip_flatL ks post
theorem skip_flatL : ∀ (ks : List Tr) (post : List S28), skip ks.length (flatL ks ++ post) = some post
  | [], post => by simp [flatL, skip]
  | t :: r, post => by
    rw [List.length_cons, Nat.add_comm, skip_add, flatL, List.append_assoc, skip_flat t]
    exact skip_flatL r post
end

theorem skip_forest : ∀ (l : List S28) (n : Nat) (r : List S28), tame l → skip n l = some r → ∃ F : List Tr, F.length = n ∧ l = flatL F ++ r
  | l, 0, r, _, h => by
    simp only [skip] at h
    exact ⟨[], rfl, by simpa [flatL] using Option.some.inj h⟩
  | [], n + 1, r, _, h => by simp [skip] at h
  | c :: l, n + 1, r, ht, h => by
    simp only [skip] at h
    obtain ⟨F, hF, hl⟩ := skip_forest l _ r (fun x hx => ht x (List.mem_cons_of_mem _ hx)) h
    have hc := ht c List.mem_cons_self
    refine ⟨.node c.f0 (F.take c.f1.toNat) :: F.drop c.f1.toNat, by simp [hF], ?_⟩
    have hlen : ((F.take c.f1.toNat).length : Int) = c.f1 := by rw [List.length_take, hF]; omega
    simp only [flatL, flat, List.cons_append, List.append_assoc, hlen]
    rw [← List.append_assoc, ← flatL_append, List.take_append_drop, hl]

theorem firstErr_append : ∀ (a b : List S28), firstErr (a ++ b) = if firstErr a = 0 then firstErr b else firstErr a
  | [], b => by simp [firstErr]
  | c :: a, b => by
    by_cases h : cellErr c = 0
    · have e : ∀ x, firstErr (c :: x) = firstErr x := fun x => by simp only [firstErr]; rw [if_pos h]
      rw [List.cons_append, e, e]
      exact firstErr_append a b
    · have e : ∀ x, firstErr (c :: x) = cellErr c := fun x => by simp only [firstErr]; rw [if_neg h]
      rw [List.cons_append, e, e, if_neg h]

theorem cellErr_ok {n : ByteArray} {a : Nat} (h : cellErr ⟨n, a⟩ = 0) : kindOf n ≠ 0 ∧ a ≤ 4 ∧ (kindOf n = 2 → a = 0) := by
  unfold cellErr at h
  dsimp only at h
  split at h
  · exact absurd h (by decide)
  · rename_i h0
    split at h
    · exact absurd h (by decide)
    · split at h
      · exact absurd h (by decide)
      · rename_i h1
        split at h
        · exact absurd h (by decide)
        · rename_i h2
          refine ⟨h0, by omega, fun hk => ?_⟩
          rcases Nat.eq_zero_or_pos a with ha | ha
          · exact ha
          · exact absurd ⟨hk, by omega⟩ h2
theorem cellErr_mk {n : ByteArray} {a : Nat} (h0 : kindOf n ≠ 0) (h1 : a ≤ 4) (h2 : kindOf n = 2 → a = 0) : cellErr ⟨n, a⟩ = 0 := by
  unfold cellErr
  dsimp only
  rw [if_neg h0, if_neg (by omega), if_neg (by omega), if_neg]
  rintro ⟨hk, ha⟩
  have := h2 hk
  omega

mutual
theorem fine_of : ∀ (T : Tr), firstErr (flat T) = 0 → fine T
  | .node n ks, h => by
    simp only [flat, firstErr] at h
    split at h
    · rename_i hc
      obtain ⟨h0, h1, h2⟩ := cellErr_ok hc
      exact ⟨h0, h1, fun hk => List.eq_nil_of_length_eq_zero (h2 hk), fine_ofL ks h⟩
    · rename_i hc; exact absurd h hc
theorem fine_ofL : ∀ (ks : List Tr), firstErr (flatL ks) = 0 → fineL ks
  | [], _ => trivial
  | t :: r, h => by
    simp only [flatL, firstErr_append] at h
    split at h
    · rename_i hc
      exact ⟨fine_of t hc, fine_ofL r h⟩
    · rename_i hc; exact absurd h hc
end
mutual
theorem fine_to : ∀ (T : Tr), fine T → firstErr (flat T) = 0
  | .node n ks, h => by
    obtain ⟨h0, h1, h2, h3⟩ := h
    simp only [flat, firstErr]
    rw [if_pos (cellErr_mk h0 h1 (fun hk => by rw [h2 hk]; rfl))]
    exact fine_toL ks h3
theorem fine_toL : ∀ (ks : List Tr), fineL ks → firstErr (flatL ks) = 0
  | [], _ => rfl
  | t :: r, h => by
    simp only [flatL, firstErr_append]
    rw [if_pos (fine_to t h.1)]
    exact fine_toL r h.2
end

theorem tree_of_chk (t : List S28) (h : chk t = 0) : ∃ T, t = flat T ∧ fine T ∧ t.length ≤ 64 := by
  unfold chk at h
  split at h
  · exact absurd h (by decide)
  · rename_i hl
    split at h
    · rename_i hf
      split at h
      · rename_i hs
        obtain ⟨F, hF, ht⟩ := skip_forest t 1 [] (tame_of_first t hf) hs
        match F, hF with
        | [T], _ =>
          have hT : t = flat T := by simpa [flatL] using ht
          exact ⟨T, hT, fine_of T (by rw [← hT]; exact hf), by omega⟩
      · exact absurd h (by decide)
    · rename_i hf; exact absurd h hf
theorem chk_of_tree (T : Tr) (hf : fine T) (hl : (flat T).length ≤ 64) : chk (flat T) = 0 := by
  unfold chk
  rw [if_neg (by omega), if_pos (fine_to T hf)]
  have := skip_flat T []
  rw [List.append_nil] at this
  rw [this]

/-! ### a name's letters -/
theorem bt_get (s : ByteArray) (i : Nat) (h : i < s.size) : bt s i = ((s.data.toList[i]'(by rw [data_length]; exact h)).toNat : Int) := by
  unfold bt
  simp only [Int.toNat_natCast]
  rw [dif_pos h]
  rfl
theorem allR_all {p : Nat → Bool} : ∀ d i, allR p d i = true → ∀ j, i ≤ j → j < i + d → p j = true
  | 0, i, _, j, h1, h2 => by omega
  | d + 1, i, h, j, h1, h2 => by
    simp only [allR, Bool.and_eq_true] at h
    by_cases hj : j = i
    · subst hj; exact h.1
    · exact allR_all d (i + 1) h.2 j (by omega) (by omega)
/-- A name has from one to eight signs, letters and digits all. -/
theorem name_signs (n : ByteArray) (h : kindOf n ≠ 0) : 1 ≤ n.size ∧ n.size ≤ 8 ∧ ∀ i, i < n.size → (97 ≤ bt n i ∧ bt n i ≤ 122 ∨ 65 ≤ bt n i ∧ bt n i ≤ 90 ∨ 48 ≤ bt n i ∧ bt n i ≤ 57) := by
  unfold kindOf at h
  split at h
  · exact absurd rfl h
  · refine ⟨by omega, by omega, fun i hi => ?_⟩
    split at h
    · rename_i h1
      have := allR_all _ _ h1 i (by omega) (by omega)
      simp [smB, lo, dg] at this
      omega
    · split at h
      · rename_i h1
        have := allR_all _ _ h1 i (by omega) (by omega)
        simp [grB, up, dg] at this
        omega
      · exact absurd rfl h

mutual
theorem txt_len : ∀ (T : Tr), fine T → (txt T).length + 1 ≤ 10 * (flat T).length
  | .node n ks, h => by
    obtain ⟨h0, h1, h2, h3⟩ := h
    obtain ⟨ha, hb, _⟩ := name_signs n h0
    have := txt_lenL ks true h3
    have hn : n.data.toList.length = n.size := data_length n
    simp only [txt, flat, List.length_append, List.length_cons, hn]
    split
    · simp; omega
    · simp; omega
theorem txt_lenL : ∀ (ks : List Tr) (b : Bool), fineL ks → (txtK b ks).length ≤ 10 * (flatL ks).length
  | [], b, _ => by simp [txtK]
  | t :: r, b, h => by
    have h1 := txt_len t h.1
    have h2 := txt_lenL r false h.2
    simp only [txtK, flatL, List.length_append, List.length_cons]
    omega
end

/-! ### where a cell lies -/
theorem rd_mid (pre post : List S28) (c : S28) : rd_T28 (pre ++ c :: post) (pre.length : Int) = c := by
  simp [rd_T28, List.getD_eq_getElem?_getD]
theorem endOf_flat (T : Tr) (pre post : List S28) : endOf (pre ++ flat T ++ post) 1 ((pre ++ flat T ++ post).drop pre.length) = ((pre.length + (flat T).length : Nat) : Int) := by
  have : (pre ++ flat T ++ post).drop pre.length = flat T ++ post := by rw [List.append_assoc]; simp
  unfold endOf
  rw [this, skip_flat T post]
  simp
  omega
theorem tame_flat (t : List S28) (h : firstErr t = 0) : tame t := tame_of_first t h

end Go.Proofs.Ytnkpcnnbeaomnaa.C
end
