import Derived.Test.YtnkpcnnbeaomnaaMO6
import Derived.Test.YtnkpcnnbeaomnaaMO15

section
/- What kind of name a text is: the program's name.Kind and the reference's Kind come to the same plain answer, kindOf, at every text. -/
namespace Go.Proofs.Ytnkpcnnbeaomnaa.C
open Go.RowKit Go.Proofs.YtnkpcnnbeaomnaaW.PrintWords Go.Proofs.YtnkpcnnbeaomnaaW.PrintLast Go.Proofs.YtnkpcnnbeaomnaaW.PrintMore
set_option linter.unusedVariables false
set_option linter.unusedSimpArgs false

def lo (c : Int) : Bool := decide (97 ≤ c ∧ c ≤ 122)
def up (c : Int) : Bool := decide (65 ≤ c ∧ c ≤ 90)
def dg (c : Int) : Bool := decide (48 ≤ c ∧ c ≤ 57)
def sg (c : Int) : Int × Int := if lo c then (1, 1) else if up c then (2, 2) else if dg c then (0, 3) else (0, 0)
def smB (s : ByteArray) (i : Nat) : Bool := lo (bt s i) || (dg (bt s i) && decide (0 < i))
def grB (s : ByteArray) (i : Nat) : Bool := up (bt s i) || (dg (bt s i) && decide (0 < i))
def allR (p : Nat → Bool) : Nat → Nat → Bool
  | 0, _ => true
  | d + 1, i => p i && allR p d (i + 1)
def kindOf (s : ByteArray) : Int := if s.size = 0 ∨ 8 < s.size then 0 else if allR (smB s) s.size 0 then 1 else if allR (grB s) s.size 0 then 2 else 0

theorem allR_congr {p q : Nat → Bool} : ∀ d i, (∀ j, i ≤ j → j < i + d → p j = q j) → allR p d i = allR q d i
  | 0, _, _ => rfl
  | d + 1, i, h => by
    simp only [allR]
    rw [h i (Nat.le_refl _) (by omega), allR_congr d (i + 1) (fun j h1 h2 => h j (by omega) (by omega))]

theorem sign_ev (c : Int) : Ev (fun k => name_sign.f k c) (sg c) := by
  refine ⟨2, fun k hk => ?_⟩
  obtain ⟨m, rfl⟩ : ∃ m, k = m + 2 := ⟨k - 2, by omega⟩
  unfold name_sign.f
  simp only [name_sign.j0, name_sign.j1, sg, lo, up, dg]
  by_cases a1 : 97 ≤ c
  · by_cases a2 : c ≤ 122
    · simp [a1, a2]
    · have a3 : ¬ c ≤ 90 := by omega
      have a4 : 65 ≤ c := by omega
      have a5 : 48 ≤ c := by omega
      have a6 : ¬ c ≤ 57 := by omega
      simp [a1, a2, a3, a4, a5, a6]
  · by_cases a3 : 65 ≤ c
    · by_cases a4 : c ≤ 90
      · simp [a1, a3, a4]
      · have a5 : 48 ≤ c := by omega
        have a6 : ¬ c ≤ 57 := by omega
        simp [a1, a3, a4, a5, a6]
    · by_cases a5 : 48 ≤ c
      · by_cases a6 : c ≤ 57
        · simp [a1, a3, a5, a6]
        · simp [a1, a3, a5, a6]
      · simp [a1, a3, a5]

theorem bits_tab : Go.bits .and .i64 1 1 = 1 ∧ Go.bits .and .i64 1 2 = 0 ∧ Go.bits .and .i64 2 1 = 0 ∧ Go.bits .and .i64 2 2 = 2 ∧ Go.bits .and .i64 3 1 = 1 ∧ Go.bits .and .i64 3 2 = 2 ∧ Go.bits .and .i64 0 1 = 0 ∧ Go.bits .and .i64 0 2 = 0 ∧ Go.bits .and .i64 1 0 = 0 ∧ Go.bits .and .i64 2 0 = 0 ∧ Go.bits .and .i64 3 0 = 0 ∧ Go.bits .and .i64 0 0 = 0 := by
  refine ⟨?_, ?_, ?_, ?_, ?_, ?_, ?_, ?_, ?_, ?_, ?_, ?_⟩ <;> decide +kernel

def cp (k c : Int) : Bool := decide (Go.bits .and .i64 (sg c).2 k ≠ 0)
theorem cp1 (c : Int) : cp 1 c = (lo c || dg c) := by
  obtain ⟨b1, b2, b3, b4, b5, b6, b7, b8, b9, b10, b11, b12⟩ := bits_tab
  unfold cp sg
  by_cases h1 : lo c = true
  · simp [h1, b1]
  · by_cases h2 : up c = true
    · have : dg c = false := by simp [up, dg] at h2 ⊢; omega
      simp [h1, h2, this, b3]
    · by_cases h3 : dg c = true
      · simp [h1, h2, h3, b5]
      · simp [h1, h2, h3, b7]
theorem cp2 (c : Int) : cp 2 c = (up c || dg c) := by
  obtain ⟨b1, b2, b3, b4, b5, b6, b7, b8, b9, b10, b11, b12⟩ := bits_tab
  unfold cp sg
  by_cases h1 : lo c = true
  · have h2 : up c = false := by simp [up, lo] at h1 ⊢; omega
    have h3 : dg c = false := by simp [dg, lo] at h1 ⊢; omega
    simp [h1, h2, h3, b2]
  · by_cases h2 : up c = true
    · simp [h1, h2, b4]
    · by_cases h3 : dg c = true
      · simp [h1, h2, h3, b6]
      · simp [h1, h2, h3, b8]
theorem cp0 (c : Int) : cp 0 c = false := by
  obtain ⟨b1, b2, b3, b4, b5, b6, b7, b8, b9, b10, b11, b12⟩ := bits_tab
  unfold cp sg
  by_cases h1 : lo c = true
  · simp [h1, b9]
  · by_cases h2 : up c = true
    · simp [h1, h2, b10]
    · by_cases h3 : dg c = true
      · simp [h1, h2, h3, b11]
      · simp [h1, h2, h3, b12]

theorem kind_l0 (s : ByteArray) (kd : Int) (hs : s.size ≤ 4611686018427387904) : ∀ d i : Nat, i + d = s.size → Ev (fun k => name_Kind.l0 k s kd (s.size : Int) (i : Int)) (if allR (fun j => cp kd (bt s j)) d i then kd else 0)
  | 0, i, h => by
    refine Ev.step (f := fun _ => some kd) (fun k => ?_) (by simpa [allR] using Ev.now kd)
    simp only [name_Kind.l0]
    rw [if_neg (by omega)]
  | d + 1, i, h => by
    have ih := kind_l0 s kd hs d (i + 1) (by omega)
    have hw : wrap64 ((i : Int) + 1) = ((i + 1 : Nat) : Int) := by unfold wrap64; omega
    refine Ev.step (f := fun k => (name_sign.f k (bt s i)).bind fun bt104 => (if (Go.bits .and .i64 bt104.2 kd) = 0 then (some 0) else (name_Kind.l0 k s kd (s.size : Int) ((i + 1 : Nat) : Int)))) (fun k => ?_) ?_
    · simp only [name_Kind.l0]
      rw [if_pos (by omega), if_pos (by omega), if_pos (by omega), hw]
    · refine Ev.bind (sign_ev _) ?_
      by_cases hb : Go.bits .and .i64 (sg (bt s i)).2 kd = 0
      · simp only [hb, if_true]
        have : cp kd (bt s i) = false := by simp [cp, hb]
        simpa [allR, this] using Ev.now (0 : Int)
      · simp only [hb, if_false]
        have : cp kd (bt s i) = true := by simp [cp, hb]
        simpa only [allR, this, Bool.true_and] using ih

theorem allR_imp {p q : Nat → Bool} : ∀ d i, (∀ j, i ≤ j → j < i + d → p j = true → q j = true) → allR p d i = true → allR q d i = true
  | 0, _, _, _ => rfl
  | d + 1, i, h, hp => by
    simp only [allR, Bool.and_eq_true] at hp ⊢
    exact ⟨h i (Nat.le_refl _) (by omega) hp.1, allR_imp d (i + 1) (fun j h1 h2 => h j (by omega) (by omega)) hp.2⟩

theorem kind_first (s : ByteArray) (n : Nat) (hn : s.size = n + 1) : (if allR (fun j => cp (sg (bt s 0)).1 (bt s j)) s.size 0 then (sg (bt s 0)).1 else 0) = (if allR (smB s) s.size 0 then 1 else if allR (grB s) s.size 0 then 2 else 0) := by
  have hsm : allR (smB s) s.size 0 = (lo (bt s 0) && allR (fun j => cp 1 (bt s j)) n 1) := by
    rw [hn]
    simp only [allR]
    have h0 : smB s 0 = lo (bt s 0) := by simp [smB]
    rw [h0, allR_congr n 1 (q := fun j => cp 1 (bt s j)) (fun j h1 h2 => by simp only [cp1, smB]; simp [show 0 < j from h1])]
  have hgr : allR (grB s) s.size 0 = (up (bt s 0) && allR (fun j => cp 2 (bt s j)) n 1) := by
    rw [hn]
    simp only [allR]
    have h0 : grB s 0 = up (bt s 0) := by simp [grB]
    rw [h0, allR_congr n 1 (q := fun j => cp 2 (bt s j)) (fun j h1 h2 => by simp only [cp2, grB]; simp [show 0 < j from h1])]
  rw [hsm, hgr]
  by_cases h1 : lo (bt s 0) = true
  · have h2 : up (bt s 0) = false := by simp [up, lo] at h1 ⊢; omega
    have hsg : (sg (bt s 0)).1 = 1 := by simp [sg, h1]
    have : cp 1 (bt s (0 : Nat)) = true := by rw [cp1]; simp [h1]
    rw [hsg, hn, show allR (fun j => cp 1 (bt s j)) (n + 1) 0 = (cp 1 (bt s (0 : Nat)) && allR (fun j => cp 1 (bt s j)) n 1) from rfl, this]
    simp [h1, h2]
  · by_cases h2 : up (bt s 0) = true
    · have hsg : (sg (bt s 0)).1 = 2 := by simp [sg, h1, h2]
      have : cp 2 (bt s (0 : Nat)) = true := by rw [cp2]; simp [h2]
      rw [hsg, hn, show allR (fun j => cp 2 (bt s j)) (n + 1) 0 = (cp 2 (bt s (0 : Nat)) && allR (fun j => cp 2 (bt s j)) n 1) from rfl, this]
      simp [h1, h2]
    · have hsg : (sg (bt s 0)).1 = 0 := by unfold sg; simp [h1, h2]; split <;> rfl
      rw [hsg]
      simp [h1, h2]

theorem tl_len (s : ByteArray) : s.toList.length = s.size := by rw [ByteArray.toList_eq, data_length]
theorem kind_ev (s : ByteArray) : Ev (fun k => name_Kind.f k s) (kindOf s) := by
  have hj1 : Ev (fun k => name_Kind.j0 k s true) 0 := Ev.step (f := fun _ => some 0) (fun k => by simp only [name_Kind.j0, if_true]) (Ev.now 0)
  by_cases h0 : s.toList = ([] : List UInt8)
  · have hz : s.size = 0 := by
      have : s.toList.length = 0 := by rw [h0]; rfl
      rwa [tl_len] at this
    have : kindOf s = 0 := by simp [kindOf, hz]
    rw [this]
    exact Ev.congr (fun k => by unfold name_Kind.f; rw [if_pos h0]) hj1
  · have hz : s.size ≠ 0 := by
      intro hz
      apply h0
      apply List.eq_nil_of_length_eq_zero
      rw [tl_len]
      exact hz
    by_cases h8 : 8 < s.size
    · have : kindOf s = 0 := by simp [kindOf, h8]
      rw [this]
      refine Ev.congr (fun k => ?_) hj1
      unfold name_Kind.f
      rw [if_neg h0]
      rw [show decide ((s.size : Int) > 8) = true from decide_eq_true (by omega)]
    · obtain ⟨n, hn⟩ : ∃ n, s.size = n + 1 := ⟨s.size - 1, by omega⟩
      have hk : kindOf s = (if allR (fun j => cp (sg (bt s 0)).1 (bt s j)) s.size 0 then (sg (bt s 0)).1 else 0) := by
        rw [kind_first s n hn]
        unfold kindOf
        rw [if_neg (by omega)]
      rw [hk]
      refine Ev.congr (f := fun k => name_Kind.j0 k s false) (fun k => ?_) ?_
      · unfold name_Kind.f
        rw [if_neg h0]
        rw [show decide ((s.size : Int) > 8) = false from decide_eq_false (by omega)]
      · refine Ev.step (f := fun k => (name_sign.f k (bt s 0)).bind fun bt102 => name_Kind.l0 k s bt102.1 (s.size : Int) 0) (fun k => ?_) ?_
        · simp only [name_Kind.j0]
          rw [if_neg (by decide), if_pos (by omega)]
        · exact Ev.bind (sign_ev _) (kind_l0 s _ (by omega) s.size 0 (by omega))

theorem rkind_step (k : Nat) (s : ByteArray) (a b : Bool) (i : Nat) (hi : i < s.size) (hs : s.size ≤ 4611686018427387904) :
    aumbryref03_Kind.l0 (k + 1) s a b (i : Int) = aumbryref03_Kind.l0 k s (a && smB s i) (b && grB s i) ((i + 1 : Nat) : Int) := by
  have hw : wrap64 ((i : Int) + 1) = ((i + 1 : Nat) : Int) := by unfold wrap64; omega
  have hd : decide ((i : Int) > 0) = decide (0 < i) := by
    by_cases h : 0 < i
    · rw [decide_eq_true h, decide_eq_true (by omega)]
    · rw [decide_eq_false h, decide_eq_false (by omega)]
  simp only [aumbryref03_Kind.l0]
  rw [if_pos (by omega), if_pos (by omega), hw, hd]
  unfold smB grB lo up dg
  generalize bt s i = c
  generalize decide (0 < i) = z
  by_cases c1 : c ≥ 48
  · by_cases c2 : c ≤ 57
    · have e1 : ¬ c ≥ 97 := by omega
      have e2 : ¬ c ≥ 65 := by omega
      have e3 : ¬ 97 ≤ c := by omega
      have e4 : ¬ 65 ≤ c := by omega
      have e5 : 48 ≤ c := by omega
      cases a <;> cases b <;> simp [c1, c2, e1, e2, e3, e4, e5]
    · by_cases c3 : c ≥ 65
      · by_cases c4 : c ≤ 90
        · have e1 : ¬ c ≥ 97 := by omega
          have e3 : ¬ 97 ≤ c := by omega
          have e4 : 65 ≤ c := by omega
          have e5 : 48 ≤ c := by omega
          cases a <;> cases b <;> simp [c1, c2, c3, c4, e1, e3, e4, e5]
        · by_cases c5 : c ≥ 97
          · by_cases c6 : c ≤ 122
            · have e3 : 97 ≤ c := by omega
              have e4 : 65 ≤ c := by omega
              have e5 : 48 ≤ c := by omega
              cases a <;> cases b <;> simp [c1, c2, c3, c4, c5, c6, e3, e4, e5]
            · have e3 : 97 ≤ c := by omega
              have e4 : 65 ≤ c := by omega
              have e5 : 48 ≤ c := by omega
              cases a <;> cases b <;> simp [c1, c2, c3, c4, c5, c6, e3, e4, e5]
          · have e3 : ¬ 97 ≤ c := by omega
            have e4 : 65 ≤ c := by omega
            have e5 : 48 ≤ c := by omega
            cases a <;> cases b <;> simp [c1, c2, c3, c4, c5, e3, e4, e5]
      · have e1 : ¬ c ≥ 97 := by omega
        have e3 : ¬ 97 ≤ c := by omega
        have e4 : ¬ 65 ≤ c := by omega
        have e5 : 48 ≤ c := by omega
        cases a <;> cases b <;> simp [c1, c2, c3, e1, e3, e4, e5]
  · have e1 : ¬ c ≥ 97 := by omega
    have e2 : ¬ c ≥ 65 := by omega
    have e3 : ¬ 97 ≤ c := by omega
    have e4 : ¬ 65 ≤ c := by omega
    have e5 : ¬ 48 ≤ c := by omega
    cases a <;> cases b <;> simp [c1, e1, e2, e3, e4, e5]

theorem rkind_l0 (s : ByteArray) (hs : s.size ≤ 4611686018427387904) : ∀ (d i : Nat) (a b : Bool), i + d = s.size → Ev (fun k => aumbryref03_Kind.l0 k s a b (i : Int)) (if (a && allR (smB s) d i) then 1 else if (b && allR (grB s) d i) then 2 else 0)
  | 0, i, a, b, h => by
    refine Ev.step (f := fun _ => some (if (a && allR (smB s) 0 i) then 1 else if (b && allR (grB s) 0 i) then 2 else 0)) (fun k => ?_) (Ev.now _)
    simp only [aumbryref03_Kind.l0]
    rw [if_neg (by omega)]
    cases a <;> cases b <;> simp [allR]
  | d + 1, i, a, b, h => by
    have ih := rkind_l0 s hs d (i + 1) (a && smB s i) (b && grB s i) (by omega)
    refine Ev.step (f := fun k => aumbryref03_Kind.l0 k s (a && smB s i) (b && grB s i) ((i + 1 : Nat) : Int)) (fun k => rkind_step k s a b i (by omega) hs) ?_
    have e1 : (a && allR (smB s) (d + 1) i) = ((a && smB s i) && allR (smB s) d (i + 1)) := by simp only [allR, Bool.and_assoc]
    have e2 : (b && allR (grB s) (d + 1) i) = ((b && grB s i) && allR (grB s) d (i + 1)) := by simp only [allR, Bool.and_assoc]
    rw [e1, e2]
    exact ih

theorem rkind_ev (s : ByteArray) : Ev (fun k => aumbryref03_Kind.f k s) (kindOf s) := by
  have hj1 : Ev (fun k => aumbryref03_Kind.j0 k s true) 0 := Ev.step (f := fun _ => some 0) (fun k => by simp only [aumbryref03_Kind.j0, if_true]) (Ev.now 0)
  by_cases hz : s.size = 0
  · have : kindOf s = 0 := by simp [kindOf, hz]
    rw [this]
    exact Ev.congr (fun k => by unfold aumbryref03_Kind.f; rw [if_pos (by omega)]) hj1
  · by_cases h8 : 8 < s.size
    · have : kindOf s = 0 := by simp [kindOf, h8]
      rw [this]
      refine Ev.congr (fun k => ?_) hj1
      unfold aumbryref03_Kind.f
      rw [if_neg (by omega)]
      rw [show decide ((s.size : Int) > 8) = true from decide_eq_true (by omega)]
    · have hk : kindOf s = (if (true && allR (smB s) s.size 0) then 1 else if (true && allR (grB s) s.size 0) then 2 else 0) := by
        unfold kindOf
        rw [if_neg (by omega)]
        simp
      rw [hk]
      refine Ev.congr (f := fun k => aumbryref03_Kind.j0 k s false) (fun k => ?_) ?_
      · unfold aumbryref03_Kind.f
        rw [if_neg (by omega)]
        rw [show decide ((s.size : Int) > 8) = false from decide_eq_false (by omega)]
      · refine Ev.step (f := fun k => aumbryref03_Kind.l0 k s true true 0) (fun k => ?_) ?_
        · simp only [aumbryref03_Kind.j0]
          rw [if_neg (by decide)]
        · exact rkind_l0 s (by omega) s.size 0 true true (by omega)

theorem Ev.det {α : Type} {g : Nat → Option α} {a b : α} (h : Ev g a) (k : Ev g b) : a = b := by
  obtain ⟨K, h⟩ := h
  obtain ⟨K', k⟩ := k
  have h1 := h (max K K') (by omega)
  have h2 := k (max K K') (by omega)
  exact Option.some.inj (h1.symm.trans h2)
theorem kind_det {k : Nat} {s : ByteArray} {r : Int} (h : name_Kind.f k s = some r) : r = kindOf s := Ev.det (Ev.of (g := fun k => name_Kind.f k s) (name_Kind.mono s) h) (kind_ev s)
theorem kind_01 (s : ByteArray) : kindOf s = 0 ∨ kindOf s = 1 ∨ kindOf s = 2 := by
  unfold kindOf
  split
  · exact .inl rfl
  · split
    · exact .inr (.inl rfl)
    · split
      · exact .inr (.inr rfl)
      · exact .inl rfl

end Go.Proofs.Ytnkpcnnbeaomnaa.C
end

section
-- Written by a program of this session (a scratch print over hand-made contracts), out of the translation. Not trusted: Lean checks it.
namespace Go.Proofs.Ytnkpcnnbeaomnaa.C
open Go.RowKit Go.Proofs.YtnkpcnnbeaomnaaW.PrintWords Go.Proofs.YtnkpcnnbeaomnaaW.PrintLast Go.Proofs.YtnkpcnnbeaomnaaW.PrintMore
attribute [local go_sem] max2_int min2_int max_two min_two max_three min_three max_four min_four   -- for this text's walks alone
set_option linter.unusedVariables false
set_option linter.unusedSimpArgs false

/-! ### aumbryref04_Behind: function 48 -/
mutual
def aumbryref04_Behind.j0 : Nat → List (S28) → Int → Bool → Option (Int)
  | 0, _, _, _ => none
  | k + 1, x0, x1, x14 => if x14 = true then (some (-1)) else (if 0 ≤ x1 then (if x1 < (x0.length : Int) then (aumbryref04_Behind.l0 k x0 (wrap64 (x1 + 1)) ((rd_T28 x0 x1).f1) 0) else (none)) else (none))
def aumbryref04_Behind.l0 : Nat → List (S28) → Int → Int → Int → Option (Int)
  | 0, _, _, _, _ => none
  | k + 1, x0, x1, x5, x6 => if x6 < x5 then (if x1 ≥ 0 then ((aumbryref04_Behind.f k x0 x1).bind fun t319 => (aumbryref04_Behind.l0 k x0 t319 x5 (wrap64 (x6 + 1)))) else (some x1)) else (some x1)
def aumbryref04_Behind.f : Nat → List (S28) → Int → Option (Int)
  | 0, _, _ => none
  | k + 1, l0, a1 => if a1 < 0 then (aumbryref04_Behind.j0 k l0 a1 true) else (aumbryref04_Behind.j0 k l0 a1 (decide (a1 ≥ (l0.length : Int))))
end
theorem aumbryref04_Behind.mono_l : ∀ k, (∀ y0 y1, LeO (aumbryref04_Behind.f k y0 y1) (aumbryref04_Behind.f (k + 1) y0 y1)) ∧ (∀ y0 y1 y2, LeO (aumbryref04_Behind.j0 k y0 y1 y2) (aumbryref04_Behind.j0 (k + 1) y0 y1 y2)) ∧ (∀ y0 y1 y2 y3, LeO (aumbryref04_Behind.l0 k y0 y1 y2 y3) (aumbryref04_Behind.l0 (k + 1) y0 y1 y2 y3))
  | 0 => ⟨fun _ _ r h => by simp [aumbryref04_Behind.f] at h, fun _ _ _ r h => by simp [aumbryref04_Behind.j0] at h, fun _ _ _ _ r h => by simp [aumbryref04_Behind.l0] at h⟩
  | k + 1 => by
    obtain ⟨ih0, ih1, ih2⟩ := aumbryref04_Behind.mono_l k
    refine ⟨?_, ?_, ?_⟩
    · intro y0 y1
      unfold aumbryref04_Behind.f
      repeat' first
      | (with_reducible exact ih0 _ _)
      | (with_reducible exact ih1 _ _ _)
      | (with_reducible exact ih2 _ _ _ _)
      | (with_reducible exact LeO.refl _)
      | (with_reducible exact LeO.none _)
      | (with_reducible refine LeO.ite ?_ ?_)
      | (with_reducible refine LeO.bind ?_ (fun _ => ?_))
      | exact ih0 _ _
      | exact ih1 _ _ _
      | exact ih2 _ _ _ _
      | exact LeO.none _
      | refine LeO.ite ?_ ?_
      | refine LeO.bind ?_ (fun _ => ?_)
    · intro y0 y1 y2
      unfold aumbryref04_Behind.j0
      repeat' first
      | (with_reducible exact ih0 _ _)
      | (with_reducible exact ih1 _ _ _)
      | (with_reducible exact ih2 _ _ _ _)
      | (with_reducible exact LeO.refl _)
      | (with_reducible exact LeO.none _)
      | (with_reducible refine LeO.ite ?_ ?_)
      | (with_reducible refine LeO.bind ?_ (fun _ => ?_))
      | exact ih0 _ _
      | exact ih1 _ _ _
      | exact ih2 _ _ _ _
      | exact LeO.none _
      | refine LeO.ite ?_ ?_
      | refine LeO.bind ?_ (fun _ => ?_)
    · intro y0 y1 y2 y3
      unfold aumbryref04_Behind.l0
      repeat' first
      | (with_reducible exact ih0 _ _)
      | (with_reducible exact ih1 _ _ _)
      | (with_reducible exact ih2 _ _ _ _)
      | (with_reducible exact LeO.refl _)
      | (with_reducible exact LeO.none _)
      | (with_reducible refine LeO.ite ?_ ?_)
      | (with_reducible refine LeO.bind ?_ (fun _ => ?_))
      | exact ih0 _ _
      | exact ih1 _ _ _
      | exact ih2 _ _ _ _
      | exact LeO.none _
      | refine LeO.ite ?_ ?_
      | refine LeO.bind ?_ (fun _ => ?_)
theorem aumbryref04_Behind.mono : ∀ a0 a1 k, LeO (aumbryref04_Behind.f k a0 a1) (aumbryref04_Behind.f (k + 1) a0 a1) := by
  intro a0 a1 k
  obtain ⟨ih0, ih1, ih2⟩ := aumbryref04_Behind.mono_l k
  exact ih0 a0 a1
set_option maxHeartbeats 8000000 in
set_option maxRecDepth 100000 in
theorem aumbryref04_Behind.calls (k : Nat) : ∀ (A0 : Option Addr) (c0 : Nat) (l0 : List (S28)) (a1 : Int) (r : Int) (w : World) (hr0 : Kd.C k28 w A0 l0.length l0) (hc0 : l0.length ≤ c0) (h : aumbryref04_Behind.f k l0 a1 = some r),
    Calls Try.prog 48 #[.slice A0 l0.length c0, .int .i64 a1] w fun e w' => e = .returned (.int .i64 r) ∧ Drawn0 w w' := by
  induction k using Nat.strongRecOn with
  | _ k ih =>
  intro A0 c0 l0 a1 r w hr0 hc0 h
  cases k with
  | zero => exact absurd h (by simp [aumbryref04_Behind.f])
  | succ k =>
  simp only [aumbryref04_Behind.f] at h
  have HR0 := Aside0.mk hr0
  have HC0 := Aside0.mk hc0
  clear hr0 hc0
  have H : (if a1 < 0 then (aumbryref04_Behind.j0 k l0 a1 true) else (aumbryref04_Behind.j0 k l0 a1 (decide (a1 ≥ (l0.length : Int))))) = some r := h
  clear h
  have HC3 := Aside0.mk H
  clear H
  go_enter Try.func48, Try.ntmps48
  go_upto_region 1 with (fail)
  go_cut [14] (fun v14 wc => ∃ (kq : Nat) (x14_2 : Bool), v14 = .bool x14_2 ∧ Aside0 (aumbryref04_Behind.j0 kq l0 a1 x14_2 = some r) ∧ Aside0 (kq ≤ k) ∧ Drawn0 w wc)
  case first =>
    have H := HC3.out
    clear HC3
    by_cases c4 : a1 < 0
    · rw [if_pos c4] at H
      have c4b0 : decide (a1 < 0) = true := decide_eq_true c4
      clear c4
      (first | rw [c4b0] | (simp only [i64_w, i32_w]; rw [c4b0]) | skip)
      have H' := Aside0.mk H
      clear H
      go_wp2
      go_meet
      case rel => exact ⟨_, (true), (by first | rfl | (simp; done) | (simp [*]; done)), H', ⟨by first | omega | exact Nat.le_refl _⟩, by repeat (first | exact Drawn0.refl _ | apply Drawn0.step)⟩
    · rw [if_neg c4] at H
      have c4b0 : decide (a1 < 0) = false := decide_eq_false c4
      clear c4
      (first | rw [c4b0] | (simp only [i64_w, i32_w]; rw [c4b0]) | skip)
      have H' := Aside0.mk H
      clear H
      go_wp2
      go_meet
      case rel => exact ⟨_, (decide (a1 ≥ (l0.length : Int))), (by first | rfl | (simp; done) | (simp [*]; done)), H', ⟨by first | omega | exact Nat.le_refl _⟩, by repeat (first | exact Drawn0.refl _ | apply Drawn0.step)⟩
  case rest =>
    clear HC3
    try clear p2
    try clear c4
    try clear c4b0
    obtain ⟨kq, x14_2, rfl, HA, HJ2, ⟨mc2, rfl⟩⟩ := hcut
    cases kq with
    | zero => exact absurd HA.out (by simp [aumbryref04_Behind.j0])
    | succ kj2 =>
      have H := HA.out
      clear HA
      simp only [aumbryref04_Behind.j0] at H
      by_cases c5 : x14_2 = true
      · subst c5
        have H1 : (some (-1)) = some r := by rw [if_pos rfl] at H; exact H
        clear H
        have H := H1
        clear H1
        obtain rfl := Option.some.inj H
        go_wp2
        go_ret
        exact ⟨by first | rfl | (simp; done) | (simp [*]; done), by repeat (first | exact Drawn0.refl _ | apply Drawn0.step)⟩
      · replace c5 := Bool.eq_false_iff.mpr c5
        subst c5
        have H1 : (if 0 ≤ a1 then (if a1 < (l0.length : Int) then (aumbryref04_Behind.l0 kj2 l0 (wrap64 (a1 + 1)) ((rd_T28 l0 a1).f1) 0) else (none)) else (none)) = some r := by rw [if_neg (show ¬ (false = true) by decide)] at H; exact H
        clear H
        have H := H1
        clear H1
        by_cases c6 : 0 ≤ a1
        · rw [if_pos c6] at H
          have c6b0 : decide (0 ≤ a1) = true := decide_eq_true c6
          clear c6
          by_cases c7 : a1 < (l0.length : Int)
          · rw [if_pos c7] at H
            have c7b0 : decide (a1 < (l0.length : Int)) = true := decide_eq_true c7
            clear c7
            have H' := Aside0.mk H
            clear H
            have p318 : 0 ≤ (a1 : Int) := of_decide_eq_true (by first | (with_reducible assumption) | assumption)
            have q318 : a1 < (l0.length : Int) := of_decide_eq_true (by first | (with_reducible assumption) | assumption)
            obtain ⟨ad318, e318, hx318_0, hx318_1⟩ := at_T28 HR0.out a1 p318 q318
            cases e318
            replace p318 := eq_true p318
            replace q318 := eq_true q318
            go_wp2
            go_loopg [1, 6] kj2 (fun kq v1 v6 w' => ∃ (x1_2 : Int) (x6_2 : Int), v1 = .int .i64 x1_2 ∧ v6 = .int .i64 x6_2 ∧ Aside0 (aumbryref04_Behind.l0 kq l0 x1_2 ((rd_T28 l0 a1).f1) x6_2 = some r) ∧ Aside0 (kq ≤ kj2) ∧ Drawn0 w w')
            case atStart => exact ⟨(wrap64 (a1 + 1)), (0), (by first | rfl | (simp; done) | (simp [*]; done)), (by first | rfl | (simp; done) | (simp [*]; done)), H', ⟨Nat.le_refl _⟩, by repeat (first | exact Drawn0.refl _ | apply Drawn0.step)⟩
            case round =>
              clear H'
              try clear c2
              try clear p2
              try clear p3
              try clear q3
              try clear hx3
              try clear c4
              try clear c4b0
              try clear c5
              try clear c6
              try clear c6b0
              try clear p6
              try clear c7
              try clear c7b0
              try clear hx318_0
              try clear hx318_1
              try clear p2
              try clear p318
              try clear q318
              obtain ⟨x1_2, x6_2, rfl, rfl, HA, HK2, ⟨m2, rfl⟩⟩ := hrel
              cases gk with
              | zero => exact absurd HA.out (by simp [aumbryref04_Behind.l0])
              | succ k2 =>
                have H := HA.out
                clear HA
                simp only [aumbryref04_Behind.l0] at H
                by_cases c8 : x6_2 < ((rd_T28 l0 a1).f1)
                · rw [if_pos c8] at H
                  have c8b0 : decide (x6_2 < ((rd_T28 l0 a1).f1)) = true := decide_eq_true c8
                  clear c8
                  by_cases c9 : x1_2 ≥ 0
                  · rw [if_pos c9] at H
                    have c9b0 : decide (0 ≤ x1_2) = true := decide_eq_true c9
                    clear c9
                    replace H := Option.bind_eq_some_iff.mp H
                    obtain ⟨t319, A100, H⟩ := H
                    replace H : (aumbryref04_Behind.l0 k2 l0 t319 ((rd_T28 l0 a1).f1) (wrap64 (x6_2 + 1))) = some r := H
                    have A10 := Aside0.mk A100
                    clear A100
                    have H' := Aside0.mk H
                    clear H
                    go_wp2_with (first | ((with_reducible refine gate_callee (f := 48) rfl ?_); refine goesL_ (some 33) rfl rfl Try.func48 (by kernel_rfl) rfl #[.slice (some ad318) l0.length c0, .int .i64 x1_2] rfl (by (try simp only [List.map_toArray, List.map_cons, List.map_nil]); first | done | rfl | (simp only [List.length_drop, List.length_take]; rfl)) ?_; (with_reducible refine (ih k2 (by have := HJ2.out; have := HK2.out; omega) _ _ l0 x1_2 t319 _ ?side1 ?side2 A10.out).mono ?_); (case side1 => repeat (first | exact HR0.out | (with_reducible refine Kd.C_alloc ?_ _) | (with_reducible refine Kd.C_drewN ?_ _) | (with_reducible refine Kd.C_drew ?_))); (case side2 => exact HC0.out); rintro e w' ⟨rfl, ⟨nd, rfl⟩⟩; refine ⟨_, rfl, ?_⟩))
                    go_roundg k2
                    case measure => have := HJ2.out; have := HK2.out; omega
                    case rel => exact ⟨(t319), (wrap64 (x6_2 + 1)), (by first | rfl | (simp; done) | (simp [*]; done)), (by first | rfl | (simp; done) | (simp [*]; done)), H', ⟨by have := HJ2.out; have := HK2.out; omega⟩, by repeat (first | exact Drawn0.refl _ | apply Drawn0.step)⟩
                  · rw [if_neg c9] at H
                    have c9b0 : decide (0 ≤ x1_2) = false := decide_eq_false c9
                    clear c9
                    obtain rfl := Option.some.inj H
                    go_wp2
                    go_ret
                    exact ⟨by first | rfl | (simp; done) | (simp [*]; done), by repeat (first | exact Drawn0.refl _ | apply Drawn0.step)⟩
                · rw [if_neg c8] at H
                  have c8b0 : decide (x6_2 < ((rd_T28 l0 a1).f1)) = false := decide_eq_false c8
                  clear c8
                  obtain rfl := Option.some.inj H
                  go_wp2
                  go_ret
                  exact ⟨by first | rfl | (simp; done) | (simp [*]; done), by repeat (first | exact Drawn0.refl _ | apply Drawn0.step)⟩
          · rw [if_neg c7] at H
            exact absurd H (by simp)
        · rw [if_neg c6] at H
          exact absurd H (by simp)

end Go.Proofs.Ytnkpcnnbeaomnaa.C
end

section
-- Written by a program of this session (a scratch print over hand-made contracts), out of the translation. Not trusted: Lean checks it.
namespace Go.Proofs.Ytnkpcnnbeaomnaa.C
open Go.RowKit Go.Proofs.YtnkpcnnbeaomnaaW.PrintWords Go.Proofs.YtnkpcnnbeaomnaaW.PrintLast Go.Proofs.YtnkpcnnbeaomnaaW.PrintMore
attribute [local go_sem] max2_int min2_int max_two min_two max_three min_three max_four min_four   -- for this text's walks alone
set_option linter.unusedVariables false
set_option linter.unusedSimpArgs false

/-! ### aumbryref04_Check: function 45 -/
def aumbryref04_Check.l0 : Nat → List (S28) → Int → Int → Option (Int)
  | 0, _, _, _ => none
  | k + 1, x0, x9, x10 => if x10 < x9 then (if 0 ≤ x10 then (if x10 < (x0.length : Int) then ((aumbryref03_Kind.f k ((rd_T28 x0 x10).f0)).bind fun t322 => (if t322 = 0 then (some 4) else (if ((rd_T28 x0 x10).f1) < 0 then (some 5) else (if ((rd_T28 x0 x10).f1) > 4 then (some 5) else (if t322 = 2 then (if ((rd_T28 x0 x10).f1) = 0 then (aumbryref04_Check.l0 k x0 x9 (wrap64 (x10 + 1))) else (some 5)) else (aumbryref04_Check.l0 k x0 x9 (wrap64 (x10 + 1)))))))) else (none)) else (none)) else ((aumbryref04_Behind.f k x0 0).bind fun t320 => (if t320 = (x0.length : Int) then (some 0) else (some 3)))
def aumbryref04_Check.f (k : Nat) (l0 : List (S28)) : Option (Int) := if (l0.length : Int) > 64 then (some 6) else (aumbryref04_Check.l0 k l0 (l0.length : Int) 0)
theorem aumbryref04_Check.mono_l : ∀ k, (∀ y0 y1 y2, LeO (aumbryref04_Check.l0 k y0 y1 y2) (aumbryref04_Check.l0 (k + 1) y0 y1 y2))
  | 0 => fun _ _ _ r h => by simp [aumbryref04_Check.l0] at h
  | k + 1 => by
    have ih0 := aumbryref04_Check.mono_l k
    · intro y0 y1 y2
      unfold aumbryref04_Check.l0
      repeat' first
      | (with_reducible exact ih0 _ _ _)
      | (with_reducible exact aumbryref03_Kind.mono _ _)
      | (with_reducible exact aumbryref04_Behind.mono _ _ _)
      | (with_reducible exact LeO.refl _)
      | (with_reducible exact LeO.none _)
      | (with_reducible refine LeO.ite ?_ ?_)
      | (with_reducible refine LeO.bind ?_ (fun _ => ?_))
      | exact ih0 _ _ _
      | exact aumbryref03_Kind.mono _ _
      | exact aumbryref04_Behind.mono _ _ _
      | exact LeO.none _
      | refine LeO.ite ?_ ?_
      | refine LeO.bind ?_ (fun _ => ?_)
theorem aumbryref04_Check.mono : ∀ a0 k, LeO (aumbryref04_Check.f k a0) (aumbryref04_Check.f (k + 1) a0) := by
  intro a0 k
  have ih0 := aumbryref04_Check.mono_l k
  unfold aumbryref04_Check.f
  repeat' first
      | (with_reducible exact ih0 _ _ _)
      | (with_reducible exact aumbryref03_Kind.mono _ _)
      | (with_reducible exact aumbryref04_Behind.mono _ _ _)
      | (with_reducible exact LeO.refl _)
      | (with_reducible exact LeO.none _)
      | (with_reducible refine LeO.ite ?_ ?_)
      | (with_reducible refine LeO.bind ?_ (fun _ => ?_))
      | exact ih0 _ _ _
      | exact aumbryref03_Kind.mono _ _
      | exact aumbryref04_Behind.mono _ _ _
      | exact LeO.none _
      | refine LeO.ite ?_ ?_
      | refine LeO.bind ?_ (fun _ => ?_)
set_option maxHeartbeats 8000000 in
set_option maxRecDepth 100000 in
theorem aumbryref04_Check.calls (k : Nat) (A0 : Option Addr) (c0 : Nat) (l0 : List (S28)) (r : Int) (w : World) (hr0 : Kd.C k28 w A0 l0.length l0) (hc0 : l0.length ≤ c0) (h : aumbryref04_Check.f k l0 = some r) :
    Calls Try.prog 45 #[.slice A0 l0.length c0] w fun e w' => e = .returned (.int .i64 r) ∧ Drawn0 w w' := by
  have HR0 := Aside0.mk hr0
  have HC0 := Aside0.mk hc0
  clear hr0 hc0
  have H : (if (l0.length : Int) > 64 then (some 6) else (aumbryref04_Check.l0 k l0 (l0.length : Int) 0)) = some r := h
  clear h
  by_cases c2 : (l0.length : Int) > 64
  · rw [if_pos c2] at H
    have c2b0 : decide (64 < (l0.length : Int)) = true := decide_eq_true c2
    have c2b1 : decide (64 < l0.length) = true := decide_eq_true (by omega)
    clear c2
    obtain rfl := Option.some.inj H
    go_enter Try.func45, Try.ntmps45
    go_wp2
    go_ret
    exact ⟨by first | rfl | (simp; done) | (simp [*]; done), by repeat (first | exact Drawn0.refl _ | apply Drawn0.step)⟩
  · rw [if_neg c2] at H
    have c2b0 : decide (64 < (l0.length : Int)) = false := decide_eq_false c2
    have c2b1 : decide (64 < l0.length) = false := decide_eq_false (by omega)
    clear c2
    have H' := Aside0.mk H
    clear H
    go_enter Try.func45, Try.ntmps45
    go_wp2
    go_loopg [10] k (fun kq v10 w' => ∃ (x10_1 : Int), v10 = .int .i64 x10_1 ∧ Aside0 (aumbryref04_Check.l0 kq l0 (l0.length : Int) x10_1 = some r) ∧ Aside0 (kq ≤ k) ∧ Drawn0 w w')
    case atStart => exact ⟨(0), (by first | rfl | (simp; done) | (simp [*]; done)), H', ⟨Nat.le_refl _⟩, by repeat (first | exact Drawn0.refl _ | apply Drawn0.step)⟩
    case round =>
      clear H'
      try clear c2
      try clear c2b0
      try clear c2b1
      try clear p2
      obtain ⟨x10_1, rfl, HA, HK1, ⟨m1, rfl⟩⟩ := hrel
      cases gk with
      | zero => exact absurd HA.out (by simp [aumbryref04_Check.l0])
      | succ k1 =>
        have H := HA.out
        clear HA
        simp only [aumbryref04_Check.l0] at H
        by_cases c3 : x10_1 < (l0.length : Int)
        · rw [if_pos c3] at H
          have c3b0 : decide (x10_1 < (l0.length : Int)) = true := decide_eq_true c3
          clear c3
          by_cases c4 : 0 ≤ x10_1
          · rw [if_pos c4] at H
            have c4b0 : decide (0 ≤ x10_1) = true := decide_eq_true c4
            clear c4
            by_cases c5 : x10_1 < (l0.length : Int)
            · rw [if_pos c5] at H
              have c5b0 : decide (x10_1 < (l0.length : Int)) = true := decide_eq_true c5
              clear c5
              replace H := Option.bind_eq_some_iff.mp H
              obtain ⟨t322, A60, H⟩ := H
              replace H : (if t322 = 0 then (some 4) else (if ((rd_T28 l0 x10_1).f1) < 0 then (some 5) else (if ((rd_T28 l0 x10_1).f1) > 4 then (some 5) else (if t322 = 2 then (if ((rd_T28 l0 x10_1).f1) = 0 then (aumbryref04_Check.l0 k1 l0 (l0.length : Int) (wrap64 (x10_1 + 1))) else (some 5)) else (aumbryref04_Check.l0 k1 l0 (l0.length : Int) (wrap64 (x10_1 + 1))))))) = some r := H
              have A6 := Aside0.mk A60
              clear A60
              by_cases c7 : t322 = 0
              · rw [if_pos c7] at H
                have c7b0 : (t322 == 0) = true := beq_iff_eq.mpr c7
                have c7b1 : (t322 != 0) = false := bne_eq_false_iff_eq.mpr c7
                clear c7
                obtain rfl := Option.some.inj H
                have p321 : 0 ≤ (x10_1 : Int) := of_decide_eq_true (by first | (with_reducible assumption) | assumption)
                have q321 : x10_1 < (l0.length : Int) := of_decide_eq_true (by first | (with_reducible assumption) | assumption)
                obtain ⟨ad321, e321, hx321_0, hx321_1⟩ := at_T28 HR0.out x10_1 p321 q321
                cases e321
                replace p321 := eq_true p321
                replace q321 := eq_true q321
                go_wp2_with (first | ((with_reducible refine gate_callee (f := 51) rfl ?_); refine goesL_ (some 18) rfl rfl Try.func51 (by kernel_rfl) rfl #[.string ((rd_T28 l0 x10_1).f0)] rfl (by (try simp only [List.map_toArray, List.map_cons, List.map_nil]); first | done | rfl | (simp only [List.length_drop, List.length_take]; rfl)) ?_; (with_reducible refine (aumbryref03_Kind.calls k1 ((rd_T28 l0 x10_1).f0) t322 _ A6.out).mono ?_); rintro e w' ⟨rfl, ⟨nd, rfl⟩⟩; refine ⟨_, rfl, ?_⟩))
                go_ret
                exact ⟨by first | rfl | (simp; done) | (simp [*]; done), by repeat (first | exact Drawn0.refl _ | apply Drawn0.step)⟩
              · rw [if_neg c7] at H
                have c7b0 : (t322 == 0) = false := beq_eq_false_iff_ne.mpr c7
                have c7b1 : (t322 != 0) = true := bne_iff_ne.mpr c7
                by_cases c8 : ((rd_T28 l0 x10_1).f1) < 0
                · rw [if_pos c8] at H
                  have c8b0 : decide (((rd_T28 l0 x10_1).f1) < 0) = true := decide_eq_true c8
                  clear c8
                  obtain rfl := Option.some.inj H
                  have p321 : 0 ≤ (x10_1 : Int) := of_decide_eq_true (by first | (with_reducible assumption) | assumption)
                  have q321 : x10_1 < (l0.length : Int) := of_decide_eq_true (by first | (with_reducible assumption) | assumption)
                  obtain ⟨ad321, e321, hx321_0, hx321_1⟩ := at_T28 HR0.out x10_1 p321 q321
                  cases e321
                  replace p321 := eq_true p321
                  replace q321 := eq_true q321
                  go_wp2_with (first | ((with_reducible refine gate_callee (f := 51) rfl ?_); refine goesL_ (some 18) rfl rfl Try.func51 (by kernel_rfl) rfl #[.string ((rd_T28 l0 x10_1).f0)] rfl (by (try simp only [List.map_toArray, List.map_cons, List.map_nil]); first | done | rfl | (simp only [List.length_drop, List.length_take]; rfl)) ?_; (with_reducible refine (aumbryref03_Kind.calls k1 ((rd_T28 l0 x10_1).f0) t322 _ A6.out).mono ?_); rintro e w' ⟨rfl, ⟨nd, rfl⟩⟩; refine ⟨_, rfl, ?_⟩; have p323 : 0 ≤ (x10_1 : Int) := of_decide_eq_true (by first | (with_reducible assumption) | assumption); have q323 : x10_1 < (l0.length : Int) := of_decide_eq_true (by first | (with_reducible assumption) | assumption); obtain ⟨ad323, e323, hx323_0, hx323_1⟩ := at_T28 HR0.out x10_1 p323 q323; obtain rfl : ad321 = ad323 := (by injection e323); replace p323 := eq_true p323; replace q323 := eq_true q323))
                  go_ret
                  exact ⟨by first | rfl | (simp; done) | (simp [*]; done), by repeat (first | exact Drawn0.refl _ | apply Drawn0.step)⟩
                · rw [if_neg c8] at H
                  have c8b0 : decide (((rd_T28 l0 x10_1).f1) < 0) = false := decide_eq_false c8
                  clear c8
                  by_cases c9 : ((rd_T28 l0 x10_1).f1) > 4
                  · rw [if_pos c9] at H
                    have c9b0 : decide (4 < ((rd_T28 l0 x10_1).f1)) = true := decide_eq_true c9
                    clear c9
                    obtain rfl := Option.some.inj H
                    have p321 : 0 ≤ (x10_1 : Int) := of_decide_eq_true (by first | (with_reducible assumption) | assumption)
                    have q321 : x10_1 < (l0.length : Int) := of_decide_eq_true (by first | (with_reducible assumption) | assumption)
                    obtain ⟨ad321, e321, hx321_0, hx321_1⟩ := at_T28 HR0.out x10_1 p321 q321
                    cases e321
                    replace p321 := eq_true p321
                    replace q321 := eq_true q321
                    go_wp2_with (first | ((with_reducible refine gate_callee (f := 51) rfl ?_); refine goesL_ (some 18) rfl rfl Try.func51 (by kernel_rfl) rfl #[.string ((rd_T28 l0 x10_1).f0)] rfl (by (try simp only [List.map_toArray, List.map_cons, List.map_nil]); first | done | rfl | (simp only [List.length_drop, List.length_take]; rfl)) ?_; (with_reducible refine (aumbryref03_Kind.calls k1 ((rd_T28 l0 x10_1).f0) t322 _ A6.out).mono ?_); rintro e w' ⟨rfl, ⟨nd, rfl⟩⟩; refine ⟨_, rfl, ?_⟩; have p323 : 0 ≤ (x10_1 : Int) := of_decide_eq_true (by first | (with_reducible assumption) | assumption); have q323 : x10_1 < (l0.length : Int) := of_decide_eq_true (by first | (with_reducible assumption) | assumption); obtain ⟨ad323, e323, hx323_0, hx323_1⟩ := at_T28 HR0.out x10_1 p323 q323; obtain rfl : ad321 = ad323 := (by injection e323); replace p323 := eq_true p323; replace q323 := eq_true q323; have p324 : 0 ≤ (x10_1 : Int) := of_decide_eq_true (by first | (with_reducible assumption) | assumption); have q324 : x10_1 < (l0.length : Int) := of_decide_eq_true (by first | (with_reducible assumption) | assumption); obtain ⟨ad324, e324, hx324_0, hx324_1⟩ := at_T28 HR0.out x10_1 p324 q324; obtain rfl : ad321 = ad324 := (by injection e324); replace p324 := eq_true p324; replace q324 := eq_true q324))
                    go_ret
                    exact ⟨by first | rfl | (simp; done) | (simp [*]; done), by repeat (first | exact Drawn0.refl _ | apply Drawn0.step)⟩
                  · rw [if_neg c9] at H
                    have c9b0 : decide (4 < ((rd_T28 l0 x10_1).f1)) = false := decide_eq_false c9
                    clear c9
                    by_cases c10 : t322 = 2
                    · rw [if_pos c10] at H
                      have c10b0 : (t322 == 2) = true := beq_iff_eq.mpr c10
                      have c10b1 : (t322 != 2) = false := bne_eq_false_iff_eq.mpr c10
                      clear c10
                      by_cases c11 : ((rd_T28 l0 x10_1).f1) = 0
                      · rw [if_pos c11] at H
                        have c11b0 : (((rd_T28 l0 x10_1).f1) == 0) = true := beq_iff_eq.mpr c11
                        have c11b1 : (((rd_T28 l0 x10_1).f1) != 0) = false := bne_eq_false_iff_eq.mpr c11
                        clear c11
                        have H' := Aside0.mk H
                        clear H
                        have p321 : 0 ≤ (x10_1 : Int) := of_decide_eq_true (by first | (with_reducible assumption) | assumption)
                        have q321 : x10_1 < (l0.length : Int) := of_decide_eq_true (by first | (with_reducible assumption) | assumption)
                        obtain ⟨ad321, e321, hx321_0, hx321_1⟩ := at_T28 HR0.out x10_1 p321 q321
                        cases e321
                        replace p321 := eq_true p321
                        replace q321 := eq_true q321
                        go_wp2_with (first | ((with_reducible refine gate_callee (f := 51) rfl ?_); refine goesL_ (some 18) rfl rfl Try.func51 (by kernel_rfl) rfl #[.string ((rd_T28 l0 x10_1).f0)] rfl (by (try simp only [List.map_toArray, List.map_cons, List.map_nil]); first | done | rfl | (simp only [List.length_drop, List.length_take]; rfl)) ?_; (with_reducible refine (aumbryref03_Kind.calls k1 ((rd_T28 l0 x10_1).f0) t322 _ A6.out).mono ?_); rintro e w' ⟨rfl, ⟨nd, rfl⟩⟩; refine ⟨_, rfl, ?_⟩; have p323 : 0 ≤ (x10_1 : Int) := of_decide_eq_true (by first | (with_reducible assumption) | assumption); have q323 : x10_1 < (l0.length : Int) := of_decide_eq_true (by first | (with_reducible assumption) | assumption); obtain ⟨ad323, e323, hx323_0, hx323_1⟩ := at_T28 HR0.out x10_1 p323 q323; obtain rfl : ad321 = ad323 := (by injection e323); replace p323 := eq_true p323; replace q323 := eq_true q323; have p324 : 0 ≤ (x10_1 : Int) := of_decide_eq_true (by first | (with_reducible assumption) | assumption); have q324 : x10_1 < (l0.length : Int) := of_decide_eq_true (by first | (with_reducible assumption) | assumption); obtain ⟨ad324, e324, hx324_0, hx324_1⟩ := at_T28 HR0.out x10_1 p324 q324; obtain rfl : ad321 = ad324 := (by injection e324); replace p324 := eq_true p324; replace q324 := eq_true q324; have p325 : 0 ≤ (x10_1 : Int) := of_decide_eq_true (by first | (with_reducible assumption) | assumption); have q325 : x10_1 < (l0.length : Int) := of_decide_eq_true (by first | (with_reducible assumption) | assumption); obtain ⟨ad325, e325, hx325_0, hx325_1⟩ := at_T28 HR0.out x10_1 p325 q325; obtain rfl : ad321 = ad325 := (by injection e325); replace p325 := eq_true p325; replace q325 := eq_true q325))
                        go_roundg k1
                        case measure => have := HK1.out; omega
                        case rel => exact ⟨(wrap64 (x10_1 + 1)), (by first | rfl | (simp; done) | (simp [*]; done)), H', ⟨by have := HK1.out; omega⟩, by repeat (first | exact Drawn0.refl _ | apply Drawn0.step)⟩
                      · rw [if_neg c11] at H
                        have c11b0 : (((rd_T28 l0 x10_1).f1) == 0) = false := beq_eq_false_iff_ne.mpr c11
                        have c11b1 : (((rd_T28 l0 x10_1).f1) != 0) = true := bne_iff_ne.mpr c11
                        obtain rfl := Option.some.inj H
                        have p321 : 0 ≤ (x10_1 : Int) := of_decide_eq_true (by first | (with_reducible assumption) | assumption)
                        have q321 : x10_1 < (l0.length : Int) := of_decide_eq_true (by first | (with_reducible assumption) | assumption)
                        obtain ⟨ad321, e321, hx321_0, hx321_1⟩ := at_T28 HR0.out x10_1 p321 q321
                        cases e321
                        replace p321 := eq_true p321
                        replace q321 := eq_true q321
                        go_wp2_with (first | ((with_reducible refine gate_callee (f := 51) rfl ?_); refine goesL_ (some 18) rfl rfl Try.func51 (by kernel_rfl) rfl #[.string ((rd_T28 l0 x10_1).f0)] rfl (by (try simp only [List.map_toArray, List.map_cons, List.map_nil]); first | done | rfl | (simp only [List.length_drop, List.length_take]; rfl)) ?_; (with_reducible refine (aumbryref03_Kind.calls k1 ((rd_T28 l0 x10_1).f0) t322 _ A6.out).mono ?_); rintro e w' ⟨rfl, ⟨nd, rfl⟩⟩; refine ⟨_, rfl, ?_⟩; have p323 : 0 ≤ (x10_1 : Int) := of_decide_eq_true (by first | (with_reducible assumption) | assumption); have q323 : x10_1 < (l0.length : Int) := of_decide_eq_true (by first | (with_reducible assumption) | assumption); obtain ⟨ad323, e323, hx323_0, hx323_1⟩ := at_T28 HR0.out x10_1 p323 q323; obtain rfl : ad321 = ad323 := (by injection e323); replace p323 := eq_true p323; replace q323 := eq_true q323; have p324 : 0 ≤ (x10_1 : Int) := of_decide_eq_true (by first | (with_reducible assumption) | assumption); have q324 : x10_1 < (l0.length : Int) := of_decide_eq_true (by first | (with_reducible assumption) | assumption); obtain ⟨ad324, e324, hx324_0, hx324_1⟩ := at_T28 HR0.out x10_1 p324 q324; obtain rfl : ad321 = ad324 := (by injection e324); replace p324 := eq_true p324; replace q324 := eq_true q324; have p325 : 0 ≤ (x10_1 : Int) := of_decide_eq_true (by first | (with_reducible assumption) | assumption); have q325 : x10_1 < (l0.length : Int) := of_decide_eq_true (by first | (with_reducible assumption) | assumption); obtain ⟨ad325, e325, hx325_0, hx325_1⟩ := at_T28 HR0.out x10_1 p325 q325; obtain rfl : ad321 = ad325 := (by injection e325); replace p325 := eq_true p325; replace q325 := eq_true q325))
                        go_ret
                        exact ⟨by first | rfl | (simp; done) | (simp [*]; done), by repeat (first | exact Drawn0.refl _ | apply Drawn0.step)⟩
                    · rw [if_neg c10] at H
                      have c10b0 : (t322 == 2) = false := beq_eq_false_iff_ne.mpr c10
                      have c10b1 : (t322 != 2) = true := bne_iff_ne.mpr c10
                      have H' := Aside0.mk H
                      clear H
                      have p321 : 0 ≤ (x10_1 : Int) := of_decide_eq_true (by first | (with_reducible assumption) | assumption)
                      have q321 : x10_1 < (l0.length : Int) := of_decide_eq_true (by first | (with_reducible assumption) | assumption)
                      obtain ⟨ad321, e321, hx321_0, hx321_1⟩ := at_T28 HR0.out x10_1 p321 q321
                      cases e321
                      replace p321 := eq_true p321
                      replace q321 := eq_true q321
                      go_wp2_with (first | ((with_reducible refine gate_callee (f := 51) rfl ?_); refine goesL_ (some 18) rfl rfl Try.func51 (by kernel_rfl) rfl #[.string ((rd_T28 l0 x10_1).f0)] rfl (by (try simp only [List.map_toArray, List.map_cons, List.map_nil]); first | done | rfl | (simp only [List.length_drop, List.length_take]; rfl)) ?_; (with_reducible refine (aumbryref03_Kind.calls k1 ((rd_T28 l0 x10_1).f0) t322 _ A6.out).mono ?_); rintro e w' ⟨rfl, ⟨nd, rfl⟩⟩; refine ⟨_, rfl, ?_⟩; have p323 : 0 ≤ (x10_1 : Int) := of_decide_eq_true (by first | (with_reducible assumption) | assumption); have q323 : x10_1 < (l0.length : Int) := of_decide_eq_true (by first | (with_reducible assumption) | assumption); obtain ⟨ad323, e323, hx323_0, hx323_1⟩ := at_T28 HR0.out x10_1 p323 q323; obtain rfl : ad321 = ad323 := (by injection e323); replace p323 := eq_true p323; replace q323 := eq_true q323; have p324 : 0 ≤ (x10_1 : Int) := of_decide_eq_true (by first | (with_reducible assumption) | assumption); have q324 : x10_1 < (l0.length : Int) := of_decide_eq_true (by first | (with_reducible assumption) | assumption); obtain ⟨ad324, e324, hx324_0, hx324_1⟩ := at_T28 HR0.out x10_1 p324 q324; obtain rfl : ad321 = ad324 := (by injection e324); replace p324 := eq_true p324; replace q324 := eq_true q324))
                      go_roundg k1
                      case measure => have := HK1.out; omega
                      case rel => exact ⟨(wrap64 (x10_1 + 1)), (by first | rfl | (simp; done) | (simp [*]; done)), H', ⟨by have := HK1.out; omega⟩, by repeat (first | exact Drawn0.refl _ | apply Drawn0.step)⟩
            · rw [if_neg c5] at H
              exact absurd H (by simp)
          · rw [if_neg c4] at H
            exact absurd H (by simp)
        · rw [if_neg c3] at H
          have c3b0 : decide (x10_1 < (l0.length : Int)) = false := decide_eq_false c3
          clear c3
          replace H := Option.bind_eq_some_iff.mp H
          obtain ⟨t320, A120, H⟩ := H
          replace H : (if t320 = (l0.length : Int) then (some 0) else (some 3)) = some r := H
          have A12 := Aside0.mk A120
          clear A120
          by_cases c13 : t320 = (l0.length : Int)
          · rw [if_pos c13] at H
            have c13b0 : (t320 == (l0.length : Int)) = true := beq_iff_eq.mpr c13
            have c13b1 : (t320 != (l0.length : Int)) = false := bne_eq_false_iff_eq.mpr c13
            clear c13
            obtain rfl := Option.some.inj H
            go_wp2_with (first | ((with_reducible refine gate_callee (f := 48) rfl ?_); refine goesL_ (some 49) rfl rfl Try.func48 (by kernel_rfl) rfl #[.slice A0 l0.length c0, .int .i64 0] rfl (by (try simp only [List.map_toArray, List.map_cons, List.map_nil]); first | done | rfl | (simp only [List.length_drop, List.length_take]; rfl)) ?_; (with_reducible refine (aumbryref04_Behind.calls k1 _ _ l0 0 t320 _ ?side1 ?side2 A12.out).mono ?_); (case side1 => repeat (first | exact HR0.out | (with_reducible refine Kd.C_alloc ?_ _) | (with_reducible refine Kd.C_drewN ?_ _) | (with_reducible refine Kd.C_drew ?_))); (case side2 => exact HC0.out); rintro e w' ⟨rfl, ⟨nd, rfl⟩⟩; refine ⟨_, rfl, ?_⟩))
            go_ret
            exact ⟨by first | rfl | (simp; done) | (simp [*]; done), by repeat (first | exact Drawn0.refl _ | apply Drawn0.step)⟩
          · rw [if_neg c13] at H
            have c13b0 : (t320 == (l0.length : Int)) = false := beq_eq_false_iff_ne.mpr c13
            have c13b1 : (t320 != (l0.length : Int)) = true := bne_iff_ne.mpr c13
            obtain rfl := Option.some.inj H
            go_wp2_with (first | ((with_reducible refine gate_callee (f := 48) rfl ?_); refine goesL_ (some 49) rfl rfl Try.func48 (by kernel_rfl) rfl #[.slice A0 l0.length c0, .int .i64 0] rfl (by (try simp only [List.map_toArray, List.map_cons, List.map_nil]); first | done | rfl | (simp only [List.length_drop, List.length_take]; rfl)) ?_; (with_reducible refine (aumbryref04_Behind.calls k1 _ _ l0 0 t320 _ ?side1 ?side2 A12.out).mono ?_); (case side1 => repeat (first | exact HR0.out | (with_reducible refine Kd.C_alloc ?_ _) | (with_reducible refine Kd.C_drewN ?_ _) | (with_reducible refine Kd.C_drew ?_))); (case side2 => exact HC0.out); rintro e w' ⟨rfl, ⟨nd, rfl⟩⟩; refine ⟨_, rfl, ?_⟩))
            go_ret
            exact ⟨by first | rfl | (simp; done) | (simp [*]; done), by repeat (first | exact Drawn0.refl _ | apply Drawn0.step)⟩

end Go.Proofs.Ytnkpcnnbeaomnaa.C
end
