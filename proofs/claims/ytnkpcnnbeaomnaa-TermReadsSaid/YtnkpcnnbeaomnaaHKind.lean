/- What kind of name a text is: the program's name.Kind and the reference's Kind come to the same plain answer, kindOf, at every text. -/
import Derived.Test.YtnkpcnnbeaomnaaC4
import Derived.Test.YtnkpcnnbeaomnaaC21
namespace Go.Proofs.Ytnkpcnnbeaomnaa.C
open Go.RowKit Go.Proofs.YtnkpcnnbeaomnaaW.PrintWords Go.Proofs.YtnkpcnnbeaomnaaW.PrintLast Go.Proofs.YtnkpcnnbeaomnaaW.PrintMore
set_option linter.unusedVariables false
set_option linter.unusedSimpArgs false

def lo (c : Int) : Bool := decide (97 ≤ c ∧ c ≤ 122)
def up (c : Int) : Bool := decide (65 ≤ c ∧ c ≤ 90)
def dg (c : Int) : Bool := decide (48 ≤ c ∧ c ≤ 57)
def sg (c : Int) : Int × Int := if lo c then (1, 1) else if up c then (2, 2) else if dg c then (0, 3) else (0, 0)
def smB (s : ByteArray) (i : Nat) : Bool := lo (bt s i) || (dg (bt s i) && decide (0 < i))
def grB (s : ByteArray) (i : Nat) : Bool := up (bt s i) || (dg (bt s i) && decide (0 < i))
def allR (p : Nat → Bool) : Nat → Nat → Bool
  | 0, _ => true
  | d + 1, i => p i && allR p d (i + 1)
def kindOf (s : ByteArray) : Int := if s.size = 0 ∨ 8 < s.size then 0 else if allR (smB s) s.size 0 then 1 else if allR (grB s) s.size 0 then 2 else 0

theorem allR_congr {p q : Nat → Bool} : ∀ d i, (∀ j, i ≤ j → j < i + d → p j = q j) → allR p d i = allR q d i
  | 0, _, _ => rfl
  | d + 1, i, h => by
    simp only [allR]
    rw [h i (Nat.le_refl _) (by omega), allR_congr d (i + 1) (fun j h1 h2 => h j (by omega) (by omega))]

theorem sign_ev (c : Int) : Ev (fun k => name_sign.f k c) (sg c) := by
  refine ⟨2, fun k hk => ?_⟩
  obtain ⟨m, rfl⟩ : ∃ m, k = m + 2 := ⟨k - 2, by omega⟩
  unfold name_sign.f
  simp only [name_sign.j0, name_sign.j1, sg, lo, up, dg]
  by_cases a1 : 97 ≤ c
  · by_cases a2 : c ≤ 122
    · simp [a1, a2]
    · have a3 : ¬ c ≤ 90 := by omega
      have a4 : 65 ≤ c := by omega
      have a5 : 48 ≤ c := by omega
      have a6 : ¬ c ≤ 57 := by omega
      simp [a1, a2, a3, a4, a5, a6]
  · by_cases a3 : 65 ≤ c
    · by_cases a4 : c ≤ 90
      · simp [a1, a3, a4]
      · have a5 : 48 ≤ c := by omega
        have a6 : ¬ c ≤ 57 := by omega
        simp [a1, a3, a4, a5, a6]
    · by_cases a5 : 48 ≤ c
      · by_cases a6 : c ≤ 57
        · simp [a1, a3, a5, a6]
        · simp [a1, a3, a5, a6]
      · simp [a1, a3, a5]

theorem bits_tab : Go.bits .and .i64 1 1 = 1 ∧ Go.bits .and .i64 1 2 = 0 ∧ Go.bits .and .i64 2 1 = 0 ∧ Go.bits .and .i64 2 2 = 2 ∧ Go.bits .and .i64 3 1 = 1 ∧ Go.bits .and .i64 3 2 = 2 ∧ Go.bits .and .i64 0 1 = 0 ∧ Go.bits .and .i64 0 2 = 0 ∧ Go.bits .and .i64 1 0 = 0 ∧ Go.bits .and .i64 2 0 = 0 ∧ Go.bits .and .i64 3 0 = 0 ∧ Go.bits .and .i64 0 0 = 0 := by
  refine ⟨?_, ?_, ?_, ?_, ?_, ?_, ?_, ?_, ?_, ?_, ?_, ?_⟩ <;> decide +kernel

def cp (k c : Int) : Bool := decide (Go.bits .and .i64 (sg c).2 k ≠ 0)
theorem cp1 (c : Int) : cp 1 c = (lo c || dg c) := by
  obtain ⟨b1, b2, b3, b4, b5, b6, b7, b8, b9, b10, b11, b12⟩ := bits_tab
  unfold cp sg
  by_cases h1 : lo c = true
  · simp [h1, b1]
  · by_cases h2 : up c = true
    · have : dg c = false := by simp [up, dg] at h2 ⊢; omega
      simp [h1, h2, this, b3]
    · by_cases h3 : dg c = true
      · simp [h1, h2, h3, b5]
      · simp [h1, h2, h3, b7]
theorem cp2 (c : Int) : cp 2 c = (up c || dg c) := by
  obtain ⟨b1, b2, b3, b4, b5, b6, b7, b8, b9, b10, b11, b12⟩ := bits_tab
  unfold cp sg
  by_cases h1 : lo c = true
  · have h2 : up c = false := by simp [up, lo] at h1 ⊢; omega
    have h3 : dg c = false := by simp [dg, lo] at h1 ⊢; omega
    simp [h1, h2, h3, b2]
  · by_cases h2 : up c = true
    · simp [h1, h2, b4]
    · by_cases h3 : dg c = true
      · simp [h1, h2, h3, b6]
      · simp [h1, h2, h3, b8]
theorem cp0 (c : Int) : cp 0 c = false := by
  obtain ⟨b1, b2, b3, b4, b5, b6, b7, b8, b9, b10, b11, b12⟩ := bits_tab
  unfold cp sg
  by_cases h1 : lo c = true
  · simp [h1, b9]
  · by_cases h2 : up c = true
    · simp [h1, h2, b10]
    · by_cases h3 : dg c = true
      · simp [h1, h2, h3, b11]
      · simp [h1, h2, h3, b12]

theorem kind_l0 (s : ByteArray) (kd : Int) (hs : s.size ≤ 4611686018427387904) : ∀ d i : Nat, i + d = s.size → Ev (fun k => name_Kind.l0 k s kd (s.size : Int) (i : Int)) (if allR (fun j => cp kd (bt s j)) d i then kd else 0)
  | 0, i, h => by
    refine Ev.step (f := fun _ => some kd) (fun k => ?_) (by simpa [allR] using Ev.now kd)
    simp only [name_Kind.l0]
    rw [if_neg (by omega)]
  | d + 1, i, h => by
    have ih := kind_l0 s kd hs d (i + 1) (by omega)
    have hw : wrap64 ((i : Int) + 1) = ((i + 1 : Nat) : Int) := by unfold wrap64; omega
    refine Ev.step (f := fun k => (name_sign.f k (bt s i)).bind fun bt104 => (if (Go.bits .and .i64 bt104.2 kd) = 0 then (some 0) else (name_Kind.l0 k s kd (s.size : Int) ((i + 1 : Nat) : Int)))) (fun k => ?_) ?_
    · simp only [name_Kind.l0]
      rw [if_pos (by omega), if_pos (by omega), if_pos (by omega), hw]
    · refine Ev.bind (sign_ev _) ?_
      by_cases hb : Go.bits .and .i64 (sg (bt s i)).2 kd = 0
      · simp only [hb, if_true]
        have : cp kd (bt s i) = false := by simp [cp, hb]
        simpa [allR, this] using Ev.now (0 : Int)
      · simp only [hb, if_false]
        have : cp kd (bt s i) = true := by simp [cp, hb]
        simpa only [allR, this, Bool.true_and] using ih

theorem allR_imp {p q : Nat → Bool} : ∀ d i, (∀ j, i ≤ j → j < i + d → p j = true → q j = true) → allR p d i = true → allR q d i = true
  | 0, _, _, _ => rfl
  | d + 1, i, h, hp => by
    simp only [allR, Bool.and_eq_true] at hp ⊢
    exact ⟨h i (Nat.le_refl _) (by omega) hp.1, allR_imp d (i + 1) (fun j h1 h2 => h j (by omega) (by omega)) hp.2⟩

theorem kind_first (s : ByteArray) (n : Nat) (hn : s.size = n + 1) : (if allR (fun j => cp (sg (bt s 0)).1 (bt s j)) s.size 0 then (sg (bt s 0)).1 else 0) = (if allR (smB s) s.size 0 then 1 else if allR (grB s) s.size 0 then 2 else 0) := by
  have hsm : allR (smB s) s.size 0 = (lo (bt s 0) && allR (fun j => cp 1 (bt s j)) n 1) := by
    rw [hn]
    simp only [allR]
    have h0 : smB s 0 = lo (bt s 0) := by simp [smB]
    rw [h0, allR_congr n 1 (q := fun j => cp 1 (bt s j)) (fun j h1 h2 => by simp only [cp1, smB]; simp [show 0 < j from h1])]
  have hgr : allR (grB s) s.size 0 = (up (bt s 0) && allR (fun j => cp 2 (bt s j)) n 1) := by
    rw [hn]
    simp only [allR]
    have h0 : grB s 0 = up (bt s 0) := by simp [grB]
    rw [h0, allR_congr n 1 (q := fun j => cp 2 (bt s j)) (fun j h1 h2 => by simp only [cp2, grB]; simp [show 0 < j from h1])]
  rw [hsm, hgr]
  by_cases h1 : lo (bt s 0) = true
  · have h2 : up (bt s 0) = false := by simp [up, lo] at h1 ⊢; omega
    have hsg : (sg (bt s 0)).1 = 1 := by simp [sg, h1]
    have : cp 1 (bt s (0 : Nat)) = true := by rw [cp1]; simp [h1]
    rw [hsg, hn, show allR (fun j => cp 1 (bt s j)) (n + 1) 0 = (cp 1 (bt s (0 : Nat)) && allR (fun j => cp 1 (bt s j)) n 1) from rfl, this]
    simp [h1, h2]
  · by_cases h2 : up (bt s 0) = true
    · have hsg : (sg (bt s 0)).1 = 2 := by simp [sg, h1, h2]
      have : cp 2 (bt s (0 : Nat)) = true := by rw [cp2]; simp [h2]
      rw [hsg, hn, show allR (fun j => cp 2 (bt s j)) (n + 1) 0 = (cp 2 (bt s (0 : Nat)) && allR (fun j => cp 2 (bt s j)) n 1) from rfl, this]
      simp [h1, h2]
    · have hsg : (sg (bt s 0)).1 = 0 := by unfold sg; simp [h1, h2]; split <;> rfl
      rw [hsg]
      simp [h1, h2]

theorem tl_len (s : ByteArray) : s.toList.length = s.size := by rw [ByteArray.toList_eq, data_length]
theorem kind_ev (s : ByteArray) : Ev (fun k => name_Kind.f k s) (kindOf s) := by
  have hj1 : Ev (fun k => name_Kind.j0 k s true) 0 := Ev.step (f := fun _ => some 0) (fun k => by simp only [name_Kind.j0, if_true]) (Ev.now 0)
  by_cases h0 : s.toList = ([] : List UInt8)
  · have hz : s.size = 0 := by
      have : s.toList.length = 0 := by rw [h0]; rfl
      rwa [tl_len] at this
    have : kindOf s = 0 := by simp [kindOf, hz]
    rw [this]
    exact Ev.congr (fun k => by unfold name_Kind.f; rw [if_pos h0]) hj1
  · have hz : s.size ≠ 0 := by
      intro hz
      apply h0
      apply List.eq_nil_of_length_eq_zero
      rw [tl_len]
      exact hz
    by_cases h8 : 8 < s.size
    · have : kindOf s = 0 := by simp [kindOf, h8]
      rw [this]
      refine Ev.congr (fun k => ?_) hj1
      unfold name_Kind.f
      rw [if_neg h0]
      rw [show decide ((s.size : Int) > 8) = true from decide_eq_true (by omega)]
    · obtain ⟨n, hn⟩ : ∃ n, s.size = n + 1 := ⟨s.size - 1, by omega⟩
      have hk : kindOf s = (if allR (fun j => cp (sg (bt s 0)).1 (bt s j)) s.size 0 then (sg (bt s 0)).1 else 0) := by
        rw [kind_first s n hn]
        unfold kindOf
        rw [if_neg (by omega)]
      rw [hk]
      refine Ev.congr (f := fun k => name_Kind.j0 k s false) (fun k => ?_) ?_
      · unfold name_Kind.f
        rw [if_neg h0]
        rw [show decide ((s.size : Int) > 8) = false from decide_eq_false (by omega)]
      · refine Ev.step (f := fun k => (name_sign.f k (bt s 0)).bind fun bt102 => name_Kind.l0 k s bt102.1 (s.size : Int) 0) (fun k => ?_) ?_
        · simp only [name_Kind.j0]
          rw [if_neg (by decide), if_pos (by omega)]
        · exact Ev.bind (sign_ev _) (kind_l0 s _ (by omega) s.size 0 (by omega))

theorem rkind_step (k : Nat) (s : ByteArray) (a b : Bool) (i : Nat) (hi : i < s.size) (hs : s.size ≤ 4611686018427387904) :
    aumbryref03_Kind.l0 (k + 1) s a b (i : Int) = aumbryref03_Kind.l0 k s (a && smB s i) (b && grB s i) ((i + 1 : Nat) : Int) := by
  have hw : wrap64 ((i : Int) + 1) = ((i + 1 : Nat) : Int) := by unfold wrap64; omega
  have hd : decide ((i : Int) > 0) = decide (0 < i) := by
    by_cases h : 0 < i
    · rw [decide_eq_true h, decide_eq_true (by omega)]
    · rw [decide_eq_false h, decide_eq_false (by omega)]
  simp only [aumbryref03_Kind.l0]
  rw [if_pos (by omega), if_pos (by omega), hw, hd]
  unfold smB grB lo up dg
  generalize bt s i = c
  generalize decide (0 < i) = z
  by_cases c1 : c ≥ 48
  · by_cases c2 : c ≤ 57
    · have e1 : ¬ c ≥ 97 := by omega
      have e2 : ¬ c ≥ 65 := by omega
      have e3 : ¬ 97 ≤ c := by omega
      have e4 : ¬ 65 ≤ c := by omega
      have e5 : 48 ≤ c := by omega
      cases a <;> cases b <;> simp [c1, c2, e1, e2, e3, e4, e5]
    · by_cases c3 : c ≥ 65
      · by_cases c4 : c ≤ 90
        · have e1 : ¬ c ≥ 97 := by omega
          have e3 : ¬ 97 ≤ c := by omega
          have e4 : 65 ≤ c := by omega
          have e5 : 48 ≤ c := by omega
          cases a <;> cases b <;> simp [c1, c2, c3, c4, e1, e3, e4, e5]
        · by_cases c5 : c ≥ 97
          · by_cases c6 : c ≤ 122
            · have e3 : 97 ≤ c := by omega
              have e4 : 65 ≤ c := by omega
              have e5 : 48 ≤ c := by omega
              cases a <;> cases b <;> simp [c1, c2, c3, c4, c5, c6, e3, e4, e5]
            · have e3 : 97 ≤ c := by omega
              have e4 : 65 ≤ c := by omega
              have e5 : 48 ≤ c := by omega
              cases a <;> cases b <;> simp [c1, c2, c3, c4, c5, c6, e3, e4, e5]
          · have e3 : ¬ 97 ≤ c := by omega
            have e4 : 65 ≤ c := by omega
            have e5 : 48 ≤ c := by omega
            cases a <;> cases b <;> simp [c1, c2, c3, c4, c5, e3, e4, e5]
      · have e1 : ¬ c ≥ 97 := by omega
        have e3 : ¬ 97 ≤ c := by omega
        have e4 : ¬ 65 ≤ c := by omega
        have e5 : 48 ≤ c := by omega
        cases a <;> cases b <;> simp [c1, c2, c3, e1, e3, e4, e5]
  · have e1 : ¬ c ≥ 97 := by omega
    have e2 : ¬ c ≥ 65 := by omega
    have e3 : ¬ 97 ≤ c := by omega
    have e4 : ¬ 65 ≤ c := by omega
    have e5 : ¬ 48 ≤ c := by omega
    cases a <;> cases b <;> simp [c1, e1, e2, e3, e4, e5]

theorem rkind_l0 (s : ByteArray) (hs : s.size ≤ 4611686018427387904) : ∀ (d i : Nat) (a b : Bool), i + d = s.size → Ev (fun k => aumbryref03_Kind.l0 k s a b (i : Int)) (if (a && allR (smB s) d i) then 1 else if (b && allR (grB s) d i) then 2 else 0)
  | 0, i, a, b, h => by
    refine Ev.step (f := fun _ => some (if (a && allR (smB s) 0 i) then 1 else if (b && allR (grB s) 0 i) then 2 else 0)) (fun k => ?_) (Ev.now _)
    simp only [aumbryref03_Kind.l0]
    rw [if_neg (by omega)]
    cases a <;> cases b <;> simp [allR]
  | d + 1, i, a, b, h => by
    have ih := rkind_l0 s hs d (i + 1) (a && smB s i) (b && grB s i) (by omega)
    refine Ev.step (f := fun k => aumbryref03_Kind.l0 k s (a && smB s i) (b && grB s i) ((i + 1 : Nat) : Int)) (fun k => rkind_step k s a b i (by omega) hs) ?_
    have e1 : (a && allR (smB s) (d + 1) i) = ((a && smB s i) && allR (smB s) d (i + 1)) := by simp only [allR, Bool.and_assoc]
    have e2 : (b && allR (grB s) (d + 1) i) = ((b && grB s i) && allR (grB s) d (i + 1)) := by simp only [allR, Bool.and_assoc]
    rw [e1, e2]
    exact ih

theorem rkind_ev (s : ByteArray) : Ev (fun k => aumbryref03_Kind.f k s) (kindOf s) := by
  have hj1 : Ev (fun k => aumbryref03_Kind.j0 k s true) 0 := Ev.step (f := fun _ => some 0) (fun k => by simp only [aumbryref03_Kind.j0, if_true]) (Ev.now 0)
  by_cases hz : s.size = 0
  · have : kindOf s = 0 := by simp [kindOf, hz]
    rw [this]
    exact Ev.congr (fun k => by unfold aumbryref03_Kind.f; rw [if_pos (by omega)]) hj1
  · by_cases h8 : 8 < s.size
    · have : kindOf s = 0 := by simp [kindOf, h8]
      rw [this]
      refine Ev.congr (fun k => ?_) hj1
      unfold aumbryref03_Kind.f
      rw [if_neg (by omega)]
      rw [show decide ((s.size : Int) > 8) = true from decide_eq_true (by omega)]
    · have hk : kindOf s = (if (true && allR (smB s) s.size 0) then 1 else if (true && allR (grB s) s.size 0) then 2 else 0) := by
        unfold kindOf
        rw [if_neg (by omega)]
        simp
      rw [hk]
      refine Ev.congr (f := fun k => aumbryref03_Kind.j0 k s false) (fun k => ?_) ?_
      · unfold aumbryref03_Kind.f
        rw [if_neg (by omega)]
        rw [show decide ((s.size : Int) > 8) = false from decide_eq_false (by omega)]
      · refine Ev.step (f := fun k => aumbryref03_Kind.l0 k s true true 0) (fun k => ?_) ?_
        · simp only [aumbryref03_Kind.j0]
          rw [if_neg (by decide)]
        · exact rkind_l0 s (by omega) s.size 0 true true (by omega)

theorem Ev.det {α : Type} {g : Nat → Option α} {a b : α} (h : Ev g a) (k : Ev g b) : a = b := by
  obtain ⟨K, h⟩ := h
  obtain ⟨K', k⟩ := k
  have h1 := h (max K K') (by omega)
  have h2 := k (max K K') (by omega)
  exact Option.some.inj (h1.symm.trans h2)
theorem kind_det {k : Nat} {s : ByteArray} {r : Int} (h : name_Kind.f k s = some r) : r = kindOf s := Ev.det (Ev.of (g := fun k => name_Kind.f k s) (name_Kind.mono s) h) (kind_ev s)
theorem kind_01 (s : ByteArray) : kindOf s = 0 ∨ kindOf s = 1 ∨ kindOf s = 2 := by
  unfold kindOf
  split
  · exact .inl rfl
  · split
    · exact .inr (.inl rfl)
    · split
      · exact .inr (.inr rfl)
      · exact .inl rfl

end Go.Proofs.Ytnkpcnnbeaomnaa.C
