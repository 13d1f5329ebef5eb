import Derived.Test.YtnkpcnnbeaomnaaDoorRR2
import Derived.Test.YtnkpcnnbeaomnaaDoorRR11
import Derived.Test.YtnkpcnnbeaomnaaDoorRR4
import Derived.Test.YtnkpcnnbeaomnaaDoorRR15
import Derived.Test.YtnkpcnnbeaomnaaDoorRR5
import Derived.Test.YtnkpcnnbeaomnaaDoorRR12
import Derived.Test.YtnkpcnnbeaomnaaDoorRR8
import Derived.Test.YtnkpcnnbeaomnaaDoorRR6

section
/- What kind of name a text is: the program's name.Kind and the reference's Kind come to the same plain answer, kindOf, at every text. -/
namespace Go.Proofs.YtnkpcnnbeaomnaaDoor.C
open Go.RowKit Go.Proofs.YtnkpcnnbeaomnaaDoorW.PrintWords Go.Proofs.YtnkpcnnbeaomnaaDoorW.PrintLast Go.Proofs.YtnkpcnnbeaomnaaDoorW.PrintMore
set_option linter.unusedVariables false
set_option linter.unusedSimpArgs false

def lo (c : Int) : Bool := decide (97 ≤ c ∧ c ≤ 122)
def up (c : Int) : Bool := decide (65 ≤ c ∧ c ≤ 90)
def dg (c : Int) : Bool := decide (48 ≤ c ∧ c ≤ 57)
def sg (c : Int) : Int × Int := if lo c then (1, 1) else if up c then (2, 2) else if dg c then (0, 3) else (0, 0)
def smB (s : ByteArray) (i : Nat) : Bool := lo (bt s i) || (dg (bt s i) && decide (0 < i))
def grB (s : ByteArray) (i : Nat) : Bool := up (bt s i) || (dg (bt s i) && decide (0 < i))
def allR (p : Nat → Bool) : Nat → Nat → Bool
  | 0, _ => true
  | d + 1, i => p i && allR p d (i + 1)
def kindOf (s : ByteArray) : Int := if s.size = 0 ∨ 8 < s.size then 0 else if allR (smB s) s.size 0 then 1 else if allR (grB s) s.size 0 then 2 else 0

theorem allR_congr {p q : Nat → Bool} : ∀ d i, (∀ j, i ≤ j → j < i + d → p j = q j) → allR p d i = allR q d i
  | 0, _, _ => rfl
  | d + 1, i, h => by
    simp only [allR]
    rw [h i (Nat.le_refl _) (by omega), allR_congr d (i + 1) (fun j h1 h2 => h j (by omega) (by omega))]

theorem sign_ev (c : Int) : Ev (fun k => name_sign.f k c) (sg c) := by
  refine ⟨2, fun k hk => ?_⟩
  obtain ⟨m, rfl⟩ : ∃ m, k = m + 2 := ⟨k - 2, by omega⟩
  unfold name_sign.f
  simp only [name_sign.j0, name_sign.j1, sg, lo, up, dg]
  by_cases a1 : 97 ≤ c
  · by_cases a2 : c ≤ 122
    · simp [a1, a2]
    · have a3 : ¬ c ≤ 90 := by omega
      have a4 : 65 ≤ c := by omega
      have a5 : 48 ≤ c := by omega
      have a6 : ¬ c ≤ 57 := by omega
      simp [a1, a2, a3, a4, a5, a6]
  · by_cases a3 : 65 ≤ c
    · by_cases a4 : c ≤ 90
      · simp [a1, a3, a4]
      · have a5 : 48 ≤ c := by omega
        have a6 : ¬ c ≤ 57 := by omega
        simp [a1, a3, a4, a5, a6]
    · by_cases a5 : 48 ≤ c
      · by_cases a6 : c ≤ 57
        · simp [a1, a3, a5, a6]
        · simp [a1, a3, a5, a6]
      · simp [a1, a3, a5]

theorem bits_tab : Go.bits .and .i64 1 1 = 1 ∧ Go.bits .and .i64 1 2 = 0 ∧ Go.bits .and .i64 2 1 = 0 ∧ Go.bits .and .i64 2 2 = 2 ∧ Go.bits .and .i64 3 1 = 1 ∧ Go.bits .and .i64 3 2 = 2 ∧ Go.bits .and .i64 0 1 = 0 ∧ Go.bits .and .i64 0 2 = 0 ∧ Go.bits .and .i64 1 0 = 0 ∧ Go.bits .and .i64 2 0 = 0 ∧ Go.bits .and .i64 3 0 = 0 ∧ Go.bits .and .i64 0 0 = 0 := by
  refine ⟨?_, ?_, ?_, ?_, ?_, ?_, ?_, ?_, ?_, ?_, ?_, ?_⟩ <;> decide +kernel

def cp (k c : Int) : Bool := decide (Go.bits .and .i64 (sg c).2 k ≠ 0)
theorem cp1 (c : Int) : cp 1 c = (lo c || dg c) := by
  obtain ⟨b1, b2, b3, b4, b5, b6, b7, b8, b9, b10, b11, b12⟩ := bits_tab
  unfold cp sg
  by_cases h1 : lo c = true
  · simp [h1, b1]
  · by_cases h2 : up c = true
    · have : dg c = false := by simp [up, dg] at h2 ⊢; omega
      simp [h1, h2, this, b3]
    · by_cases h3 : dg c = true
      · simp [h1, h2, h3, b5]
      · simp [h1, h2, h3, b7]
theorem cp2 (c : Int) : cp 2 c = (up c || dg c) := by
  obtain ⟨b1, b2, b3, b4, b5, b6, b7, b8, b9, b10, b11, b12⟩ := bits_tab
  unfold cp sg
  by_cases h1 : lo c = true
  · have h2 : up c = false := by simp [up, lo] at h1 ⊢; omega
    have h3 : dg c = false := by simp [dg, lo] at h1 ⊢; omega
    simp [h1, h2, h3, b2]
  · by_cases h2 : up c = true
    · simp [h1, h2, b4]
    · by_cases h3 : dg c = true
      · simp [h1, h2, h3, b6]
      · simp [h1, h2, h3, b8]

theorem kind_l0 (s : ByteArray) (kd : Int) (hs : s.size ≤ 4611686018427387904) : ∀ d i : Nat, i + d = s.size → Ev (fun k => name_Kind.l0 k s kd (s.size : Int) (i : Int)) (if allR (fun j => cp kd (bt s j)) d i then kd else 0)
  | 0, i, h => by
    refine Ev.step (f := fun _ => some kd) (fun k => ?_) (by simpa [allR] using Ev.now kd)
    simp only [name_Kind.l0]
    rw [if_neg (by omega)]
  | d + 1, i, h => by
    have ih := kind_l0 s kd hs d (i + 1) (by omega)
    have hw : wrap64 ((i : Int) + 1) = ((i + 1 : Nat) : Int) := by unfold wrap64; omega
    refine Ev.step (f := fun k => (name_sign.f k (bt s i)).bind fun bt104 => (if (Go.bits .and .i64 bt104.2 kd) = 0 then (some 0) else (name_Kind.l0 k s kd (s.size : Int) ((i + 1 : Nat) : Int)))) (fun k => ?_) ?_
    · simp only [name_Kind.l0]
      rw [if_pos (by omega), if_pos (by omega), if_pos (by omega), hw]
    · refine Ev.bind (sign_ev _) ?_
      by_cases hb : Go.bits .and .i64 (sg (bt s i)).2 kd = 0
      · simp only [hb, if_true]
        have : cp kd (bt s i) = false := by simp [cp, hb]
        simpa [allR, this] using Ev.now (0 : Int)
      · simp only [hb, if_false]
        have : cp kd (bt s i) = true := by simp [cp, hb]
        simpa only [allR, this, Bool.true_and] using ih


theorem kind_first (s : ByteArray) (n : Nat) (hn : s.size = n + 1) : (if allR (fun j => cp (sg (bt s 0)).1 (bt s j)) s.size 0 then (sg (bt s 0)).1 else 0) = (if allR (smB s) s.size 0 then 1 else if allR (grB s) s.size 0 then 2 else 0) := by
  have hsm : allR (smB s) s.size 0 = (lo (bt s 0) && allR (fun j => cp 1 (bt s j)) n 1) := by
    rw [hn]
    simp only [allR]
    have h0 : smB s 0 = lo (bt s 0) := by simp [smB]
    rw [h0, allR_congr n 1 (q := fun j => cp 1 (bt s j)) (fun j h1 h2 => by simp only [cp1, smB]; simp [show 0 < j from h1])]
  have hgr : allR (grB s) s.size 0 = (up (bt s 0) && allR (fun j => cp 2 (bt s j)) n 1) := by
    rw [hn]
    simp only [allR]
    have h0 : grB s 0 = up (bt s 0) := by simp [grB]
    rw [h0, allR_congr n 1 (q := fun j => cp 2 (bt s j)) (fun j h1 h2 => by simp only [cp2, grB]; simp [show 0 < j from h1])]
  rw [hsm, hgr]
  by_cases h1 : lo (bt s 0) = true
  · have h2 : up (bt s 0) = false := by simp [up, lo] at h1 ⊢; omega
    have hsg : (sg (bt s 0)).1 = 1 := by simp [sg, h1]
    have : cp 1 (bt s (0 : Nat)) = true := by rw [cp1]; simp [h1]
    rw [hsg, hn, show allR (fun j => cp 1 (bt s j)) (n + 1) 0 = (cp 1 (bt s (0 : Nat)) && allR (fun j => cp 1 (bt s j)) n 1) from rfl, this]
    simp [h1, h2]
  · by_cases h2 : up (bt s 0) = true
    · have hsg : (sg (bt s 0)).1 = 2 := by simp [sg, h1, h2]
      have : cp 2 (bt s (0 : Nat)) = true := by rw [cp2]; simp [h2]
      rw [hsg, hn, show allR (fun j => cp 2 (bt s j)) (n + 1) 0 = (cp 2 (bt s (0 : Nat)) && allR (fun j => cp 2 (bt s j)) n 1) from rfl, this]
      simp [h1, h2]
    · have hsg : (sg (bt s 0)).1 = 0 := by unfold sg; simp [h1, h2]; split <;> rfl
      rw [hsg]
      simp [h1, h2]

theorem tl_len (s : ByteArray) : s.toList.length = s.size := by rw [ByteArray.toList_eq, data_length]
theorem kind_ev (s : ByteArray) : Ev (fun k => name_Kind.f k s) (kindOf s) := by
  have hj1 : Ev (fun k => name_Kind.j0 k s true) 0 := Ev.step (f := fun _ => some 0) (fun k => by simp only [name_Kind.j0, if_true]) (Ev.now 0)
  by_cases h0 : s.toList = ([] : List UInt8)
  · have hz : s.size = 0 := by
      have : s.toList.length = 0 := by rw [h0]; rfl
      rwa [tl_len] at this
    have : kindOf s = 0 := by simp [kindOf, hz]
    rw [this]
    exact Ev.congr (fun k => by unfold name_Kind.f; rw [if_pos h0]) hj1
  · have hz : s.size ≠ 0 := by
      intro hz
      apply h0
      apply List.eq_nil_of_length_eq_zero
      rw [tl_len]
      exact hz
    by_cases h8 : 8 < s.size
    · have : kindOf s = 0 := by simp [kindOf, h8]
      rw [this]
      refine Ev.congr (fun k => ?_) hj1
      unfold name_Kind.f
      rw [if_neg h0]
      rw [show decide ((s.size : Int) > 8) = true from decide_eq_true (by omega)]
    · obtain ⟨n, hn⟩ : ∃ n, s.size = n + 1 := ⟨s.size - 1, by omega⟩
      have hk : kindOf s = (if allR (fun j => cp (sg (bt s 0)).1 (bt s j)) s.size 0 then (sg (bt s 0)).1 else 0) := by
        rw [kind_first s n hn]
        unfold kindOf
        rw [if_neg (by omega)]
      rw [hk]
      refine Ev.congr (f := fun k => name_Kind.j0 k s false) (fun k => ?_) ?_
      · unfold name_Kind.f
        rw [if_neg h0]
        rw [show decide ((s.size : Int) > 8) = false from decide_eq_false (by omega)]
      · refine Ev.step (f := fun k => (name_sign.f k (bt s 0)).bind fun bt102 => name_Kind.l0 k s bt102.1 (s.size : Int) 0) (fun k => ?_) ?_
        · simp only [name_Kind.j0]
          rw [if_neg (by decide), if_pos (by omega)]
        · exact Ev.bind (sign_ev _) (kind_l0 s _ (by omega) s.size 0 (by omega))

theorem rkind_step (k : Nat) (s : ByteArray) (a b : Bool) (i : Nat) (hi : i < s.size) (hs : s.size ≤ 4611686018427387904) :
    aumbryref03_Kind.l0 (k + 1) s a b (i : Int) = aumbryref03_Kind.l0 k s (a && smB s i) (b && grB s i) ((i + 1 : Nat) : Int) := by
  have hw : wrap64 ((i : Int) + 1) = ((i + 1 : Nat) : Int) := by unfold wrap64; omega
  have hd : decide ((i : Int) > 0) = decide (0 < i) := by
    by_cases h : 0 < i
    · rw [decide_eq_true h, decide_eq_true (by omega)]
    · rw [decide_eq_false h, decide_eq_false (by omega)]
  simp only [aumbryref03_Kind.l0]
  rw [if_pos (by omega), if_pos (by omega), hw, hd]
  unfold smB grB lo up dg
  generalize bt s i = c
  generalize decide (0 < i) = z
  by_cases c1 : c ≥ 48
  · by_cases c2 : c ≤ 57
    · have e1 : ¬ c ≥ 97 := by omega
      have e2 : ¬ c ≥ 65 := by omega
      have e3 : ¬ 97 ≤ c := by omega
      have e4 : ¬ 65 ≤ c := by omega
      have e5 : 48 ≤ c := by omega
      cases a <;> cases b <;> simp [c1, c2, e1, e2, e3, e4, e5]
    · by_cases c3 : c ≥ 65
      · by_cases c4 : c ≤ 90
        · have e1 : ¬ c ≥ 97 := by omega
          have e3 : ¬ 97 ≤ c := by omega
          have e4 : 65 ≤ c := by omega
          have e5 : 48 ≤ c := by omega
          cases a <;> cases b <;> simp [c1, c2, c3, c4, e1, e3, e4, e5]
        · by_cases c5 : c ≥ 97
          · by_cases c6 : c ≤ 122
            · have e3 : 97 ≤ c := by omega
              have e4 : 65 ≤ c := by omega
              have e5 : 48 ≤ c := by omega
              cases a <;> cases b <;> simp [c1, c2, c3, c4, c5, c6, e3, e4, e5]
            · have e3 : 97 ≤ c := by omega
              have e4 : 65 ≤ c := by omega
              have e5 : 48 ≤ c := by omega
              cases a <;> cases b <;> simp [c1, c2, c3, c4, c5, c6, e3, e4, e5]
          · have e3 : ¬ 97 ≤ c := by omega
            have e4 : 65 ≤ c := by omega
            have e5 : 48 ≤ c := by omega
            cases a <;> cases b <;> simp [c1, c2, c3, c4, c5, e3, e4, e5]
      · have e1 : ¬ c ≥ 97 := by omega
        have e3 : ¬ 97 ≤ c := by omega
        have e4 : ¬ 65 ≤ c := by omega
        have e5 : 48 ≤ c := by omega
        cases a <;> cases b <;> simp [c1, c2, c3, e1, e3, e4, e5]
  · have e1 : ¬ c ≥ 97 := by omega
    have e2 : ¬ c ≥ 65 := by omega
    have e3 : ¬ 97 ≤ c := by omega
    have e4 : ¬ 65 ≤ c := by omega
    have e5 : ¬ 48 ≤ c := by omega
    cases a <;> cases b <;> simp [c1, e1, e2, e3, e4, e5]

theorem rkind_l0 (s : ByteArray) (hs : s.size ≤ 4611686018427387904) : ∀ (d i : Nat) (a b : Bool), i + d = s.size → Ev (fun k => aumbryref03_Kind.l0 k s a b (i : Int)) (if (a && allR (smB s) d i) then 1 else if (b && allR (grB s) d i) then 2 else 0)
  | 0, i, a, b, h => by
    refine Ev.step (f := fun _ => some (if (a && allR (smB s) 0 i) then 1 else if (b && allR (grB s) 0 i) then 2 else 0)) (fun k => ?_) (Ev.now _)
    simp only [aumbryref03_Kind.l0]
    rw [if_neg (by omega)]
    cases a <;> cases b <;> simp [allR]
  | d + 1, i, a, b, h => by
    have ih := rkind_l0 s hs d (i + 1) (a && smB s i) (b && grB s i) (by omega)
    refine Ev.step (f := fun k => aumbryref03_Kind.l0 k s (a && smB s i) (b && grB s i) ((i + 1 : Nat) : Int)) (fun k => rkind_step k s a b i (by omega) hs) ?_
    have e1 : (a && allR (smB s) (d + 1) i) = ((a && smB s i) && allR (smB s) d (i + 1)) := by simp only [allR, Bool.and_assoc]
    have e2 : (b && allR (grB s) (d + 1) i) = ((b && grB s i) && allR (grB s) d (i + 1)) := by simp only [allR, Bool.and_assoc]
    rw [e1, e2]
    exact ih

theorem rkind_ev (s : ByteArray) : Ev (fun k => aumbryref03_Kind.f k s) (kindOf s) := by
  have hj1 : Ev (fun k => aumbryref03_Kind.j0 k s true) 0 := Ev.step (f := fun _ => some 0) (fun k => by simp only [aumbryref03_Kind.j0, if_true]) (Ev.now 0)
  by_cases hz : s.size = 0
  · have : kindOf s = 0 := by simp [kindOf, hz]
    rw [this]
    exact Ev.congr (fun k => by unfold aumbryref03_Kind.f; rw [if_pos (by omega)]) hj1
  · by_cases h8 : 8 < s.size
    · have : kindOf s = 0 := by simp [kindOf, h8]
      rw [this]
      refine Ev.congr (fun k => ?_) hj1
      unfold aumbryref03_Kind.f
      rw [if_neg (by omega)]
      rw [show decide ((s.size : Int) > 8) = true from decide_eq_true (by omega)]
    · have hk : kindOf s = (if (true && allR (smB s) s.size 0) then 1 else if (true && allR (grB s) s.size 0) then 2 else 0) := by
        unfold kindOf
        rw [if_neg (by omega)]
        simp
      rw [hk]
      refine Ev.congr (f := fun k => aumbryref03_Kind.j0 k s false) (fun k => ?_) ?_
      · unfold aumbryref03_Kind.f
        rw [if_neg (by omega)]
        rw [show decide ((s.size : Int) > 8) = false from decide_eq_false (by omega)]
      · refine Ev.step (f := fun k => aumbryref03_Kind.l0 k s true true 0) (fun k => ?_) ?_
        · simp only [aumbryref03_Kind.j0]
          rw [if_neg (by decide)]
        · exact rkind_l0 s (by omega) s.size 0 true true (by omega)


end Go.Proofs.YtnkpcnnbeaomnaaDoor.C
end

section
/- The program's reader and the reference's, held against each other: at every text and place both come to one answer. -/
namespace Go.Proofs.YtnkpcnnbeaomnaaDoor.C
open Go.RowKit Go.Proofs.YtnkpcnnbeaomnaaDoorW.PrintWords Go.Proofs.YtnkpcnnbeaomnaaDoorW.PrintLast Go.Proofs.YtnkpcnnbeaomnaaDoorW.PrintMore
set_option linter.unusedVariables false
set_option linter.unusedSimpArgs false

theorem Ev.succ {α : Type} {g : Nat → Option α} {r : α} (K : Nat) (h : ∀ k, K ≤ k → g (k + 1) = some r) : Ev g r :=
  ⟨K + 1, fun k hk => by obtain ⟨m, rfl⟩ : ∃ m, k = m + 1 := ⟨k - 1, by omega⟩; exact h m (by omega)⟩

theorem sign04 (c : Int) : aumbryref04_sign.f c = some (sgn c) := by
  unfold aumbryref04_sign.f sgn
  by_cases a1 : 97 ≤ c
  · by_cases a2 : c ≤ 122
    · simp [a1, a2]
    · have a3 : ¬ c ≤ 90 := by omega
      have a4 : 65 ≤ c := by omega
      have a5 : 48 ≤ c := by omega
      have a6 : ¬ c ≤ 57 := by omega
      simp [a1, a2, a3, a4, a5, a6]
  · by_cases a3 : 65 ≤ c
    · by_cases a4 : c ≤ 90
      · simp [a1, a3, a4]
      · have a5 : 48 ≤ c := by omega
        have a6 : ¬ c ≤ 57 := by omega
        simp [a1, a3, a4, a5, a6]
    · by_cases a5 : 48 ≤ c
      · by_cases a6 : c ≤ 57
        · simp [a1, a3, a5, a6]
        · simp [a1, a3, a5, a6]
      · simp [a1, a3, a5]


theorem scan_both (s : ByteArray) (hs : s.size ≤ 1024) : ∀ (d : Nat) (a : Int), 0 ≤ a → a + d = (s.size : Int) → ∃ b, a ≤ b ∧ b ≤ (s.size : Int) ∧ Ev (fun k => scan k s a) b ∧
    ∀ (x : Int) (out : List S33) (r : List S33 × Int × Int), Ev (fun k => aumbryref04_Read.j1 k s x out b) r → Ev (fun k => aumbryref04_Read.l0 k s x out a) r
  | 0, a, h0, hd => by
    refine ⟨a, Int.le_refl _, by omega, Ev.succ 0 (fun k _ => ?_), fun x out r h => Ev.step (f := fun k => aumbryref04_Read.j1 k s x out a) (fun k => ?_) h⟩
    · simp only [scan]; rw [if_neg (by omega)]
    · simp only [aumbryref04_Read.l0]; rw [if_neg (by omega)]
  | d + 1, a, h0, hd => by
    by_cases hg : sgn (bt s a) = true
    · obtain ⟨b, h1, h2, h3, h4⟩ := scan_both s hs d (a + 1) (by omega) (by omega)
      have hw : wrap64 (a + 1) = a + 1 := by unfold wrap64; omega
      refine ⟨b, by omega, h2, Ev.step (f := fun k => scan k s (a + 1)) (fun k => ?_) h3, fun x out r h => Ev.step (f := fun k => aumbryref04_Read.l0 k s x out (a + 1)) (fun k => ?_) (h4 x out r h)⟩
      · simp only [scan]; rw [if_pos (by omega), if_pos h0, if_pos hg, hw]
      · simp only [aumbryref04_Read.l0]; rw [if_pos (by omega), if_pos h0, sign04, hg, hw]; rfl
    · refine ⟨a, Int.le_refl _, by omega, Ev.succ 0 (fun k _ => ?_), fun x out r h => Ev.step (f := fun k => aumbryref04_Read.j1 k s x out a) (fun k => ?_) h⟩
      · simp only [scan]; rw [if_pos (by omega), if_pos h0, if_neg hg]
      · simp only [aumbryref04_Read.l0]; rw [if_pos (by omega), if_pos h0, sign04]; simp [hg]

def trR : PR → List S33 × Int × Int
  | .ok a out => (out, a, 0)
  | .bad x y => ([], x, y)
def goodR (s : ByteArray) (a : Int) (out : List S33) : PR → Prop
  | .ok a1 out1 => a < a1 ∧ a1 ≤ (s.size : Int) ∧ out.length ≤ out1.length ∧ out1.length ≤ 64
  | .bad x y => 0 ≤ x ∧ x ≤ (s.size : Int) ∧ y ≠ 0
def FP (s : ByteArray) (d : Nat) : Prop := ∀ (a : Int) (out : List S33), 0 ≤ a → a ≤ (s.size : Int) → (s.size : Int) - a ≤ d → out.length ≤ 64 →
  ∃ r, Ev (fun k => rdt.f k s a out) r ∧ Ev (fun k => aumbryref04_Read.f k s a out) (trR r) ∧ goodR s a out r
def LP (s : ByteArray) (d : Nat) : Prop := ∀ (a : Int) (out : List S33) (cell : Nat) (n : Int), 0 ≤ a → a < (s.size : Int) → (s.size : Int) - a ≤ d → cell < out.length → out.length ≤ 64 → 1 ≤ n → n ≤ 4 →
  ∃ r, Ev (fun k => rdt.l k s a out cell n) r ∧ Ev (fun k => aumbryref04_Read.l1 k s out a (cell : Int) n) (trR r) ∧ goodR s a out r

theorem word_nil (s : ByteArray) (a b : Int) (h0 : 0 ≤ a) (hab : a ≤ b) (hb : b ≤ (s.size : Int)) : (s.extract a.toNat b.toNat).toList = ([] : List UInt8) ↔ a = b := by
  have hsz : (s.extract a.toNat b.toNat).size = b.toNat - a.toNat := by rw [ByteArray.size_extract]; omega
  constructor
  · intro h
    have h1 : (s.extract a.toNat b.toNat).toList.length = 0 := by rw [h]; rfl
    rw [tl_len, hsz] at h1
    omega
  · intro h
    apply List.eq_nil_of_length_eq_zero
    rw [tl_len, hsz]
    omega

theorem f_step (s : ByteArray) (hs : s.size ≤ 1024) (d : Nat) (ih : ∀ e, e < d → LP s e) : FP s d := by
  intro a out h0 h1 hd hlen
  obtain ⟨b, hab, hb, hsc, hrd⟩ := scan_both s hs (s.size - a.toNat) a h0 (by omega)
  obtain ⟨wd, hwd⟩ : ∃ wd, s.extract a.toNat b.toNat = wd := ⟨_, rfl⟩
  have hnil := word_nil s a b h0 hab hb
  rw [hwd] at hnil
  have hk := kind_ev wd
  have hrk := rkind_ev wd
  obtain ⟨K1, hsc⟩ := hsc
  dsimp only at hsc
  obtain ⟨K2, hk⟩ := hk
  dsimp only at hk
  have hR : ∀ r, Ev (fun k => aumbryref04_Read.j1 k s a out b) r → Ev (fun k => aumbryref04_Read.f k s a out) r := fun r h => Ev.step (f := fun k => aumbryref04_Read.l0 k s a out a) (fun k => by simp only [aumbryref04_Read.f]) (hrd a out r h)
  by_cases c1 : a = b
  · have hn := hnil.2 c1
    refine ⟨.bad a 3, Ev.succ (max K1 K2) (fun k hkk => ?_), hR _ (Ev.succ 0 (fun k _ => ?_)), h0, h1, by decide⟩
    · simp only [rdt.f]
      rw [if_pos ⟨h0, h1⟩, hsc k (by omega), Option.bind_some, hwd, hk k (by omega), Option.bind_some, if_pos hn]
    · simp only [aumbryref04_Read.j1]
      rw [if_pos h0, if_pos hab, if_pos hb, hwd, if_pos hn]
      rfl
  have hn : ¬ wd.toList = ([] : List UInt8) := fun h => c1 (hnil.1 h)
  by_cases c2 : kindOf wd = 0
  · refine ⟨.bad a 4, Ev.succ (max K1 K2) (fun k hkk => ?_), hR _ ?_, h0, h1, by decide⟩
    · simp only [rdt.f]
      rw [if_pos ⟨h0, h1⟩, hsc k (by omega), Option.bind_some, hwd, hk k (by omega), Option.bind_some, if_neg hn, if_pos c2]
    · obtain ⟨K3, hrk⟩ := hrk
      dsimp only at hrk
      refine Ev.succ K3 (fun k hkk => ?_)
      simp only [aumbryref04_Read.j1]
      rw [if_pos h0, if_pos hab, if_pos hb, hwd, if_neg hn, hrk k hkk, Option.bind_some, if_pos c2]
      rfl
  by_cases c3 : out.length = 64
  · refine ⟨.bad a 6, Ev.succ (max K1 K2) (fun k hkk => ?_), hR _ ?_, h0, h1, by decide⟩
    · simp only [rdt.f]
      rw [if_pos ⟨h0, h1⟩, hsc k (by omega), Option.bind_some, hwd, hk k (by omega), Option.bind_some, if_neg hn, if_neg c2, if_pos c3]
    · obtain ⟨K3, hrk⟩ := hrk
      dsimp only at hrk
      refine Ev.succ K3 (fun k hkk => ?_)
      simp only [aumbryref04_Read.j1]
      rw [if_pos h0, if_pos hab, if_pos hb, hwd, if_neg hn, hrk k hkk, Option.bind_some, if_neg c2, if_pos (by omega)]
      rfl
  have hR2 : ∀ r, Ev (fun k => aumbryref04_Read.j2 k s (out ++ [(⟨wd, 0⟩ : S33)]) b (kindOf wd) (out.length : Int) (decide (nxt s b ≠ 40))) r → Ev (fun k => aumbryref04_Read.f k s a out) r := by
    intro r h
    refine hR r ?_
    obtain ⟨K3, hrk⟩ := hrk
    dsimp only at hrk
    obtain ⟨K4, h⟩ := h
    dsimp only at h
    refine Ev.succ (max K3 K4) (fun k hkk => ?_)
    simp only [aumbryref04_Read.j1]
    rw [if_pos h0, if_pos hab, if_pos hb, hwd, if_neg hn, hrk k (by omega), Option.bind_some, if_neg c2, if_neg (by omega), if_pos (by omega), Option.bind_some]
    by_cases hbs : b = (s.size : Int)
    · rw [if_pos hbs]
      have : decide (nxt s b ≠ 40) = true := by rw [nxt, if_neg (by omega)]; decide
      rw [this] at h
      exact h k (by omega)
    · rw [if_neg hbs, if_pos (by omega), if_pos (by omega)]
      have : decide (nxt s b ≠ 40) = (bt s b != 40) := by
        rw [nxt, if_pos (by omega)]
        by_cases h40 : bt s b = 40 <;> simp [h40]
      rw [this] at h
      exact h k (by omega)
  by_cases c4 : nxt s b = 40
  · have hlt : b < (s.size : Int) := by
      rcases Int.lt_or_le b s.size with h' | h'
      · exact h'
      · rw [nxt, if_neg (by omega)] at c4
        exact absurd c4 (by decide)
    by_cases c5 : kindOf wd = 2
    · refine ⟨.bad b 5, Ev.succ (max K1 K2) (fun k hkk => ?_), hR2 _ (Ev.succ 0 (fun k _ => ?_)), by omega, hb, by decide⟩
      · simp only [rdt.f]
        rw [if_pos ⟨h0, h1⟩, hsc k (by omega), Option.bind_some, hwd, hk k (by omega), Option.bind_some, if_neg hn, if_neg c2, if_neg c3, if_pos (by omega), if_pos c4, if_pos c5]
      · simp only [aumbryref04_Read.j2]
        rw [if_neg (by simp [c4]), if_pos c5]
        rfl
    · obtain ⟨r, hr1, hr2, hg⟩ := ih (s.size - b.toNat) (by omega) b (out ++ [(⟨wd, 0⟩ : S33)]) out.length 1 (by omega) hlt (by omega) (by simp) (by simp; omega) (by omega) (by omega)
      obtain ⟨K5, hr1⟩ := hr1
      dsimp only at hr1
      refine ⟨r, Ev.succ (max (max K1 K2) K5) (fun k hkk => ?_), hR2 _ (Ev.step (f := fun k => aumbryref04_Read.l1 k s (out ++ [(⟨wd, 0⟩ : S33)]) b (out.length : Int) 1) (fun k => ?_) hr2), ?_⟩
      · simp only [rdt.f]
        rw [if_pos ⟨h0, h1⟩, hsc k (by omega), Option.bind_some, hwd, hk k (by omega), Option.bind_some, if_neg hn, if_neg c2, if_neg c3, if_pos (by omega), if_pos c4, if_neg c5]
        exact hr1 k (by omega)
      · simp only [aumbryref04_Read.j2]
        rw [if_neg (by simp [c4]), if_neg c5]
      · cases r with
        | ok x y => simp only [goodR, List.length_append, List.length_singleton] at hg ⊢; omega
        | bad x y => exact hg
  · refine ⟨.ok b (out ++ [(⟨wd, 0⟩ : S33)]), Ev.succ (max K1 K2) (fun k hkk => ?_), hR2 _ (Ev.succ 0 (fun k _ => ?_)), by omega, hb, by simp, by simp; omega⟩
    · simp only [rdt.f]
      rw [if_pos ⟨h0, h1⟩, hsc k (by omega), Option.bind_some, hwd, hk k (by omega), Option.bind_some, if_neg hn, if_neg c2, if_neg c3, if_pos (by omega), if_neg c4]
    · simp only [aumbryref04_Read.j2]
      rw [if_pos (by simp [c4])]
      rfl

theorem l_step (s : ByteArray) (hs : s.size ≤ 1024) (d : Nat) (ihf : ∀ e, e < d → FP s e) (ihl : ∀ e, e < d → LP s e) : LP s d := by
  intro a out cell n h0 h1 hd hc hlen hn1 hn4
  have hw : wrap64 (a + 1) = a + 1 := by unfold wrap64; omega
  obtain ⟨x, hx1, hx2, hg⟩ := ihf (s.size - (a + 1).toNat) (by omega) (a + 1) out (by omega) (by omega) (by omega) hlen
  obtain ⟨K1, hx1⟩ := hx1
  dsimp only at hx1
  obtain ⟨K2, hx2⟩ := hx2
  dsimp only at hx2
  cases x with
  | bad x y =>
    obtain ⟨g1, g2, g3⟩ := hg
    refine ⟨.bad x y, Ev.succ K1 (fun k hkk => ?_), Ev.succ K2 (fun k hkk => ?_), g1, g2, g3⟩
    · simp only [rdt.l]
      rw [hw, hx1 k hkk]
      rfl
    · simp only [aumbryref04_Read.l1]
      rw [hw, hx2 k hkk]
      simp only [trR, Option.bind_some]
      rw [if_neg g3]
  | ok a1 out1 =>
    obtain ⟨g1, g2, g3, g4⟩ := hg
    have hcell : cell < out1.length := by omega
    obtain ⟨o2, ho2⟩ : ∃ o2, out1.set cell ⟨(rd_T33 out1 cell).f0, n⟩ = o2 := ⟨_, rfl⟩
    have ho2l : o2.length = out1.length := by rw [← ho2]; simp
    have hR : ∀ r, Ev (fun k => aumbryref04_Read.j4 k s o2 a1 (cell : Int) n (nxt s a1 == 41)) r → Ev (fun k => aumbryref04_Read.l1 k s out a (cell : Int) n) r := by
      intro r h
      obtain ⟨K3, h⟩ := h
      dsimp only at h
      refine Ev.succ (max K2 K3) (fun k hkk => ?_)
      simp only [aumbryref04_Read.l1]
      rw [hw, hx2 k (by omega)]
      simp only [trR, Option.bind_some]
      rw [if_pos trivial, if_pos (by omega), if_pos (by omega), show ((cell : Int)).toNat = cell from Int.toNat_natCast cell, ho2]
      by_cases hlt : a1 < (s.size : Int)
      · rw [if_pos hlt, if_pos (by omega)]
        have := h k (by omega)
        rwa [nxt, if_pos hlt] at this
      · rw [if_neg hlt]
        have := h k (by omega)
        rwa [nxt, if_neg hlt] at this
    by_cases c1 : nxt s a1 = 41
    · have hlt : a1 < (s.size : Int) := by
        rcases Int.lt_or_le a1 s.size with h' | h'
        · exact h'
        · rw [nxt, if_neg (by omega)] at c1
          exact absurd c1 (by decide)
      have hw1 : wrap64 (a1 + 1) = a1 + 1 := by unfold wrap64; omega
      refine ⟨.ok (a1 + 1) o2, Ev.succ K1 (fun k hkk => ?_), hR _ (Ev.succ 0 (fun k _ => ?_)), by omega, by omega, by omega, by omega⟩
      · simp only [rdt.l]
        rw [hw, hx1 k hkk]
        simp only [Option.bind_some]
        rw [if_pos (by omega), if_pos hcell, if_pos c1, hw1, ho2]
      · simp only [aumbryref04_Read.j4]
        rw [if_pos (by simp [c1]), hw1]
        rfl
    · have hR5 : ∀ r, Ev (fun k => aumbryref04_Read.j5 k s o2 a1 (cell : Int) n (nxt s a1 != 44)) r → Ev (fun k => aumbryref04_Read.l1 k s out a (cell : Int) n) r := by
        intro r h
        refine hR r ?_
        obtain ⟨K3, h⟩ := h
        dsimp only at h
        refine Ev.succ K3 (fun k hkk => ?_)
        simp only [aumbryref04_Read.j4]
        rw [if_neg (by simp [c1])]
        by_cases hlt : a1 < (s.size : Int)
        · rw [if_neg (by omega), if_pos (by omega), if_pos hlt]
          have := h k hkk
          rwa [nxt, if_pos hlt] at this
        · rw [if_pos (by omega)]
          have := h k hkk
          rwa [nxt, if_neg hlt] at this
      by_cases c2 : nxt s a1 = 44
      · have hlt : a1 < (s.size : Int) := by
          rcases Int.lt_or_le a1 s.size with h' | h'
          · exact h'
          · rw [nxt, if_neg (by omega)] at c2
            exact absurd c2 (by decide)
        by_cases c3 : n = 4
        · refine ⟨.bad a1 5, Ev.succ K1 (fun k hkk => ?_), hR5 _ (Ev.succ 0 (fun k _ => ?_)), by omega, by omega, by decide⟩
          · simp only [rdt.l]
            rw [hw, hx1 k hkk]
            simp only [Option.bind_some]
            rw [if_pos (by omega), if_pos hcell, if_neg c1, if_pos c2, if_pos c3]
          · simp only [aumbryref04_Read.j5]
            rw [if_neg (by simp [c2]), if_pos c3]
            rfl
        · have hwn : wrap64 (n + 1) = n + 1 := by unfold wrap64; omega
          obtain ⟨r, hr1, hr2, hg⟩ := ihl (s.size - a1.toNat) (by omega) a1 o2 cell (n + 1) (by omega) hlt (by omega) (by omega) (by omega) (by omega) (by omega)
          obtain ⟨K5, hr1⟩ := hr1
          dsimp only at hr1
          refine ⟨r, Ev.succ (max K1 K5) (fun k hkk => ?_), hR5 _ (Ev.step (f := fun k => aumbryref04_Read.l1 k s o2 a1 (cell : Int) (n + 1)) (fun k => ?_) hr2), ?_⟩
          · simp only [rdt.l]
            rw [hw, hx1 k (by omega)]
            simp only [Option.bind_some]
            rw [if_pos (by omega), if_pos hcell, if_neg c1, if_pos c2, if_neg c3, hwn, ho2]
            exact hr1 k (by omega)
          · simp only [aumbryref04_Read.j5]
            rw [if_neg (by simp [c2]), if_neg c3, hwn]
          · cases r with
            | ok x y => simp only [goodR] at hg ⊢; omega
            | bad x y => exact hg
      · refine ⟨.bad a1 3, Ev.succ K1 (fun k hkk => ?_), hR5 _ (Ev.succ 0 (fun k _ => ?_)), by omega, by omega, by decide⟩
        · simp only [rdt.l]
          rw [hw, hx1 k hkk]
          simp only [Option.bind_some]
          rw [if_pos (by omega), if_pos hcell, if_neg c1, if_neg c2]
        · simp only [aumbryref04_Read.j5]
          rw [if_pos (by simp [c2])]
          rfl

theorem reads_all (s : ByteArray) (hs : s.size ≤ 1024) : ∀ d, FP s d ∧ LP s d := by
  intro d
  induction d using Nat.strongRecOn with
  | _ d ih => exact ⟨f_step s hs d (fun e he => (ih e he).2), l_step s hs d (fun e he => (ih e he).1) (fun e he => (ih e he).2)⟩

/-- At every text: both parsers come to one answer; what is read has at most 64 cells. -/
theorem parse_both (s : ByteArray) : ∃ (t : List S33) (a e : Int), Ev (fun k => term_Parse.f k s) (t, a, e) ∧ Ev (fun k => aumbryref04_Parse.f k s) (t, a, e) ∧ t.length ≤ 64 := by
  by_cases hs : (s.size : Int) > 1024
  · refine ⟨[], 0, 2, Ev.congr (f := fun _ => some ([], 0, 2)) (fun k => ?_) (Ev.now _), Ev.congr (f := fun _ => some ([], 0, 2)) (fun k => ?_) (Ev.now _), by simp⟩
    · unfold term_Parse.f; rw [if_pos hs]
    · unfold aumbryref04_Parse.f; rw [if_pos hs]
  · obtain ⟨r, h1, h2, hg⟩ := (reads_all s (by omega) s.size).1 0 [] (by omega) (by omega) (by omega) (by simp)
    obtain ⟨K1, h1⟩ := h1
    obtain ⟨K2, h2⟩ := h2
    dsimp only at h1 h2
    have hj : ∀ (t : List S33) (x y : Int) (z : Bool) (r : List S33 × Int × Int), Ev (fun k => aumbryref04_Parse.j0 k t x y z) r → Ev (fun k => aumbryref04_Parse.j0 k t x y z) r := fun _ _ _ _ _ h => h
    cases r with
    | bad x y =>
      obtain ⟨g1, g2, g3⟩ := hg
      refine ⟨[], x, y, ⟨K1, fun k hk => ?_⟩, ⟨K2 + 1, fun k hk => ?_⟩, by simp⟩
      · dsimp only
        unfold term_Parse.f
        rw [if_neg hs, h1 k hk]
        rfl
      · obtain ⟨m, rfl⟩ : ∃ m, k = m + 1 := ⟨k - 1, by omega⟩
        dsimp only
        unfold aumbryref04_Parse.f
        rw [if_neg hs, h2 _ (by omega)]
        simp only [trR, Option.bind_some]
        rw [if_neg g3]
        simp only [aumbryref04_Parse.j0]
        rw [if_neg (by decide), if_neg g3]
    | ok x out =>
      obtain ⟨g1, g2, g3, g4⟩ := hg
      by_cases hx : x < (s.size : Int)
      · refine ⟨[], x, 3, ⟨K1, fun k hk => ?_⟩, ⟨K2 + 1, fun k hk => ?_⟩, by simp⟩
        · dsimp only
          unfold term_Parse.f
          rw [if_neg hs, h1 k hk]
          simp only [Option.bind_some]
          rw [if_pos hx]
        · obtain ⟨m, rfl⟩ : ∃ m, k = m + 1 := ⟨k - 1, by omega⟩
          dsimp only
          unfold aumbryref04_Parse.f
          rw [if_neg hs, h2 _ (by omega)]
          simp only [trR, Option.bind_some]
          rw [if_pos trivial]
          simp only [aumbryref04_Parse.j0]
          rw [if_pos (decide_eq_true hx)]
      · refine ⟨out, 0, 0, ⟨K1, fun k hk => ?_⟩, ⟨K2 + 1, fun k hk => ?_⟩, g4⟩
        · dsimp only
          unfold term_Parse.f
          rw [if_neg hs, h1 k hk]
          simp only [Option.bind_some]
          rw [if_neg hx]
          unfold clone_Term.f
          rw [if_pos (by omega)]
          rfl
        · obtain ⟨m, rfl⟩ : ∃ m, k = m + 1 := ⟨k - 1, by omega⟩
          dsimp only
          unfold aumbryref04_Parse.f
          rw [if_neg hs, h2 _ (by omega)]
          simp only [trR, Option.bind_some]
          rw [if_pos trivial]
          simp only [aumbryref04_Parse.j0]
          rw [if_neg (by simp; omega), if_pos trivial]


end Go.Proofs.YtnkpcnnbeaomnaaDoor.C
end

section
/- Whether a list of cells is a term: the program's Check and the reference's come to the same plain answer, chk, at every list. -/
namespace Go.Proofs.YtnkpcnnbeaomnaaDoor.C
open Go.RowKit Go.Proofs.YtnkpcnnbeaomnaaDoorW.PrintWords Go.Proofs.YtnkpcnnbeaomnaaDoorW.PrintLast Go.Proofs.YtnkpcnnbeaomnaaDoorW.PrintMore
set_option linter.unusedVariables false
set_option linter.unusedSimpArgs false

theorem Ev.nxt {α : Type} {g : Nat → Option α} {r : α} (K : Nat) (h : ∀ k, K ≤ k → g (k + 1) = some r) : Ev g r :=
  ⟨K + 1, fun k hk => by obtain ⟨m, rfl⟩ : ∃ m, k = m + 1 := ⟨k - 1, by omega⟩; exact h m (by omega)⟩

def cellErr (c : S33) : Int := if kindOf c.f0 = 0 then 4 else if c.f1 < 0 then 5 else if c.f1 > 4 then 5 else if kindOf c.f0 = 2 ∧ c.f1 > 0 then 5 else 0
def firstErr : List S33 → Int
  | [] => 0
  | c :: r => if cellErr c = 0 then firstErr r else cellErr c
/-- What stands behind n terms at a list's head. -/
def skip : Nat → List S33 → Option (List S33)
  | 0, l => some l
  | _ + 1, [] => none
  | n + 1, c :: r => skip (n + c.f1.toNat) r
def endOf (t : List S33) (n : Nat) (l : List S33) : Int := match skip n l with
  | some r => (t.length : Int) - r.length
  | none => -1
def chk (t : List S33) : Int := if t.length > 64 then 6 else if firstErr t = 0 then (match skip 1 t with | some [] => 0 | _ => 3) else firstErr t

theorem cell_ev (c : S33) : Ev (fun k => term_cell.f k c.f0 c.f1) (cellErr c) := by
  obtain ⟨K, h⟩ := kind_ev c.f0
  refine ⟨K, fun k hk => ?_⟩
  have h1 := h k hk
  dsimp only at h1 ⊢
  unfold term_cell.f cellErr
  rw [h1, Option.bind_some]
  by_cases c1 : kindOf c.f0 = 0
  · rw [if_pos c1, if_pos c1]
  · rw [if_neg c1, if_neg c1]
    by_cases c2 : c.f1 < 0
    · rw [if_pos c2, if_pos c2]
    · rw [if_neg c2, if_neg c2]
      by_cases c3 : c.f1 > 4
      · rw [if_pos c3, if_pos c3]
      · rw [if_neg c3, if_neg c3]
        by_cases c4 : kindOf c.f0 = 2
        · by_cases c5 : c.f1 > 0
          · rw [if_pos c4, if_pos c5, if_pos ⟨c4, c5⟩]
          · rw [if_pos c4, if_neg c5, if_neg (fun h => c5 h.2)]
        · rw [if_neg c4, if_neg (fun h => c4 h.1)]

theorem drop_rd (t : List S33) (i : Nat) (h : i < t.length) : t.drop i = rd_T33 t i :: t.drop (i + 1) := by
  rw [List.drop_eq_getElem_cons h]
  simp [rd_T33, List.getD_eq_getElem?_getD, List.getElem?_eq_getElem h]
theorem drop_end (t : List S33) (i : Nat) (h : t.length ≤ i) : t.drop i = [] := List.drop_eq_nil_of_le h

/-- All cells' numbers of arguments are from 0 to 4. -/
def tame (t : List S33) : Prop := ∀ c ∈ t, 0 ≤ c.f1 ∧ c.f1 ≤ 4
theorem tame_rd {t : List S33} (h : tame t) (i : Nat) (hi : i < t.length) : 0 ≤ (rd_T33 t i).f1 ∧ (rd_T33 t i).f1 ≤ 4 := by
  have : rd_T33 t i = t[i] := by simp [rd_T33, List.getD_eq_getElem?_getD, List.getElem?_eq_getElem hi]
  rw [this]
  exact h _ (List.getElem_mem hi)
theorem tame_of_first : ∀ (t : List S33), firstErr t = 0 → tame t
  | [], _ => fun _ h => by cases h
  | c :: r, h => by
    simp only [firstErr] at h
    split at h
    · rename_i hc
      intro x hx
      rcases List.mem_cons.1 hx with rfl | hx
      · unfold cellErr at hc
        split at hc
        · exact absurd hc (by decide)
        · split at hc
          · exact absurd hc (by decide)
          · split at hc
            · exact absurd hc (by decide)
            · omega
      · exact tame_of_first r h x hx
    · rename_i hc; exact absurd h hc

theorem behind_l0 (t : List S33) (ht : tame t) (hl : t.length ≤ 1000000) : ∀ (d i n : Nat), i + d = t.length → n ≤ 4 * i + 1 → Ev (fun k => term_behind.l0 k t (i : Int) (n : Int)) (endOf t n (t.drop i))
  | d, i, 0, h, hn => by
    refine Ev.nxt 0 (fun k _ => ?_)
    simp only [term_behind.l0]
    rw [if_neg (by omega)]
    simp only [endOf, skip, List.length_drop]
    congr 1
    omega
  | 0, i, n + 1, h, hn => by
    refine Ev.nxt 0 (fun k _ => ?_)
    simp only [term_behind.l0]
    rw [if_pos (by omega), if_pos (by omega), drop_end t i (by omega)]
    rfl
  | d + 1, i, n + 1, h, hn => by
    obtain ⟨h0, h4⟩ := tame_rd ht i (by omega)
    have hw : wrap64 ((i : Int) + 1) = ((i + 1 : Nat) : Int) := by unfold wrap64; omega
    have hw2 : wrap64 (((n + 1 : Nat) : Int) + (wrap64 (((rd_T33 t i).f1) - 1))) = ((n + (rd_T33 t i).f1.toNat : Nat) : Int) := by unfold wrap64; omega
    have ih := behind_l0 t ht hl d (i + 1) (n + (rd_T33 t i).f1.toNat) (by omega) (by omega)
    refine Ev.step (f := fun k => term_behind.l0 k t ((i + 1 : Nat) : Int) ((n + (rd_T33 t i).f1.toNat : Nat) : Int)) (fun k => ?_) ?_
    · simp only [term_behind.l0]
      rw [if_pos (by omega), if_neg (by omega), if_pos (by omega), if_pos (by omega), hw, hw2]
    · rw [drop_rd t i (by omega)]
      exact ih

theorem behind_ev (t : List S33) (ht : tame t) (hl : t.length ≤ 1000000) (i : Nat) (hi : i ≤ t.length) : Ev (fun k => term_behind.f k t (i : Int)) (endOf t 1 (t.drop i)) :=
  behind_l0 t ht hl (t.length - i) i 1 (by omega) (by omega)

theorem check_l0 (t : List S33) (hl : t.length ≤ 64) : ∀ (d i : Nat), i + d = t.length → firstErr (t.take i) = 0 → Ev (fun k => term_Check.l0 k t t (t.length : Int) (i : Int)) (if firstErr (t.drop i) = 0 then (match skip 1 t with | some [] => 0 | _ => 3) else firstErr (t.drop i))
  | 0, i, h, hf => by
    have hi : i = t.length := by omega
    subst hi
    rw [List.take_length] at hf
    have ht := tame_of_first t hf
    refine Ev.step (f := fun k => (term_behind.f k t 0).bind fun t111 => (if t111 = (t.length : Int) then (some 0) else (some 3))) (fun k => ?_) ?_
    · simp only [term_Check.l0]
      rw [if_neg (by omega)]
    · refine Ev.bind (a := endOf t 1 t) (by simpa using behind_ev t ht (by omega) 0 (by omega)) ?_
      rw [List.drop_length]
      simp only [firstErr, if_true]
      unfold endOf
      cases hs : skip 1 t with
      | none => simpa [hs] using (show Ev (fun n : Nat => if (-1 : Int) = (t.length : Int) then some (0 : Int) else some 3) 3 from by rw [if_neg (by omega)]; exact Ev.now 3)
      | some r =>
        cases r with
        | nil => simpa using Ev.now (0 : Int)
        | cons c r =>
          have : ¬ ((t.length : Int) - ((c :: r).length : Nat) = (t.length : Int)) := by simp; omega
          simp only [this, if_false]
          exact Ev.now (3 : Int)
  | d + 1, i, h, hf => by
    have hw : wrap64 ((i : Int) + 1) = ((i + 1 : Nat) : Int) := by unfold wrap64; omega
    have hd := drop_rd t i (by omega)
    refine Ev.step (f := fun k => (term_cell.f k ((rd_T33 t i).f0) ((rd_T33 t i).f1)).bind fun t110 => (if t110 = 0 then (term_Check.l0 k t t (t.length : Int) ((i + 1 : Nat) : Int)) else (some t110))) (fun k => ?_) ?_
    · simp only [term_Check.l0]
      rw [if_pos (by omega), if_pos (by omega), if_pos (by omega), hw]
    · refine Ev.bind (cell_ev _) ?_
      rw [hd]
      simp only [firstErr]
      by_cases hc : cellErr (rd_T33 t i) = 0
      · simp only [hc, if_true]
        refine check_l0 t hl d (i + 1) (by omega) ?_
        rw [List.take_succ_eq_append_getElem (by omega)]
        have : rd_T33 t i = t[i] := by simp [rd_T33, List.getD_eq_getElem?_getD, List.getElem?_eq_getElem (show i < t.length by omega)]
        rw [← this]
        clear hd
        generalize rd_T33 t i = c at *
        generalize t.take i = l at *
        induction l with
        | nil => simp [firstErr, hc]
        | cons x l ih =>
          simp only [firstErr, List.cons_append] at hf ⊢
          split at hf
          · rename_i hx
            rw [if_pos hx]
            exact ih hf
          · rename_i hx; exact absurd hf hx
      · simp only [hc, if_false]
        exact Ev.now _

theorem check_ev (t : List S33) : Ev (fun k => term_Check.f k t) (chk t) := by
  by_cases h : t.length > 64
  · refine Ev.congr (f := fun _ => some 6) (fun k => ?_) ?_
    · unfold term_Check.f; rw [if_pos (by omega)]
    · unfold chk; rw [if_pos h]; exact Ev.now 6
  · refine Ev.congr (f := fun k => term_Check.l0 k t t (t.length : Int) ((0 : Nat) : Int)) (fun k => ?_) ?_
    · unfold term_Check.f; rw [if_neg (by omega)]; rfl
    · unfold chk
      rw [if_neg h]
      exact check_l0 t (by omega) t.length 0 (by omega) (by simp [firstErr])

/-! ### the reference's -/
theorem skip_add : ∀ (n m : Nat) (l : List S33), skip (n + m) l = (skip n l).bind (skip m)
  | 0, m, l => by simp [skip]
  | n + 1, m, [] => by rw [show n + 1 + m = (n + m) + 1 by omega]; simp [skip]
  | n + 1, m, c :: r => by
    rw [show n + 1 + m = (n + m) + 1 by omega]
    simp only [skip]
    rw [show n + m + c.f1.toNat = (n + c.f1.toNat) + m by omega]
    exact skip_add _ m r
termination_by _ _ l => l.length

theorem skip_len : ∀ (n : Nat) (l r : List S33), skip n l = some r → ∃ i, i ≤ l.length ∧ r = l.drop i ∧ (n ≠ 0 → 0 < i)
  | 0, l, r, h => by
    simp only [skip] at h
    obtain rfl := Option.some.inj h
    exact ⟨0, by omega, rfl, fun h => absurd rfl h⟩
  | n + 1, [], r, h => by simp [skip] at h
  | n + 1, c :: l, r, h => by
    simp only [skip] at h
    obtain ⟨i, h1, h2, _⟩ := skip_len _ l r h
    exact ⟨i + 1, by simp; omega, by simpa using h2, fun _ => by omega⟩
termination_by _ l => l.length

def BF (t : List S33) (d : Nat) : Prop := ∀ i : Nat, i ≤ t.length → t.length - i ≤ d → Ev (fun k => aumbryref04_Behind.f k t (i : Int)) (endOf t 1 (t.drop i))
theorem rbehind_l0 (t : List S33) (ht : tame t) (hl : t.length ≤ 1000000) (d : Nat) (ih : BF t d) : ∀ (m n i j : Nat), j + m = n → n ≤ 4 → i ≤ t.length → t.length - i ≤ d → Ev (fun k => aumbryref04_Behind.l0 k t (i : Int) (n : Int) (j : Int)) (endOf t m (t.drop i))
  | 0, n, i, j, h, hn, hi, hd => by
    refine Ev.nxt 0 (fun k _ => ?_)
    simp only [aumbryref04_Behind.l0]
    rw [if_neg (by omega)]
    simp only [endOf, skip, List.length_drop]
    congr 1
    omega
  | m + 1, n, i, j, h, hn, hi, hd => by
    have hw : wrap64 ((j : Int) + 1) = ((j + 1 : Nat) : Int) := by unfold wrap64; omega
    have h1 := ih i hi hd
    refine Ev.step (f := fun k => (aumbryref04_Behind.f k t (i : Int)).bind fun t319 => (aumbryref04_Behind.l0 k t t319 (n : Int) ((j + 1 : Nat) : Int))) (fun k => ?_) ?_
    · simp only [aumbryref04_Behind.l0]
      rw [if_pos (by omega), if_pos (by omega), hw]
    · refine Ev.bind h1 ?_
      have hs : skip (m + 1) (t.drop i) = (skip 1 (t.drop i)).bind (skip m) := by rw [Nat.add_comm]; exact skip_add 1 m _
      cases hq : skip 1 (t.drop i) with
      | none =>
        have e1 : endOf t 1 (t.drop i) = -1 := by unfold endOf; rw [hq]
        have e2 : endOf t (m + 1) (t.drop i) = -1 := by unfold endOf; rw [hs, hq]; rfl
        rw [e1, e2]
        refine Ev.nxt 0 (fun k _ => ?_)
        simp only [aumbryref04_Behind.l0]
        by_cases hjn : ((j + 1 : Nat) : Int) < (n : Int)
        · rw [if_pos hjn, if_neg (by omega)]
        · rw [if_neg hjn]
      | some r =>
        obtain ⟨q, hq1, hq2, hq3⟩ := skip_len 1 _ r hq
        have hq0 := hq3 (by decide)
        rw [List.length_drop] at hq1
        have hr : r = t.drop (i + q) := by rw [hq2, List.drop_drop]
        have e1 : endOf t 1 (t.drop i) = ((i + q : Nat) : Int) := by
          unfold endOf
          rw [hq]
          simp only [hr, List.length_drop]
          omega
        have e2 : endOf t (m + 1) (t.drop i) = endOf t m (t.drop (i + q)) := by
          unfold endOf
          rw [hs, hq, hr]
          rfl
        rw [e1, e2]
        exact rbehind_l0 t ht hl d ih m n (i + q) (j + 1) (by omega) hn (by omega) (by omega)

theorem rbehind_all (t : List S33) (ht : tame t) (hl : t.length ≤ 1000000) : ∀ d, BF t d := by
  intro d
  induction d with
  | zero =>
    intro i hi hd
    have hi' : i = t.length := by omega
    subst hi'
    refine Ev.nxt 1 (fun k hk => ?_)
    obtain ⟨k, rfl⟩ : ∃ m, k = m + 1 := ⟨k - 1, by omega⟩
    simp only [aumbryref04_Behind.f]
    rw [if_neg (by omega), show decide ((t.length : Int) ≥ (t.length : Int)) = true from decide_eq_true (by omega)]
    simp only [aumbryref04_Behind.j0, if_true, List.drop_length, endOf, skip]
  | succ d ih =>
    intro i hi hd
    by_cases hlt : i < t.length
    · obtain ⟨h0, h4⟩ := tame_rd ht i hlt
      have hw : wrap64 ((i : Int) + 1) = ((i + 1 : Nat) : Int) := by unfold wrap64; omega
      have hn : ((rd_T33 t i).f1.toNat : Int) = (rd_T33 t i).f1 := by omega
      refine Ev.step (f := fun k => aumbryref04_Behind.j0 k t (i : Int) false) (fun k => ?_) (Ev.step (f := fun k => aumbryref04_Behind.l0 k t ((i + 1 : Nat) : Int) ((rd_T33 t i).f1.toNat : Int) ((0 : Nat) : Int)) (fun k => ?_) ?_)
      · simp only [aumbryref04_Behind.f]
        rw [if_neg (by omega), show decide ((i : Int) ≥ (t.length : Int)) = false from decide_eq_false (by omega)]
      · simp only [aumbryref04_Behind.j0]
        rw [if_neg (by decide), if_pos (by omega), if_pos (by omega), hw, hn]
        rfl
      · rw [drop_rd t i hlt]
        have : endOf t 1 (rd_T33 t i :: t.drop (i + 1)) = endOf t (rd_T33 t i).f1.toNat (t.drop (i + 1)) := by
          unfold endOf
          simp only [skip, Nat.zero_add]
        rw [this]
        exact rbehind_l0 t ht hl d ih _ _ (i + 1) 0 (by omega) (by omega) (by omega) (by omega)
    · have hi' : i = t.length := by omega
      subst hi'
      refine Ev.nxt 1 (fun k hk => ?_)
      obtain ⟨k, rfl⟩ : ∃ m, k = m + 1 := ⟨k - 1, by omega⟩
      simp only [aumbryref04_Behind.f]
      rw [if_neg (by omega), show decide ((t.length : Int) ≥ (t.length : Int)) = true from decide_eq_true (by omega)]
      simp only [aumbryref04_Behind.j0, if_true, List.drop_length, endOf, skip]

theorem rbehind_ev (t : List S33) (ht : tame t) (hl : t.length ≤ 1000000) (i : Nat) (hi : i ≤ t.length) : Ev (fun k => aumbryref04_Behind.f k t (i : Int)) (endOf t 1 (t.drop i)) := rbehind_all t ht hl _ i hi (Nat.le_refl _)

theorem rcheck_l0 (t : List S33) (hl : t.length ≤ 64) : ∀ (d i : Nat), i + d = t.length → firstErr (t.take i) = 0 → Ev (fun k => aumbryref04_Check.l0 k t (t.length : Int) (i : Int)) (if firstErr (t.drop i) = 0 then (match skip 1 t with | some [] => 0 | _ => 3) else firstErr (t.drop i))
  | 0, i, h, hf => by
    have hi : i = t.length := by omega
    subst hi
    rw [List.take_length] at hf
    have ht := tame_of_first t hf
    refine Ev.step (f := fun k => (aumbryref04_Behind.f k t 0).bind fun t111 => (if t111 = (t.length : Int) then (some 0) else (some 3))) (fun k => ?_) ?_
    · simp only [aumbryref04_Check.l0]
      rw [if_neg (by omega)]
    · refine Ev.bind (a := endOf t 1 t) (by simpa using rbehind_ev t ht (by omega) 0 (by omega)) ?_
      rw [List.drop_length]
      simp only [firstErr, if_true]
      unfold endOf
      cases hs : skip 1 t with
      | none => simpa [hs] using (show Ev (fun n : Nat => if (-1 : Int) = (t.length : Int) then some (0 : Int) else some 3) 3 from by rw [if_neg (by omega)]; exact Ev.now 3)
      | some r =>
        cases r with
        | nil => simpa using Ev.now (0 : Int)
        | cons c r =>
          have : ¬ ((t.length : Int) - ((c :: r).length : Nat) = (t.length : Int)) := by simp; omega
          simp only [this, if_false]
          exact Ev.now (3 : Int)
  | d + 1, i, h, hf => by
    have hw : wrap64 ((i : Int) + 1) = ((i + 1 : Nat) : Int) := by unfold wrap64; omega
    have hd := drop_rd t i (by omega)
    obtain ⟨K, hk⟩ := rkind_ev (rd_T33 t i).f0
    dsimp only at hk
    rw [hd]
    by_cases hc : cellErr (rd_T33 t i) = 0
    · rw [show firstErr (rd_T33 t i :: t.drop (i + 1)) = firstErr (t.drop (i + 1)) from by simp only [firstErr]; rw [if_pos hc]]
      have ih := rcheck_l0 t hl d (i + 1) (by omega) (by
        rw [List.take_succ_eq_append_getElem (by omega)]
        have : rd_T33 t i = t[i] := by simp [rd_T33, List.getD_eq_getElem?_getD, List.getElem?_eq_getElem (show i < t.length by omega)]
        rw [← this]
        clear hd hk
        generalize rd_T33 t i = c at *
        generalize t.take i = l at *
        induction l with
        | nil => simp [firstErr, hc]
        | cons x l ih =>
          simp only [firstErr, List.cons_append] at hf ⊢
          split at hf
          · rename_i hx
            rw [if_pos hx]
            exact ih hf
          · rename_i hx; exact absurd hf hx)
      obtain ⟨K2, ih⟩ := ih
      dsimp only at ih
      refine Ev.nxt (max K K2) (fun k hkk => ?_)
      simp only [aumbryref04_Check.l0]
      rw [if_pos (by omega), if_pos (by omega), if_pos (by omega), hw, hk k (by omega), Option.bind_some]
      unfold cellErr at hc
      by_cases c1 : kindOf (rd_T33 t i).f0 = 0
      · rw [if_pos c1] at hc; exact absurd hc (by decide)
      · rw [if_neg c1] at hc ⊢
        by_cases c2 : (rd_T33 t i).f1 < 0
        · rw [if_pos c2] at hc; exact absurd hc (by decide)
        · rw [if_neg c2] at hc ⊢
          by_cases c3 : (rd_T33 t i).f1 > 4
          · rw [if_pos c3] at hc; exact absurd hc (by decide)
          · rw [if_neg c3] at hc ⊢
            by_cases c4 : kindOf (rd_T33 t i).f0 = 2
            · rw [if_pos c4]
              by_cases c5 : (rd_T33 t i).f1 = 0
              · rw [if_pos c5]; exact ih k (by omega)
              · rw [if_pos ⟨c4, by omega⟩] at hc; exact absurd hc (by decide)
            · rw [if_neg c4]; exact ih k (by omega)
    · rw [show firstErr (rd_T33 t i :: t.drop (i + 1)) = cellErr (rd_T33 t i) from by simp only [firstErr]; rw [if_neg hc]]
      rw [if_neg hc]
      refine Ev.nxt K (fun k hkk => ?_)
      simp only [aumbryref04_Check.l0]
      rw [if_pos (by omega), if_pos (by omega), if_pos (by omega), hw, hk k (by omega), Option.bind_some]
      unfold cellErr at hc ⊢
      by_cases c1 : kindOf (rd_T33 t i).f0 = 0
      · rw [if_pos c1, if_pos c1]
      · rw [if_neg c1] at hc ⊢
        rw [if_neg c1]
        by_cases c2 : (rd_T33 t i).f1 < 0
        · rw [if_pos c2, if_pos c2]
        · rw [if_neg c2] at hc ⊢
          rw [if_neg c2]
          by_cases c3 : (rd_T33 t i).f1 > 4
          · rw [if_pos c3, if_pos c3]
          · rw [if_neg c3] at hc ⊢
            rw [if_neg c3]
            by_cases c4 : kindOf (rd_T33 t i).f0 = 2
            · rw [if_pos c4]
              by_cases c5 : (rd_T33 t i).f1 = 0
              · rw [if_neg (by omega)] at hc; exact absurd rfl hc
              · rw [if_neg c5, if_pos ⟨c4, by omega⟩]
            · rw [if_neg (fun h => c4 h.1)] at hc; exact absurd rfl hc

theorem rcheck_ev (t : List S33) : Ev (fun k => aumbryref04_Check.f k t) (chk t) := by
  by_cases h : t.length > 64
  · refine Ev.congr (f := fun _ => some 6) (fun k => ?_) ?_
    · unfold aumbryref04_Check.f; rw [if_pos (by omega)]
    · unfold chk; rw [if_pos h]; exact Ev.now 6
  · refine Ev.congr (f := fun k => aumbryref04_Check.l0 k t (t.length : Int) ((0 : Nat) : Int)) (fun k => ?_) ?_
    · unfold aumbryref04_Check.f; rw [if_neg (by omega)]; rfl
    · unfold chk
      rw [if_neg h]
      exact rcheck_l0 t (by omega) t.length 0 (by omega) (by simp [firstErr])

end Go.Proofs.YtnkpcnnbeaomnaaDoor.C
end

section
/- Terms as trees: what a tree is as cells, as text, how deep it is; every list of cells that is a term is some tree's cells. Plain words, no machine. -/
namespace Go.Proofs.YtnkpcnnbeaomnaaDoor.C
open Go.RowKit Go.Proofs.YtnkpcnnbeaomnaaDoorW.PrintWords Go.Proofs.YtnkpcnnbeaomnaaDoorW.PrintLast Go.Proofs.YtnkpcnnbeaomnaaDoorW.PrintMore
set_option linter.unusedVariables false
set_option linter.unusedSimpArgs false

inductive Tr where
  | node (nm : ByteArray) (ks : List Tr)
mutual
def flat : Tr → List S33
  | .node n ks => ⟨n, ks.length⟩ :: flatL ks
def flatL : List Tr → List S33
  | [] => []
  | t :: r => flat t ++ flatL r
end
mutual
/-- Each name is one, variables have no arguments, symbols at most four. -/
def fine : Tr → Prop
  | .node n ks => kindOf n ≠ 0 ∧ ks.length ≤ 4 ∧ (kindOf n = 2 → ks = []) ∧ fineL ks
def fineL : List Tr → Prop
  | [] => True
  | t :: r => fine t ∧ fineL r
end

theorem flat_pos (t : Tr) : 0 < (flat t).length := by cases t; simp [flat]
theorem flatL_append (a b : List Tr) : flatL (a ++ b) = flatL a ++ flatL b := by
  induction a with
  | nil => simp [flatL]
  | cons x r ih => simp [flatL, ih]


theorem skip_forest : ∀ (l : List S33) (n : Nat) (r : List S33), tame l → skip n l = some r → ∃ F : List Tr, F.length = n ∧ l = flatL F ++ r
  | l, 0, r, _, h => by
    simp only [skip] at h
    exact ⟨[], rfl, by simpa [flatL] using Option.some.inj h⟩
  | [], n + 1, r, _, h => by simp [skip] at h
  | c :: l, n + 1, r, ht, h => by
    simp only [skip] at h
    obtain ⟨F, hF, hl⟩ := skip_forest l _ r (fun x hx => ht x (List.mem_cons_of_mem _ hx)) h
    have hc := ht c List.mem_cons_self
    refine ⟨.node c.f0 (F.take c.f1.toNat) :: F.drop c.f1.toNat, by simp [hF], ?_⟩
    have hlen : ((F.take c.f1.toNat).length : Int) = c.f1 := by rw [List.length_take, hF]; omega
    simp only [flatL, flat, List.cons_append, List.append_assoc, hlen]
    rw [← List.append_assoc, ← flatL_append, List.take_append_drop, hl]

theorem firstErr_append : ∀ (a b : List S33), firstErr (a ++ b) = if firstErr a = 0 then firstErr b else firstErr a
  | [], b => by simp [firstErr]
  | c :: a, b => by
    by_cases h : cellErr c = 0
    · have e : ∀ x, firstErr (c :: x) = firstErr x := fun x => by simp only [firstErr]; rw [if_pos h]
      rw [List.cons_append, e, e]
      exact firstErr_append a b
    · have e : ∀ x, firstErr (c :: x) = cellErr c := fun x => by simp only [firstErr]; rw [if_neg h]
      rw [List.cons_append, e, e, if_neg h]

theorem cellErr_ok {n : ByteArray} {a : Nat} (h : cellErr ⟨n, a⟩ = 0) : kindOf n ≠ 0 ∧ a ≤ 4 ∧ (kindOf n = 2 → a = 0) := by
  unfold cellErr at h
  dsimp only at h
  split at h
  · exact absurd h (by decide)
  · rename_i h0
    split at h
    · exact absurd h (by decide)
    · split at h
      · exact absurd h (by decide)
      · rename_i h1
        split at h
        · exact absurd h (by decide)
        · rename_i h2
          refine ⟨h0, by omega, fun hk => ?_⟩
          rcases Nat.eq_zero_or_pos a with ha | ha
          · exact ha
          · exact absurd ⟨hk, by omega⟩ h2

mutual
theorem fine_of : ∀ (T : Tr), firstErr (flat T) = 0 → fine T
  | .node n ks, h => by
    simp only [flat, firstErr] at h
    split at h
    · rename_i hc
      obtain ⟨h0, h1, h2⟩ := cellErr_ok hc
      exact ⟨h0, h1, fun hk => List.eq_nil_of_length_eq_zero (h2 hk), fine_ofL ks h⟩
    · rename_i hc; exact absurd h hc
theorem fine_ofL : ∀ (ks : List Tr), firstErr (flatL ks) = 0 → fineL ks
  | [], _ => trivial
  | t :: r, h => by
    simp only [flatL, firstErr_append] at h
    split at h
    · rename_i hc
      exact ⟨fine_of t hc, fine_ofL r h⟩
    · rename_i hc; exact absurd h hc
end

theorem tree_of_chk (t : List S33) (h : chk t = 0) : ∃ T, t = flat T ∧ fine T ∧ t.length ≤ 64 := by
  unfold chk at h
  split at h
  · exact absurd h (by decide)
  · rename_i hl
    split at h
    · rename_i hf
      split at h
      · rename_i hs
        obtain ⟨F, hF, ht⟩ := skip_forest t 1 [] (tame_of_first t hf) hs
        match F, hF with
        | [T], _ =>
          have hT : t = flat T := by simpa [flatL] using ht
          exact ⟨T, hT, fine_of T (by rw [← hT]; exact hf), by omega⟩
      · exact absurd h (by decide)
    · rename_i hf; exact absurd h hf

/-! ### a name's letters -/


/-! ### where a cell lies -/

end Go.Proofs.YtnkpcnnbeaomnaaDoor.C
end

section
-- Written by a program of this session (a scratch print over hand-made contracts), out of the translation. Not trusted: Lean checks it.
namespace Go.Proofs.YtnkpcnnbeaomnaaDoor.C
open Go.RowKit Go.Proofs.YtnkpcnnbeaomnaaDoorW.PrintWords Go.Proofs.YtnkpcnnbeaomnaaDoorW.PrintLast Go.Proofs.YtnkpcnnbeaomnaaDoorW.PrintMore
attribute [local go_sem] max2_int min2_int max_two min_two max_three min_three max_four min_four   -- for this text's walks alone
set_option linter.unusedVariables false
set_option linter.unusedSimpArgs false

/-! ### aumbryref04_Copy: function 35 -/

end Go.Proofs.YtnkpcnnbeaomnaaDoor.C
end

section
-- Written by a program of this session (a scratch print over hand-made contracts), out of the translation. Not trusted: Lean checks it.
namespace Go.Proofs.YtnkpcnnbeaomnaaDoor.C
open Go.RowKit Go.Proofs.YtnkpcnnbeaomnaaDoorW.PrintWords Go.Proofs.YtnkpcnnbeaomnaaDoorW.PrintLast Go.Proofs.YtnkpcnnbeaomnaaDoorW.PrintMore
attribute [local go_sem] max2_int min2_int max_two min_two max_three min_three max_four min_four   -- for this text's walks alone
set_option linter.unusedVariables false
set_option linter.unusedSimpArgs false

/-! ### aumbryref04_Kids: function 69 -/

end Go.Proofs.YtnkpcnnbeaomnaaDoor.C
end

section
-- Written by a program of this session (a scratch print over hand-made contracts), out of the translation. Not trusted: Lean checks it.
namespace Go.Proofs.YtnkpcnnbeaomnaaDoor.C
open Go.RowKit Go.Proofs.YtnkpcnnbeaomnaaDoorW.PrintWords Go.Proofs.YtnkpcnnbeaomnaaDoorW.PrintLast Go.Proofs.YtnkpcnnbeaomnaaDoorW.PrintMore
attribute [local go_sem] max2_int min2_int max_two min_two max_three min_three max_four min_four   -- for this text's walks alone
set_option linter.unusedVariables false
set_option linter.unusedSimpArgs false

/-! ### aumbryref04_Text: function 49 -/

end Go.Proofs.YtnkpcnnbeaomnaaDoor.C
end

section
/- What the program's and the reference's functions on terms come to, said of trees: written text, arguments, depth, variables. Plain words, no machine. -/
namespace Go.Proofs.YtnkpcnnbeaomnaaDoor.C
open Go.RowKit Go.Proofs.YtnkpcnnbeaomnaaDoorW.PrintWords Go.Proofs.YtnkpcnnbeaomnaaDoorW.PrintLast Go.Proofs.YtnkpcnnbeaomnaaDoorW.PrintMore
set_option linter.unusedVariables false
set_option linter.unusedSimpArgs false

/-! ### term.write and term.Print -/

def bytes (l : List UInt8) : ByteArray := ⟨l.toArray⟩

/-! ### arguments -/





def hasB (l : List ByteArray) (s : ByteArray) : Bool := l.any fun x => decide (x.toList = s.toList)
theorem drop_of (l : List ByteArray) (i : Nat) (h : i < l.length) : l.drop i = rdOf ByteArray.empty l i :: l.drop (i + 1) := by
  rw [List.drop_eq_getElem_cons h]
  simp [rdOf, List.getD_eq_getElem?_getD, List.getElem?_eq_getElem h]
theorem has_l0 (l : List ByteArray) (s : ByteArray) (hl : l.length ≤ 1000000) : ∀ d i : Nat, i + d = l.length → Ev (fun k => aumbryref03_Has.l0 k l s (l.length : Int) (i : Int)) (hasB (l.drop i) s)
  | 0, i, h => by
    refine Ev.nxt 0 (fun k _ => ?_)
    simp only [aumbryref03_Has.l0]
    rw [if_neg (by omega), List.drop_eq_nil_of_le (by omega)]
    rfl
  | d + 1, i, h => by
    have hw : wrap64 ((i : Int) + 1) = ((i + 1 : Nat) : Int) := by unfold wrap64; omega
    rw [drop_of l i (by omega)]
    by_cases hc : (rdOf ByteArray.empty l i).toList = s.toList
    · refine Ev.nxt 0 (fun k _ => ?_)
      simp only [aumbryref03_Has.l0]
      rw [if_pos (by omega), if_pos (by omega), if_pos (by omega), if_pos hc]
      simp [hasB, hc]
    · refine Ev.step (f := fun k => aumbryref03_Has.l0 k l s (l.length : Int) ((i + 1 : Nat) : Int)) (fun k => ?_) ?_
      · simp only [aumbryref03_Has.l0]
        rw [if_pos (by omega), if_pos (by omega), if_pos (by omega), if_neg hc, hw]
      · have := has_l0 l s hl d (i + 1) (by omega)
        simpa [hasB, hc] using this
theorem has_ev (l : List ByteArray) (s : ByteArray) (hl : l.length ≤ 1000000) : Ev (fun k => aumbryref03_Has.f k l s) (hasB l s) := has_l0 l s hl l.length 0 (by omega)
theorem index_l0 (l : List ByteArray) (s : ByteArray) (hl : l.length ≤ 1000000) : ∀ d i : Nat, i + d = l.length → ∃ r, Ev (fun k => slices_Index_string_string.l0 k l s (l.length : Int) (i : Int)) r ∧ decide (r ≥ 0) = hasB (l.drop i) s
  | 0, i, h => by
    refine ⟨-1, Ev.nxt 0 (fun k _ => ?_), ?_⟩
    · simp only [slices_Index_string_string.l0]
      rw [if_neg (by omega)]
    · rw [List.drop_eq_nil_of_le (by omega)]
      rfl
  | d + 1, i, h => by
    have hw : wrap64 ((i : Int) + 1) = ((i + 1 : Nat) : Int) := by unfold wrap64; omega
    rw [drop_of l i (by omega)]
    by_cases hc : (rdOf ByteArray.empty l i).toList = s.toList
    · refine ⟨(i : Int), Ev.nxt 0 (fun k _ => ?_), ?_⟩
      · simp only [slices_Index_string_string.l0]
        rw [if_pos (by omega), if_pos (by omega), if_pos (by omega), if_pos hc.symm]
      · simp [hasB, hc]
    · obtain ⟨r, h1, h2⟩ := index_l0 l s hl d (i + 1) (by omega)
      refine ⟨r, Ev.step (f := fun k => slices_Index_string_string.l0 k l s (l.length : Int) ((i + 1 : Nat) : Int)) (fun k => ?_) h1, ?_⟩
      · simp only [slices_Index_string_string.l0]
        rw [if_pos (by omega), if_pos (by omega), if_pos (by omega), if_neg (fun h => hc h.symm), hw]
      · rw [h2]
        simp [hasB, hc]
theorem contains_ev (l : List ByteArray) (s : ByteArray) (hl : l.length ≤ 1000000) : Ev (fun k => slices_Contains_string_string.f k l s) (hasB l s) := by
  obtain ⟨r, h1, h2⟩ := index_l0 l s hl l.length 0 (by omega)
  refine Ev.congr (f := fun k => (slices_Index_string_string.l0 k l s (l.length : Int) ((0 : Nat) : Int)).bind fun t457 => (some (decide (t457 ≥ 0)))) (fun k => by rfl) (Ev.bind h1 ?_)
  rw [h2]
  exact Ev.now _

def varsL : List S33 → List ByteArray → List ByteArray
  | [], acc => acc
  | c :: r, acc => varsL r (if kindOf c.f0 = 2 then (if hasB acc c.f0 then acc else acc ++ [c.f0]) else acc)
theorem vars_l0 (t : List S33) (ht : t.length ≤ 1000) : ∀ (d i : Nat) (acc : List ByteArray), i + d = t.length → acc.length ≤ i → Ev (fun k => term_Vars.l0 k acc t (t.length : Int) (i : Int)) (varsL (t.drop i) acc, 0)
  | 0, i, acc, h, ha => by
    refine Ev.nxt 0 (fun k _ => ?_)
    simp only [term_Vars.l0]
    rw [if_neg (by omega), drop_end t i (by omega)]
    rfl
  | d + 1, i, acc, h, ha => by
    have hw : wrap64 ((i : Int) + 1) = ((i + 1 : Nat) : Int) := by unfold wrap64; omega
    rw [drop_rd t i (by omega)]
    obtain ⟨K1, hk⟩ := kind_ev (rd_T33 t i).f0
    obtain ⟨K2, hc⟩ := contains_ev acc (rd_T33 t i).f0 (by omega)
    dsimp only at hk hc
    by_cases c1 : kindOf (rd_T33 t i).f0 = 2
    · by_cases c2 : hasB acc (rd_T33 t i).f0 = true
      · have ih := vars_l0 t ht d (i + 1) acc (by omega) (by omega)
        obtain ⟨K3, ih⟩ := ih
        refine Ev.nxt (max (max K1 K2) K3) (fun k hkk => ?_)
        simp only [term_Vars.l0, varsL]
        rw [if_pos (by omega), if_pos (by omega), if_pos (by omega), hk k (by omega), Option.bind_some, if_pos c1, hc k (by omega), Option.bind_some, if_pos c2, hw, if_pos c1, if_pos c2]
        exact ih k (by omega)
      · have ih := vars_l0 t ht d (i + 1) (acc ++ [(rd_T33 t i).f0]) (by omega) (by simp; omega)
        obtain ⟨K3, ih⟩ := ih
        refine Ev.nxt (max (max K1 K2) K3) (fun k hkk => ?_)
        simp only [term_Vars.l0, varsL]
        rw [if_pos (by omega), if_pos (by omega), if_pos (by omega), hk k (by omega), Option.bind_some, if_pos c1, hc k (by omega), Option.bind_some, if_neg c2, if_pos (by omega), hw, if_pos c1, if_neg c2]
        exact ih k (by omega)
    · have ih := vars_l0 t ht d (i + 1) acc (by omega) (by omega)
      obtain ⟨K3, ih⟩ := ih
      refine Ev.nxt (max K1 K3) (fun k hkk => ?_)
      simp only [term_Vars.l0, varsL]
      rw [if_pos (by omega), if_pos (by omega), if_pos (by omega), hk k (by omega), Option.bind_some, if_neg c1, hw, if_neg c1]
      exact ih k (by omega)
theorem rvars_l0 (t : List S33) (ht : t.length ≤ 1000) : ∀ (d i : Nat) (acc : List ByteArray), i + d = t.length → acc.length ≤ i → Ev (fun k => aumbryref04_Vars.l0 k t acc (t.length : Int) (i : Int)) (varsL (t.drop i) acc)
  | 0, i, acc, h, ha => by
    refine Ev.nxt 0 (fun k _ => ?_)
    simp only [aumbryref04_Vars.l0]
    rw [if_neg (by omega), drop_end t i (by omega)]
    rfl
  | d + 1, i, acc, h, ha => by
    have hw : wrap64 ((i : Int) + 1) = ((i + 1 : Nat) : Int) := by unfold wrap64; omega
    rw [drop_rd t i (by omega)]
    obtain ⟨K1, hk⟩ := rkind_ev (rd_T33 t i).f0
    obtain ⟨K2, hc⟩ := has_ev acc (rd_T33 t i).f0 (by omega)
    dsimp only at hk hc
    by_cases c1 : kindOf (rd_T33 t i).f0 = 2
    · by_cases c2 : hasB acc (rd_T33 t i).f0 = true
      · have ih := rvars_l0 t ht d (i + 1) acc (by omega) (by omega)
        obtain ⟨K3, ih⟩ := ih
        refine Ev.nxt (max (max K1 K2) K3) (fun k hkk => ?_)
        simp only [aumbryref04_Vars.l0, varsL]
        rw [if_pos (by omega), if_pos (by omega), if_pos (by omega), hk k (by omega), Option.bind_some, if_pos c1, hc k (by omega), Option.bind_some, if_pos c2, hw, if_pos c1, if_pos c2]
        exact ih k (by omega)
      · have ih := rvars_l0 t ht d (i + 1) (acc ++ [(rd_T33 t i).f0]) (by omega) (by simp; omega)
        obtain ⟨K3, ih⟩ := ih
        refine Ev.nxt (max (max K1 K2) K3) (fun k hkk => ?_)
        simp only [aumbryref04_Vars.l0, varsL]
        rw [if_pos (by omega), if_pos (by omega), if_pos (by omega), hk k (by omega), Option.bind_some, if_pos c1, hc k (by omega), Option.bind_some, if_neg c2, if_pos (by omega), hw, if_pos c1, if_neg c2]
        exact ih k (by omega)
    · have ih := rvars_l0 t ht d (i + 1) acc (by omega) (by omega)
      obtain ⟨K3, ih⟩ := ih
      refine Ev.nxt (max K1 K3) (fun k hkk => ?_)
      simp only [aumbryref04_Vars.l0, varsL]
      rw [if_pos (by omega), if_pos (by omega), if_pos (by omega), hk k (by omega), Option.bind_some, if_neg c1, hw, if_neg c1]
      exact ih k (by omega)
theorem varsL_len : ∀ (t : List S33) (acc : List ByteArray), (varsL t acc).length ≤ acc.length + t.length
  | [], acc => by simp [varsL]
  | c :: r, acc => by
    simp only [varsL]
    refine Nat.le_trans (varsL_len r _) ?_
    split
    · split
      · simp
      · simp; omega
    · simp
theorem vars_ok (t : List S33) (h : chk t = 0) : Ev (fun k => term_Vars.f k t) (varsL t [], 0) := by
  have hl : t.length ≤ 64 := by obtain ⟨T, _, _, hl⟩ := tree_of_chk t h; exact hl
  have h1 := check_ev t
  rw [h] at h1
  obtain ⟨K1, h1⟩ := h1
  obtain ⟨K2, h2⟩ := vars_l0 t (by omega) t.length 0 [] (by omega) (by simp)
  dsimp only at h1 h2
  refine ⟨max K1 K2, fun k hk => ?_⟩
  dsimp only
  unfold term_Vars.f
  rw [h1 k (by omega), Option.bind_some, if_pos rfl]
  exact h2 k (by omega)
theorem rvars_ev (t : List S33) (h : t.length ≤ 1000) : Ev (fun k => aumbryref04_Vars.f k t) (varsL t []) := rvars_l0 t h t.length 0 [] (by omega) (by simp)

/-! ### alike -/
theorem sameT_l0 (a : List S33) (hb : a.length ≤ 4611686018427387904) : ∀ d i : Nat, i + d = a.length → Ev (fun k => aumbryref04_Same.l0 k a a (a.length : Int) (i : Int)) true
  | 0, i, h => Ev.nxt 0 (fun k _ => by simp only [aumbryref04_Same.l0]; rw [if_neg (by omega)])
  | d + 1, i, h => by
    have hw : wrap64 ((i : Int) + 1) = ((i + 1 : Nat) : Int) := by unfold wrap64; omega
    refine Ev.step (f := fun k => aumbryref04_Same.l0 k a a (a.length : Int) ((i + 1 : Nat) : Int)) (fun k => ?_) (sameT_l0 a hb d (i + 1) (by omega))
    simp only [aumbryref04_Same.l0]
    rw [if_pos (by omega), if_pos (by omega), if_pos (by omega), if_pos (by omega), if_neg (by simp), hw]
theorem sameT_ev (a : List S33) (hb : a.length ≤ 4611686018427387904) : Ev (fun k => aumbryref04_Same.f k a a) true :=
  Ev.congr (fun k => by unfold aumbryref04_Same.f; rw [if_pos rfl]; rfl) (sameT_l0 a hb a.length 0 (by omega))
end Go.Proofs.YtnkpcnnbeaomnaaDoor.C
end

section
-- Written by a program of this session (a scratch print over hand-made contracts), out of the translation. Not trusted: Lean checks it.
namespace Go.Proofs.YtnkpcnnbeaomnaaDoor.C
open Go.RowKit Go.Proofs.YtnkpcnnbeaomnaaDoorW.PrintWords Go.Proofs.YtnkpcnnbeaomnaaDoorW.PrintLast Go.Proofs.YtnkpcnnbeaomnaaDoorW.PrintMore
attribute [local go_sem] max2_int min2_int max_two min_two max_three min_three max_four min_four   -- for this text's walks alone
set_option linter.unusedVariables false
set_option linter.unusedSimpArgs false

/-! ### aumbryref06_Copy: function 10 -/

end Go.Proofs.YtnkpcnnbeaomnaaDoor.C
end
