import Derived.Test.YtnkpcnnbeaomnaaDoorRC2
import Derived.Test.YtnkpcnnbeaomnaaDoorRC12
import Derived.Test.YtnkpcnnbeaomnaaDoorRC3
import Derived.Test.YtnkpcnnbeaomnaaDoorRC13
import Derived.Test.YtnkpcnnbeaomnaaDoorRC11
import Derived.Test.YtnkpcnnbeaomnaaDoorRC8
import Derived.Test.YtnkpcnnbeaomnaaDoorRC4
import Derived.Test.YtnkpcnnbeaomnaaDoorRC10
import Derived.Test.YtnkpcnnbeaomnaaDoorRC14
import Derived.Test.YtnkpcnnbeaomnaaDoorRC15

section
/- What kind of name a text is: the program's name.Kind and the reference's Kind come to the same plain answer, kindOf, at every text. -/
namespace Go.Proofs.YtnkpcnnbeaomnaaDoor.C
open Go.RowKit Go.Proofs.YtnkpcnnbeaomnaaDoorW.PrintWords Go.Proofs.YtnkpcnnbeaomnaaDoorW.PrintLast Go.Proofs.YtnkpcnnbeaomnaaDoorW.PrintMore
set_option linter.unusedVariables false
set_option linter.unusedSimpArgs false

def lo (c : Int) : Bool := decide (97 ≤ c ∧ c ≤ 122)
def up (c : Int) : Bool := decide (65 ≤ c ∧ c ≤ 90)
def dg (c : Int) : Bool := decide (48 ≤ c ∧ c ≤ 57)
def sg (c : Int) : Int × Int := if lo c then (1, 1) else if up c then (2, 2) else if dg c then (0, 3) else (0, 0)
def smB (s : ByteArray) (i : Nat) : Bool := lo (bt s i) || (dg (bt s i) && decide (0 < i))
def grB (s : ByteArray) (i : Nat) : Bool := up (bt s i) || (dg (bt s i) && decide (0 < i))
def allR (p : Nat → Bool) : Nat → Nat → Bool
  | 0, _ => true
  | d + 1, i => p i && allR p d (i + 1)
def kindOf (s : ByteArray) : Int := if s.size = 0 ∨ 8 < s.size then 0 else if allR (smB s) s.size 0 then 1 else if allR (grB s) s.size 0 then 2 else 0

theorem allR_congr {p q : Nat → Bool} : ∀ d i, (∀ j, i ≤ j → j < i + d → p j = q j) → allR p d i = allR q d i
  | 0, _, _ => rfl
  | d + 1, i, h => by
    simp only [allR]
    rw [h i (Nat.le_refl _) (by omega), allR_congr d (i + 1) (fun j h1 h2 => h j (by omega) (by omega))]

theorem sign_ev (c : Int) : Ev (fun k => name_sign.f k c) (sg c) := by
  refine ⟨2, fun k hk => ?_⟩
  obtain ⟨m, rfl⟩ : ∃ m, k = m + 2 := ⟨k - 2, by omega⟩
  unfold name_sign.f
  simp only [name_sign.j0, name_sign.j1, sg, lo, up, dg]
  by_cases a1 : 97 ≤ c
  · by_cases a2 : c ≤ 122
    · simp [a1, a2]
    · have a3 : ¬ c ≤ 90 := by omega
      have a4 : 65 ≤ c := by omega
      have a5 : 48 ≤ c := by omega
      have a6 : ¬ c ≤ 57 := by omega
      simp [a1, a2, a3, a4, a5, a6]
  · by_cases a3 : 65 ≤ c
    · by_cases a4 : c ≤ 90
      · simp [a1, a3, a4]
      · have a5 : 48 ≤ c := by omega
        have a6 : ¬ c ≤ 57 := by omega
        simp [a1, a3, a4, a5, a6]
    · by_cases a5 : 48 ≤ c
      · by_cases a6 : c ≤ 57
        · simp [a1, a3, a5, a6]
        · simp [a1, a3, a5, a6]
      · simp [a1, a3, a5]

theorem bits_tab : Go.bits .and .i64 1 1 = 1 ∧ Go.bits .and .i64 1 2 = 0 ∧ Go.bits .and .i64 2 1 = 0 ∧ Go.bits .and .i64 2 2 = 2 ∧ Go.bits .and .i64 3 1 = 1 ∧ Go.bits .and .i64 3 2 = 2 ∧ Go.bits .and .i64 0 1 = 0 ∧ Go.bits .and .i64 0 2 = 0 ∧ Go.bits .and .i64 1 0 = 0 ∧ Go.bits .and .i64 2 0 = 0 ∧ Go.bits .and .i64 3 0 = 0 ∧ Go.bits .and .i64 0 0 = 0 := by
  refine ⟨?_, ?_, ?_, ?_, ?_, ?_, ?_, ?_, ?_, ?_, ?_, ?_⟩ <;> decide +kernel

def cp (k c : Int) : Bool := decide (Go.bits .and .i64 (sg c).2 k ≠ 0)
theorem cp1 (c : Int) : cp 1 c = (lo c || dg c) := by
  obtain ⟨b1, b2, b3, b4, b5, b6, b7, b8, b9, b10, b11, b12⟩ := bits_tab
  unfold cp sg
  by_cases h1 : lo c = true
  · simp [h1, b1]
  · by_cases h2 : up c = true
    · have : dg c = false := by simp [up, dg] at h2 ⊢; omega
      simp [h1, h2, this, b3]
    · by_cases h3 : dg c = true
      · simp [h1, h2, h3, b5]
      · simp [h1, h2, h3, b7]
theorem cp2 (c : Int) : cp 2 c = (up c || dg c) := by
  obtain ⟨b1, b2, b3, b4, b5, b6, b7, b8, b9, b10, b11, b12⟩ := bits_tab
  unfold cp sg
  by_cases h1 : lo c = true
  · have h2 : up c = false := by simp [up, lo] at h1 ⊢; omega
    have h3 : dg c = false := by simp [dg, lo] at h1 ⊢; omega
    simp [h1, h2, h3, b2]
  · by_cases h2 : up c = true
    · simp [h1, h2, b4]
    · by_cases h3 : dg c = true
      · simp [h1, h2, h3, b6]
      · simp [h1, h2, h3, b8]

theorem kind_l0 (s : ByteArray) (kd : Int) (hs : s.size ≤ 4611686018427387904) : ∀ d i : Nat, i + d = s.size → Ev (fun k => name_Kind.l0 k s kd (s.size : Int) (i : Int)) (if allR (fun j => cp kd (bt s j)) d i then kd else 0)
  | 0, i, h => by
    refine Ev.step (f := fun _ => some kd) (fun k => ?_) (by simpa [allR] using Ev.now kd)
    simp only [name_Kind.l0]
    rw [if_neg (by omega)]
  | d + 1, i, h => by
    have ih := kind_l0 s kd hs d (i + 1) (by omega)
    have hw : wrap64 ((i : Int) + 1) = ((i + 1 : Nat) : Int) := by unfold wrap64; omega
    refine Ev.step (f := fun k => (name_sign.f k (bt s i)).bind fun bt104 => (if (Go.bits .and .i64 bt104.2 kd) = 0 then (some 0) else (name_Kind.l0 k s kd (s.size : Int) ((i + 1 : Nat) : Int)))) (fun k => ?_) ?_
    · simp only [name_Kind.l0]
      rw [if_pos (by omega), if_pos (by omega), if_pos (by omega), hw]
    · refine Ev.bind (sign_ev _) ?_
      by_cases hb : Go.bits .and .i64 (sg (bt s i)).2 kd = 0
      · simp only [hb, if_true]
        have : cp kd (bt s i) = false := by simp [cp, hb]
        simpa [allR, this] using Ev.now (0 : Int)
      · simp only [hb, if_false]
        have : cp kd (bt s i) = true := by simp [cp, hb]
        simpa only [allR, this, Bool.true_and] using ih


theorem kind_first (s : ByteArray) (n : Nat) (hn : s.size = n + 1) : (if allR (fun j => cp (sg (bt s 0)).1 (bt s j)) s.size 0 then (sg (bt s 0)).1 else 0) = (if allR (smB s) s.size 0 then 1 else if allR (grB s) s.size 0 then 2 else 0) := by
  have hsm : allR (smB s) s.size 0 = (lo (bt s 0) && allR (fun j => cp 1 (bt s j)) n 1) := by
    rw [hn]
    simp only [allR]
    have h0 : smB s 0 = lo (bt s 0) := by simp [smB]
    rw [h0, allR_congr n 1 (q := fun j => cp 1 (bt s j)) (fun j h1 h2 => by simp only [cp1, smB]; simp [show 0 < j from h1])]
  have hgr : allR (grB s) s.size 0 = (up (bt s 0) && allR (fun j => cp 2 (bt s j)) n 1) := by
    rw [hn]
    simp only [allR]
    have h0 : grB s 0 = up (bt s 0) := by simp [grB]
    rw [h0, allR_congr n 1 (q := fun j => cp 2 (bt s j)) (fun j h1 h2 => by simp only [cp2, grB]; simp [show 0 < j from h1])]
  rw [hsm, hgr]
  by_cases h1 : lo (bt s 0) = true
  · have h2 : up (bt s 0) = false := by simp [up, lo] at h1 ⊢; omega
    have hsg : (sg (bt s 0)).1 = 1 := by simp [sg, h1]
    have : cp 1 (bt s (0 : Nat)) = true := by rw [cp1]; simp [h1]
    rw [hsg, hn, show allR (fun j => cp 1 (bt s j)) (n + 1) 0 = (cp 1 (bt s (0 : Nat)) && allR (fun j => cp 1 (bt s j)) n 1) from rfl, this]
    simp [h1, h2]
  · by_cases h2 : up (bt s 0) = true
    · have hsg : (sg (bt s 0)).1 = 2 := by simp [sg, h1, h2]
      have : cp 2 (bt s (0 : Nat)) = true := by rw [cp2]; simp [h2]
      rw [hsg, hn, show allR (fun j => cp 2 (bt s j)) (n + 1) 0 = (cp 2 (bt s (0 : Nat)) && allR (fun j => cp 2 (bt s j)) n 1) from rfl, this]
      simp [h1, h2]
    · have hsg : (sg (bt s 0)).1 = 0 := by unfold sg; simp [h1, h2]; split <;> rfl
      rw [hsg]
      simp [h1, h2]

theorem tl_len (s : ByteArray) : s.toList.length = s.size := by rw [ByteArray.toList_eq, data_length]
theorem kind_ev (s : ByteArray) : Ev (fun k => name_Kind.f k s) (kindOf s) := by
  have hj1 : Ev (fun k => name_Kind.j0 k s true) 0 := Ev.step (f := fun _ => some 0) (fun k => by simp only [name_Kind.j0, if_true]) (Ev.now 0)
  by_cases h0 : s.toList = ([] : List UInt8)
  · have hz : s.size = 0 := by
      have : s.toList.length = 0 := by rw [h0]; rfl
      rwa [tl_len] at this
    have : kindOf s = 0 := by simp [kindOf, hz]
    rw [this]
    exact Ev.congr (fun k => by unfold name_Kind.f; rw [if_pos h0]) hj1
  · have hz : s.size ≠ 0 := by
      intro hz
      apply h0
      apply List.eq_nil_of_length_eq_zero
      rw [tl_len]
      exact hz
    by_cases h8 : 8 < s.size
    · have : kindOf s = 0 := by simp [kindOf, h8]
      rw [this]
      refine Ev.congr (fun k => ?_) hj1
      unfold name_Kind.f
      rw [if_neg h0]
      rw [show decide ((s.size : Int) > 8) = true from decide_eq_true (by omega)]
    · obtain ⟨n, hn⟩ : ∃ n, s.size = n + 1 := ⟨s.size - 1, by omega⟩
      have hk : kindOf s = (if allR (fun j => cp (sg (bt s 0)).1 (bt s j)) s.size 0 then (sg (bt s 0)).1 else 0) := by
        rw [kind_first s n hn]
        unfold kindOf
        rw [if_neg (by omega)]
      rw [hk]
      refine Ev.congr (f := fun k => name_Kind.j0 k s false) (fun k => ?_) ?_
      · unfold name_Kind.f
        rw [if_neg h0]
        rw [show decide ((s.size : Int) > 8) = false from decide_eq_false (by omega)]
      · refine Ev.step (f := fun k => (name_sign.f k (bt s 0)).bind fun bt102 => name_Kind.l0 k s bt102.1 (s.size : Int) 0) (fun k => ?_) ?_
        · simp only [name_Kind.j0]
          rw [if_neg (by decide), if_pos (by omega)]
        · exact Ev.bind (sign_ev _) (kind_l0 s _ (by omega) s.size 0 (by omega))

theorem rkind_step (k : Nat) (s : ByteArray) (a b : Bool) (i : Nat) (hi : i < s.size) (hs : s.size ≤ 4611686018427387904) :
    aumbryref03_Kind.l0 (k + 1) s a b (i : Int) = aumbryref03_Kind.l0 k s (a && smB s i) (b && grB s i) ((i + 1 : Nat) : Int) := by
  have hw : wrap64 ((i : Int) + 1) = ((i + 1 : Nat) : Int) := by unfold wrap64; omega
  have hd : decide ((i : Int) > 0) = decide (0 < i) := by
    by_cases h : 0 < i
    · rw [decide_eq_true h, decide_eq_true (by omega)]
    · rw [decide_eq_false h, decide_eq_false (by omega)]
  simp only [aumbryref03_Kind.l0]
  rw [if_pos (by omega), if_pos (by omega), hw, hd]
  unfold smB grB lo up dg
  generalize bt s i = c
  generalize decide (0 < i) = z
  by_cases c1 : c ≥ 48
  · by_cases c2 : c ≤ 57
    · have e1 : ¬ c ≥ 97 := by omega
      have e2 : ¬ c ≥ 65 := by omega
      have e3 : ¬ 97 ≤ c := by omega
      have e4 : ¬ 65 ≤ c := by omega
      have e5 : 48 ≤ c := by omega
      cases a <;> cases b <;> simp [c1, c2, e1, e2, e3, e4, e5]
    · by_cases c3 : c ≥ 65
      · by_cases c4 : c ≤ 90
        · have e1 : ¬ c ≥ 97 := by omega
          have e3 : ¬ 97 ≤ c := by omega
          have e4 : 65 ≤ c := by omega
          have e5 : 48 ≤ c := by omega
          cases a <;> cases b <;> simp [c1, c2, c3, c4, e1, e3, e4, e5]
        · by_cases c5 : c ≥ 97
          · by_cases c6 : c ≤ 122
            · have e3 : 97 ≤ c := by omega
              have e4 : 65 ≤ c := by omega
              have e5 : 48 ≤ c := by omega
              cases a <;> cases b <;> simp [c1, c2, c3, c4, c5, c6, e3, e4, e5]
            · have e3 : 97 ≤ c := by omega
              have e4 : 65 ≤ c := by omega
              have e5 : 48 ≤ c := by omega
              cases a <;> cases b <;> simp [c1, c2, c3, c4, c5, c6, e3, e4, e5]
          · have e3 : ¬ 97 ≤ c := by omega
            have e4 : 65 ≤ c := by omega
            have e5 : 48 ≤ c := by omega
            cases a <;> cases b <;> simp [c1, c2, c3, c4, c5, e3, e4, e5]
      · have e1 : ¬ c ≥ 97 := by omega
        have e3 : ¬ 97 ≤ c := by omega
        have e4 : ¬ 65 ≤ c := by omega
        have e5 : 48 ≤ c := by omega
        cases a <;> cases b <;> simp [c1, c2, c3, e1, e3, e4, e5]
  · have e1 : ¬ c ≥ 97 := by omega
    have e2 : ¬ c ≥ 65 := by omega
    have e3 : ¬ 97 ≤ c := by omega
    have e4 : ¬ 65 ≤ c := by omega
    have e5 : ¬ 48 ≤ c := by omega
    cases a <;> cases b <;> simp [c1, e1, e2, e3, e4, e5]

theorem rkind_l0 (s : ByteArray) (hs : s.size ≤ 4611686018427387904) : ∀ (d i : Nat) (a b : Bool), i + d = s.size → Ev (fun k => aumbryref03_Kind.l0 k s a b (i : Int)) (if (a && allR (smB s) d i) then 1 else if (b && allR (grB s) d i) then 2 else 0)
  | 0, i, a, b, h => by
    refine Ev.step (f := fun _ => some (if (a && allR (smB s) 0 i) then 1 else if (b && allR (grB s) 0 i) then 2 else 0)) (fun k => ?_) (Ev.now _)
    simp only [aumbryref03_Kind.l0]
    rw [if_neg (by omega)]
    cases a <;> cases b <;> simp [allR]
  | d + 1, i, a, b, h => by
    have ih := rkind_l0 s hs d (i + 1) (a && smB s i) (b && grB s i) (by omega)
    refine Ev.step (f := fun k => aumbryref03_Kind.l0 k s (a && smB s i) (b && grB s i) ((i + 1 : Nat) : Int)) (fun k => rkind_step k s a b i (by omega) hs) ?_
    have e1 : (a && allR (smB s) (d + 1) i) = ((a && smB s i) && allR (smB s) d (i + 1)) := by simp only [allR, Bool.and_assoc]
    have e2 : (b && allR (grB s) (d + 1) i) = ((b && grB s i) && allR (grB s) d (i + 1)) := by simp only [allR, Bool.and_assoc]
    rw [e1, e2]
    exact ih

theorem rkind_ev (s : ByteArray) : Ev (fun k => aumbryref03_Kind.f k s) (kindOf s) := by
  have hj1 : Ev (fun k => aumbryref03_Kind.j0 k s true) 0 := Ev.step (f := fun _ => some 0) (fun k => by simp only [aumbryref03_Kind.j0, if_true]) (Ev.now 0)
  by_cases hz : s.size = 0
  · have : kindOf s = 0 := by simp [kindOf, hz]
    rw [this]
    exact Ev.congr (fun k => by unfold aumbryref03_Kind.f; rw [if_pos (by omega)]) hj1
  · by_cases h8 : 8 < s.size
    · have : kindOf s = 0 := by simp [kindOf, h8]
      rw [this]
      refine Ev.congr (fun k => ?_) hj1
      unfold aumbryref03_Kind.f
      rw [if_neg (by omega)]
      rw [show decide ((s.size : Int) > 8) = true from decide_eq_true (by omega)]
    · have hk : kindOf s = (if (true && allR (smB s) s.size 0) then 1 else if (true && allR (grB s) s.size 0) then 2 else 0) := by
        unfold kindOf
        rw [if_neg (by omega)]
        simp
      rw [hk]
      refine Ev.congr (f := fun k => aumbryref03_Kind.j0 k s false) (fun k => ?_) ?_
      · unfold aumbryref03_Kind.f
        rw [if_neg (by omega)]
        rw [show decide ((s.size : Int) > 8) = false from decide_eq_false (by omega)]
      · refine Ev.step (f := fun k => aumbryref03_Kind.l0 k s true true 0) (fun k => ?_) ?_
        · simp only [aumbryref03_Kind.j0]
          rw [if_neg (by decide)]
        · exact rkind_l0 s (by omega) s.size 0 true true (by omega)


end Go.Proofs.YtnkpcnnbeaomnaaDoor.C
end

section
/- Whether a list of cells is a term: the program's Check and the reference's come to the same plain answer, chk, at every list. -/
namespace Go.Proofs.YtnkpcnnbeaomnaaDoor.C
open Go.RowKit Go.Proofs.YtnkpcnnbeaomnaaDoorW.PrintWords Go.Proofs.YtnkpcnnbeaomnaaDoorW.PrintLast Go.Proofs.YtnkpcnnbeaomnaaDoorW.PrintMore
set_option linter.unusedVariables false
set_option linter.unusedSimpArgs false

theorem Ev.nxt {α : Type} {g : Nat → Option α} {r : α} (K : Nat) (h : ∀ k, K ≤ k → g (k + 1) = some r) : Ev g r :=
  ⟨K + 1, fun k hk => by obtain ⟨m, rfl⟩ : ∃ m, k = m + 1 := ⟨k - 1, by omega⟩; exact h m (by omega)⟩

def cellErr (c : S33) : Int := if kindOf c.f0 = 0 then 4 else if c.f1 < 0 then 5 else if c.f1 > 4 then 5 else if kindOf c.f0 = 2 ∧ c.f1 > 0 then 5 else 0
def firstErr : List S33 → Int
  | [] => 0
  | c :: r => if cellErr c = 0 then firstErr r else cellErr c
/-- What stands behind n terms at a list's head. -/
def skip : Nat → List S33 → Option (List S33)
  | 0, l => some l
  | _ + 1, [] => none
  | n + 1, c :: r => skip (n + c.f1.toNat) r
def endOf (t : List S33) (n : Nat) (l : List S33) : Int := match skip n l with
  | some r => (t.length : Int) - r.length
  | none => -1
def chk (t : List S33) : Int := if t.length > 64 then 6 else if firstErr t = 0 then (match skip 1 t with | some [] => 0 | _ => 3) else firstErr t

theorem cell_ev (c : S33) : Ev (fun k => term_cell.f k c.f0 c.f1) (cellErr c) := by
  obtain ⟨K, h⟩ := kind_ev c.f0
  refine ⟨K, fun k hk => ?_⟩
  have h1 := h k hk
  dsimp only at h1 ⊢
  unfold term_cell.f cellErr
  rw [h1, Option.bind_some]
  by_cases c1 : kindOf c.f0 = 0
  · rw [if_pos c1, if_pos c1]
  · rw [if_neg c1, if_neg c1]
    by_cases c2 : c.f1 < 0
    · rw [if_pos c2, if_pos c2]
    · rw [if_neg c2, if_neg c2]
      by_cases c3 : c.f1 > 4
      · rw [if_pos c3, if_pos c3]
      · rw [if_neg c3, if_neg c3]
        by_cases c4 : kindOf c.f0 = 2
        · by_cases c5 : c.f1 > 0
          · rw [if_pos c4, if_pos c5, if_pos ⟨c4, c5⟩]
          · rw [if_pos c4, if_neg c5, if_neg (fun h => c5 h.2)]
        · rw [if_neg c4, if_neg (fun h => c4 h.1)]

theorem drop_rd (t : List S33) (i : Nat) (h : i < t.length) : t.drop i = rd_T33 t i :: t.drop (i + 1) := by
  rw [List.drop_eq_getElem_cons h]
  simp [rd_T33, List.getD_eq_getElem?_getD, List.getElem?_eq_getElem h]
theorem drop_end (t : List S33) (i : Nat) (h : t.length ≤ i) : t.drop i = [] := List.drop_eq_nil_of_le h

/-- All cells' numbers of arguments are from 0 to 4. -/
def tame (t : List S33) : Prop := ∀ c ∈ t, 0 ≤ c.f1 ∧ c.f1 ≤ 4
theorem tame_rd {t : List S33} (h : tame t) (i : Nat) (hi : i < t.length) : 0 ≤ (rd_T33 t i).f1 ∧ (rd_T33 t i).f1 ≤ 4 := by
  have : rd_T33 t i = t[i] := by simp [rd_T33, List.getD_eq_getElem?_getD, List.getElem?_eq_getElem hi]
  rw [this]
  exact h _ (List.getElem_mem hi)
theorem tame_of_first : ∀ (t : List S33), firstErr t = 0 → tame t
  | [], _ => fun _ h => by cases h
  | c :: r, h => by
    simp only [firstErr] at h
    split at h
    · rename_i hc
      intro x hx
      rcases List.mem_cons.1 hx with rfl | hx
      · unfold cellErr at hc
        split at hc
        · exact absurd hc (by decide)
        · split at hc
          · exact absurd hc (by decide)
          · split at hc
            · exact absurd hc (by decide)
            · omega
      · exact tame_of_first r h x hx
    · rename_i hc; exact absurd h hc

theorem behind_l0 (t : List S33) (ht : tame t) (hl : t.length ≤ 1000000) : ∀ (d i n : Nat), i + d = t.length → n ≤ 4 * i + 1 → Ev (fun k => term_behind.l0 k t (i : Int) (n : Int)) (endOf t n (t.drop i))
  | d, i, 0, h, hn => by
    refine Ev.nxt 0 (fun k _ => ?_)
    simp only [term_behind.l0]
    rw [if_neg (by omega)]
    simp only [endOf, skip, List.length_drop]
    congr 1
    omega
  | 0, i, n + 1, h, hn => by
    refine Ev.nxt 0 (fun k _ => ?_)
    simp only [term_behind.l0]
    rw [if_pos (by omega), if_pos (by omega), drop_end t i (by omega)]
    rfl
  | d + 1, i, n + 1, h, hn => by
    obtain ⟨h0, h4⟩ := tame_rd ht i (by omega)
    have hw : wrap64 ((i : Int) + 1) = ((i + 1 : Nat) : Int) := by unfold wrap64; omega
    have hw2 : wrap64 (((n + 1 : Nat) : Int) + (wrap64 (((rd_T33 t i).f1) - 1))) = ((n + (rd_T33 t i).f1.toNat : Nat) : Int) := by unfold wrap64; omega
    have ih := behind_l0 t ht hl d (i + 1) (n + (rd_T33 t i).f1.toNat) (by omega) (by omega)
    refine Ev.step (f := fun k => term_behind.l0 k t ((i + 1 : Nat) : Int) ((n + (rd_T33 t i).f1.toNat : Nat) : Int)) (fun k => ?_) ?_
    · simp only [term_behind.l0]
      rw [if_pos (by omega), if_neg (by omega), if_pos (by omega), if_pos (by omega), hw, hw2]
    · rw [drop_rd t i (by omega)]
      exact ih

theorem behind_ev (t : List S33) (ht : tame t) (hl : t.length ≤ 1000000) (i : Nat) (hi : i ≤ t.length) : Ev (fun k => term_behind.f k t (i : Int)) (endOf t 1 (t.drop i)) :=
  behind_l0 t ht hl (t.length - i) i 1 (by omega) (by omega)

theorem check_l0 (t : List S33) (hl : t.length ≤ 64) : ∀ (d i : Nat), i + d = t.length → firstErr (t.take i) = 0 → Ev (fun k => term_Check.l0 k t t (t.length : Int) (i : Int)) (if firstErr (t.drop i) = 0 then (match skip 1 t with | some [] => 0 | _ => 3) else firstErr (t.drop i))
  | 0, i, h, hf => by
    have hi : i = t.length := by omega
    subst hi
    rw [List.take_length] at hf
    have ht := tame_of_first t hf
    refine Ev.step (f := fun k => (term_behind.f k t 0).bind fun t111 => (if t111 = (t.length : Int) then (some 0) else (some 3))) (fun k => ?_) ?_
    · simp only [term_Check.l0]
      rw [if_neg (by omega)]
    · refine Ev.bind (a := endOf t 1 t) (by simpa using behind_ev t ht (by omega) 0 (by omega)) ?_
      rw [List.drop_length]
      simp only [firstErr, if_true]
      unfold endOf
      cases hs : skip 1 t with
      | none => simpa [hs] using (show Ev (fun n : Nat => if (-1 : Int) = (t.length : Int) then some (0 : Int) else some 3) 3 from by rw [if_neg (by omega)]; exact Ev.now 3)
      | some r =>
        cases r with
        | nil => simpa using Ev.now (0 : Int)
        | cons c r =>
          have : ¬ ((t.length : Int) - ((c :: r).length : Nat) = (t.length : Int)) := by simp; omega
          simp only [this, if_false]
          exact Ev.now (3 : Int)
  | d + 1, i, h, hf => by
    have hw : wrap64 ((i : Int) + 1) = ((i + 1 : Nat) : Int) := by unfold wrap64; omega
    have hd := drop_rd t i (by omega)
    refine Ev.step (f := fun k => (term_cell.f k ((rd_T33 t i).f0) ((rd_T33 t i).f1)).bind fun t110 => (if t110 = 0 then (term_Check.l0 k t t (t.length : Int) ((i + 1 : Nat) : Int)) else (some t110))) (fun k => ?_) ?_
    · simp only [term_Check.l0]
      rw [if_pos (by omega), if_pos (by omega), if_pos (by omega), hw]
    · refine Ev.bind (cell_ev _) ?_
      rw [hd]
      simp only [firstErr]
      by_cases hc : cellErr (rd_T33 t i) = 0
      · simp only [hc, if_true]
        refine check_l0 t hl d (i + 1) (by omega) ?_
        rw [List.take_succ_eq_append_getElem (by omega)]
        have : rd_T33 t i = t[i] := by simp [rd_T33, List.getD_eq_getElem?_getD, List.getElem?_eq_getElem (show i < t.length by omega)]
        rw [← this]
        clear hd
        generalize rd_T33 t i = c at *
        generalize t.take i = l at *
        induction l with
        | nil => simp [firstErr, hc]
        | cons x l ih =>
          simp only [firstErr, List.cons_append] at hf ⊢
          split at hf
          · rename_i hx
            rw [if_pos hx]
            exact ih hf
          · rename_i hx; exact absurd hf hx
      · simp only [hc, if_false]
        exact Ev.now _

theorem check_ev (t : List S33) : Ev (fun k => term_Check.f k t) (chk t) := by
  by_cases h : t.length > 64
  · refine Ev.congr (f := fun _ => some 6) (fun k => ?_) ?_
    · unfold term_Check.f; rw [if_pos (by omega)]
    · unfold chk; rw [if_pos h]; exact Ev.now 6
  · refine Ev.congr (f := fun k => term_Check.l0 k t t (t.length : Int) ((0 : Nat) : Int)) (fun k => ?_) ?_
    · unfold term_Check.f; rw [if_neg (by omega)]; rfl
    · unfold chk
      rw [if_neg h]
      exact check_l0 t (by omega) t.length 0 (by omega) (by simp [firstErr])

/-! ### the reference's -/
theorem skip_add : ∀ (n m : Nat) (l : List S33), skip (n + m) l = (skip n l).bind (skip m)
  | 0, m, l => by simp [skip]
  | n + 1, m, [] => by rw [show n + 1 + m = (n + m) + 1 by omega]; simp [skip]
  | n + 1, m, c :: r => by
    rw [show n + 1 + m = (n + m) + 1 by omega]
    simp only [skip]
    rw [show n + m + c.f1.toNat = (n + c.f1.toNat) + m by omega]
    exact skip_add _ m r
termination_by _ _ l => l.length

theorem skip_len : ∀ (n : Nat) (l r : List S33), skip n l = some r → ∃ i, i ≤ l.length ∧ r = l.drop i ∧ (n ≠ 0 → 0 < i)
  | 0, l, r, h => by
    simp only [skip] at h
    obtain rfl := Option.some.inj h
    exact ⟨0, by omega, rfl, fun h => absurd rfl h⟩
  | n + 1, [], r, h => by simp [skip] at h
  | n + 1, c :: l, r, h => by
    simp only [skip] at h
    obtain ⟨i, h1, h2, _⟩ := skip_len _ l r h
    exact ⟨i + 1, by simp; omega, by simpa using h2, fun _ => by omega⟩
termination_by _ l => l.length

def BF (t : List S33) (d : Nat) : Prop := ∀ i : Nat, i ≤ t.length → t.length - i ≤ d → Ev (fun k => aumbryref04_Behind.f k t (i : Int)) (endOf t 1 (t.drop i))
theorem rbehind_l0 (t : List S33) (ht : tame t) (hl : t.length ≤ 1000000) (d : Nat) (ih : BF t d) : ∀ (m n i j : Nat), j + m = n → n ≤ 4 → i ≤ t.length → t.length - i ≤ d → Ev (fun k => aumbryref04_Behind.l0 k t (i : Int) (n : Int) (j : Int)) (endOf t m (t.drop i))
  | 0, n, i, j, h, hn, hi, hd => by
    refine Ev.nxt 0 (fun k _ => ?_)
    simp only [aumbryref04_Behind.l0]
    rw [if_neg (by omega)]
    simp only [endOf, skip, List.length_drop]
    congr 1
    omega
  | m + 1, n, i, j, h, hn, hi, hd => by
    have hw : wrap64 ((j : Int) + 1) = ((j + 1 : Nat) : Int) := by unfold wrap64; omega
    have h1 := ih i hi hd
    refine Ev.step (f := fun k => (aumbryref04_Behind.f k t (i : Int)).bind fun t319 => (aumbryref04_Behind.l0 k t t319 (n : Int) ((j + 1 : Nat) : Int))) (fun k => ?_) ?_
    · simp only [aumbryref04_Behind.l0]
      rw [if_pos (by omega), if_pos (by omega), hw]
    · refine Ev.bind h1 ?_
      have hs : skip (m + 1) (t.drop i) = (skip 1 (t.drop i)).bind (skip m) := by rw [Nat.add_comm]; exact skip_add 1 m _
      cases hq : skip 1 (t.drop i) with
      | none =>
        have e1 : endOf t 1 (t.drop i) = -1 := by unfold endOf; rw [hq]
        have e2 : endOf t (m + 1) (t.drop i) = -1 := by unfold endOf; rw [hs, hq]; rfl
        rw [e1, e2]
        refine Ev.nxt 0 (fun k _ => ?_)
        simp only [aumbryref04_Behind.l0]
        by_cases hjn : ((j + 1 : Nat) : Int) < (n : Int)
        · rw [if_pos hjn, if_neg (by omega)]
        · rw [if_neg hjn]
      | some r =>
        obtain ⟨q, hq1, hq2, hq3⟩ := skip_len 1 _ r hq
        have hq0 := hq3 (by decide)
        rw [List.length_drop] at hq1
        have hr : r = t.drop (i + q) := by rw [hq2, List.drop_drop]
        have e1 : endOf t 1 (t.drop i) = ((i + q : Nat) : Int) := by
          unfold endOf
          rw [hq]
          simp only [hr, List.length_drop]
          omega
        have e2 : endOf t (m + 1) (t.drop i) = endOf t m (t.drop (i + q)) := by
          unfold endOf
          rw [hs, hq, hr]
          rfl
        rw [e1, e2]
        exact rbehind_l0 t ht hl d ih m n (i + q) (j + 1) (by omega) hn (by omega) (by omega)

theorem rbehind_all (t : List S33) (ht : tame t) (hl : t.length ≤ 1000000) : ∀ d, BF t d := by
  intro d
  induction d with
  | zero =>
    intro i hi hd
    have hi' : i = t.length := by omega
    subst hi'
    refine Ev.nxt 1 (fun k hk => ?_)
    obtain ⟨k, rfl⟩ : ∃ m, k = m + 1 := ⟨k - 1, by omega⟩
    simp only [aumbryref04_Behind.f]
    rw [if_neg (by omega), show decide ((t.length : Int) ≥ (t.length : Int)) = true from decide_eq_true (by omega)]
    simp only [aumbryref04_Behind.j0, if_true, List.drop_length, endOf, skip]
  | succ d ih =>
    intro i hi hd
    by_cases hlt : i < t.length
    · obtain ⟨h0, h4⟩ := tame_rd ht i hlt
      have hw : wrap64 ((i : Int) + 1) = ((i + 1 : Nat) : Int) := by unfold wrap64; omega
      have hn : ((rd_T33 t i).f1.toNat : Int) = (rd_T33 t i).f1 := by omega
      refine Ev.step (f := fun k => aumbryref04_Behind.j0 k t (i : Int) false) (fun k => ?_) (Ev.step (f := fun k => aumbryref04_Behind.l0 k t ((i + 1 : Nat) : Int) ((rd_T33 t i).f1.toNat : Int) ((0 : Nat) : Int)) (fun k => ?_) ?_)
      · simp only [aumbryref04_Behind.f]
        rw [if_neg (by omega), show decide ((i : Int) ≥ (t.length : Int)) = false from decide_eq_false (by omega)]
      · simp only [aumbryref04_Behind.j0]
        rw [if_neg (by decide), if_pos (by omega), if_pos (by omega), hw, hn]
        rfl
      · rw [drop_rd t i hlt]
        have : endOf t 1 (rd_T33 t i :: t.drop (i + 1)) = endOf t (rd_T33 t i).f1.toNat (t.drop (i + 1)) := by
          unfold endOf
          simp only [skip, Nat.zero_add]
        rw [this]
        exact rbehind_l0 t ht hl d ih _ _ (i + 1) 0 (by omega) (by omega) (by omega) (by omega)
    · have hi' : i = t.length := by omega
      subst hi'
      refine Ev.nxt 1 (fun k hk => ?_)
      obtain ⟨k, rfl⟩ : ∃ m, k = m + 1 := ⟨k - 1, by omega⟩
      simp only [aumbryref04_Behind.f]
      rw [if_neg (by omega), show decide ((t.length : Int) ≥ (t.length : Int)) = true from decide_eq_true (by omega)]
      simp only [aumbryref04_Behind.j0, if_true, List.drop_length, endOf, skip]

theorem rbehind_ev (t : List S33) (ht : tame t) (hl : t.length ≤ 1000000) (i : Nat) (hi : i ≤ t.length) : Ev (fun k => aumbryref04_Behind.f k t (i : Int)) (endOf t 1 (t.drop i)) := rbehind_all t ht hl _ i hi (Nat.le_refl _)

theorem rcheck_l0 (t : List S33) (hl : t.length ≤ 64) : ∀ (d i : Nat), i + d = t.length → firstErr (t.take i) = 0 → Ev (fun k => aumbryref04_Check.l0 k t (t.length : Int) (i : Int)) (if firstErr (t.drop i) = 0 then (match skip 1 t with | some [] => 0 | _ => 3) else firstErr (t.drop i))
  | 0, i, h, hf => by
    have hi : i = t.length := by omega
    subst hi
    rw [List.take_length] at hf
    have ht := tame_of_first t hf
    refine Ev.step (f := fun k => (aumbryref04_Behind.f k t 0).bind fun t111 => (if t111 = (t.length : Int) then (some 0) else (some 3))) (fun k => ?_) ?_
    · simp only [aumbryref04_Check.l0]
      rw [if_neg (by omega)]
    · refine Ev.bind (a := endOf t 1 t) (by simpa using rbehind_ev t ht (by omega) 0 (by omega)) ?_
      rw [List.drop_length]
      simp only [firstErr, if_true]
      unfold endOf
      cases hs : skip 1 t with
      | none => simpa [hs] using (show Ev (fun n : Nat => if (-1 : Int) = (t.length : Int) then some (0 : Int) else some 3) 3 from by rw [if_neg (by omega)]; exact Ev.now 3)
      | some r =>
        cases r with
        | nil => simpa using Ev.now (0 : Int)
        | cons c r =>
          have : ¬ ((t.length : Int) - ((c :: r).length : Nat) = (t.length : Int)) := by simp; omega
          simp only [this, if_false]
          exact Ev.now (3 : Int)
  | d + 1, i, h, hf => by
    have hw : wrap64 ((i : Int) + 1) = ((i + 1 : Nat) : Int) := by unfold wrap64; omega
    have hd := drop_rd t i (by omega)
    obtain ⟨K, hk⟩ := rkind_ev (rd_T33 t i).f0
    dsimp only at hk
    rw [hd]
    by_cases hc : cellErr (rd_T33 t i) = 0
    · rw [show firstErr (rd_T33 t i :: t.drop (i + 1)) = firstErr (t.drop (i + 1)) from by simp only [firstErr]; rw [if_pos hc]]
      have ih := rcheck_l0 t hl d (i + 1) (by omega) (by
        rw [List.take_succ_eq_append_getElem (by omega)]
        have : rd_T33 t i = t[i] := by simp [rd_T33, List.getD_eq_getElem?_getD, List.getElem?_eq_getElem (show i < t.length by omega)]
        rw [← this]
        clear hd hk
        generalize rd_T33 t i = c at *
        generalize t.take i = l at *
        induction l with
        | nil => simp [firstErr, hc]
        | cons x l ih =>
          simp only [firstErr, List.cons_append] at hf ⊢
          split at hf
          · rename_i hx
            rw [if_pos hx]
            exact ih hf
          · rename_i hx; exact absurd hf hx)
      obtain ⟨K2, ih⟩ := ih
      dsimp only at ih
      refine Ev.nxt (max K K2) (fun k hkk => ?_)
      simp only [aumbryref04_Check.l0]
      rw [if_pos (by omega), if_pos (by omega), if_pos (by omega), hw, hk k (by omega), Option.bind_some]
      unfold cellErr at hc
      by_cases c1 : kindOf (rd_T33 t i).f0 = 0
      · rw [if_pos c1] at hc; exact absurd hc (by decide)
      · rw [if_neg c1] at hc ⊢
        by_cases c2 : (rd_T33 t i).f1 < 0
        · rw [if_pos c2] at hc; exact absurd hc (by decide)
        · rw [if_neg c2] at hc ⊢
          by_cases c3 : (rd_T33 t i).f1 > 4
          · rw [if_pos c3] at hc; exact absurd hc (by decide)
          · rw [if_neg c3] at hc ⊢
            by_cases c4 : kindOf (rd_T33 t i).f0 = 2
            · rw [if_pos c4]
              by_cases c5 : (rd_T33 t i).f1 = 0
              · rw [if_pos c5]; exact ih k (by omega)
              · rw [if_pos ⟨c4, by omega⟩] at hc; exact absurd hc (by decide)
            · rw [if_neg c4]; exact ih k (by omega)
    · rw [show firstErr (rd_T33 t i :: t.drop (i + 1)) = cellErr (rd_T33 t i) from by simp only [firstErr]; rw [if_neg hc]]
      rw [if_neg hc]
      refine Ev.nxt K (fun k hkk => ?_)
      simp only [aumbryref04_Check.l0]
      rw [if_pos (by omega), if_pos (by omega), if_pos (by omega), hw, hk k (by omega), Option.bind_some]
      unfold cellErr at hc ⊢
      by_cases c1 : kindOf (rd_T33 t i).f0 = 0
      · rw [if_pos c1, if_pos c1]
      · rw [if_neg c1] at hc ⊢
        rw [if_neg c1]
        by_cases c2 : (rd_T33 t i).f1 < 0
        · rw [if_pos c2, if_pos c2]
        · rw [if_neg c2] at hc ⊢
          rw [if_neg c2]
          by_cases c3 : (rd_T33 t i).f1 > 4
          · rw [if_pos c3, if_pos c3]
          · rw [if_neg c3] at hc ⊢
            rw [if_neg c3]
            by_cases c4 : kindOf (rd_T33 t i).f0 = 2
            · rw [if_pos c4]
              by_cases c5 : (rd_T33 t i).f1 = 0
              · rw [if_neg (by omega)] at hc; exact absurd rfl hc
              · rw [if_neg c5, if_pos ⟨c4, by omega⟩]
            · rw [if_neg (fun h => c4 h.1)] at hc; exact absurd rfl hc

theorem rcheck_ev (t : List S33) : Ev (fun k => aumbryref04_Check.f k t) (chk t) := by
  by_cases h : t.length > 64
  · refine Ev.congr (f := fun _ => some 6) (fun k => ?_) ?_
    · unfold aumbryref04_Check.f; rw [if_pos (by omega)]
    · unfold chk; rw [if_pos h]; exact Ev.now 6
  · refine Ev.congr (f := fun k => aumbryref04_Check.l0 k t (t.length : Int) ((0 : Nat) : Int)) (fun k => ?_) ?_
    · unfold aumbryref04_Check.f; rw [if_neg (by omega)]; rfl
    · unfold chk
      rw [if_neg h]
      exact rcheck_l0 t (by omega) t.length 0 (by omega) (by simp [firstErr])

end Go.Proofs.YtnkpcnnbeaomnaaDoor.C
end

section
/- Terms as trees: what a tree is as cells, as text, how deep it is; every list of cells that is a term is some tree's cells. Plain words, no machine. -/
namespace Go.Proofs.YtnkpcnnbeaomnaaDoor.C
open Go.RowKit Go.Proofs.YtnkpcnnbeaomnaaDoorW.PrintWords Go.Proofs.YtnkpcnnbeaomnaaDoorW.PrintLast Go.Proofs.YtnkpcnnbeaomnaaDoorW.PrintMore
set_option linter.unusedVariables false
set_option linter.unusedSimpArgs false

inductive Tr where
  | node (nm : ByteArray) (ks : List Tr)
mutual
def flat : Tr → List S33
  | .node n ks => ⟨n, ks.length⟩ :: flatL ks
def flatL : List Tr → List S33
  | [] => []
  | t :: r => flat t ++ flatL r
end
mutual
/-- Each name is one, variables have no arguments, symbols at most four. -/
def fine : Tr → Prop
  | .node n ks => kindOf n ≠ 0 ∧ ks.length ≤ 4 ∧ (kindOf n = 2 → ks = []) ∧ fineL ks
def fineL : List Tr → Prop
  | [] => True
  | t :: r => fine t ∧ fineL r
end

theorem flat_pos (t : Tr) : 0 < (flat t).length := by cases t; simp [flat]
theorem flatL_append (a b : List Tr) : flatL (a ++ b) = flatL a ++ flatL b := by
  induction a with
  | nil => simp [flatL]
  | cons x r ih => simp [flatL, ih]


theorem skip_forest : ∀ (l : List S33) (n : Nat) (r : List S33), tame l → skip n l = some r → ∃ F : List Tr, F.length = n ∧ l = flatL F ++ r
  | l, 0, r, _, h => by
    simp only [skip] at h
    exact ⟨[], rfl, by simpa [flatL] using Option.some.inj h⟩
  | [], n + 1, r, _, h => by simp [skip] at h
  | c :: l, n + 1, r, ht, h => by
    simp only [skip] at h
    obtain ⟨F, hF, hl⟩ := skip_forest l _ r (fun x hx => ht x (List.mem_cons_of_mem _ hx)) h
    have hc := ht c List.mem_cons_self
    refine ⟨.node c.f0 (F.take c.f1.toNat) :: F.drop c.f1.toNat, by simp [hF], ?_⟩
    have hlen : ((F.take c.f1.toNat).length : Int) = c.f1 := by rw [List.length_take, hF]; omega
    simp only [flatL, flat, List.cons_append, List.append_assoc, hlen]
    rw [← List.append_assoc, ← flatL_append, List.take_append_drop, hl]

theorem firstErr_append : ∀ (a b : List S33), firstErr (a ++ b) = if firstErr a = 0 then firstErr b else firstErr a
  | [], b => by simp [firstErr]
  | c :: a, b => by
    by_cases h : cellErr c = 0
    · have e : ∀ x, firstErr (c :: x) = firstErr x := fun x => by simp only [firstErr]; rw [if_pos h]
      rw [List.cons_append, e, e]
      exact firstErr_append a b
    · have e : ∀ x, firstErr (c :: x) = cellErr c := fun x => by simp only [firstErr]; rw [if_neg h]
      rw [List.cons_append, e, e, if_neg h]

theorem cellErr_ok {n : ByteArray} {a : Nat} (h : cellErr ⟨n, a⟩ = 0) : kindOf n ≠ 0 ∧ a ≤ 4 ∧ (kindOf n = 2 → a = 0) := by
  unfold cellErr at h
  dsimp only at h
  split at h
  · exact absurd h (by decide)
  · rename_i h0
    split at h
    · exact absurd h (by decide)
    · split at h
      · exact absurd h (by decide)
      · rename_i h1
        split at h
        · exact absurd h (by decide)
        · rename_i h2
          refine ⟨h0, by omega, fun hk => ?_⟩
          rcases Nat.eq_zero_or_pos a with ha | ha
          · exact ha
          · exact absurd ⟨hk, by omega⟩ h2

mutual
theorem fine_of : ∀ (T : Tr), firstErr (flat T) = 0 → fine T
  | .node n ks, h => by
    simp only [flat, firstErr] at h
    split at h
    · rename_i hc
      obtain ⟨h0, h1, h2⟩ := cellErr_ok hc
      exact ⟨h0, h1, fun hk => List.eq_nil_of_length_eq_zero (h2 hk), fine_ofL ks h⟩
    · rename_i hc; exact absurd h hc
theorem fine_ofL : ∀ (ks : List Tr), firstErr (flatL ks) = 0 → fineL ks
  | [], _ => trivial
  | t :: r, h => by
    simp only [flatL, firstErr_append] at h
    split at h
    · rename_i hc
      exact ⟨fine_of t hc, fine_ofL r h⟩
    · rename_i hc; exact absurd h hc
end

theorem tree_of_chk (t : List S33) (h : chk t = 0) : ∃ T, t = flat T ∧ fine T ∧ t.length ≤ 64 := by
  unfold chk at h
  split at h
  · exact absurd h (by decide)
  · rename_i hl
    split at h
    · rename_i hf
      split at h
      · rename_i hs
        obtain ⟨F, hF, ht⟩ := skip_forest t 1 [] (tame_of_first t hf) hs
        match F, hF with
        | [T], _ =>
          have hT : t = flat T := by simpa [flatL] using ht
          exact ⟨T, hT, fine_of T (by rw [← hT]; exact hf), by omega⟩
      · exact absurd h (by decide)
    · rename_i hf; exact absurd h hf

/-! ### a name's letters -/


/-! ### where a cell lies -/

end Go.Proofs.YtnkpcnnbeaomnaaDoor.C
end

section
-- Written by a program of this session (a scratch print over hand-made contracts), out of the translation. Not trusted: Lean checks it.
namespace Go.Proofs.YtnkpcnnbeaomnaaDoor.C
open Go.RowKit Go.Proofs.YtnkpcnnbeaomnaaDoorW.PrintWords Go.Proofs.YtnkpcnnbeaomnaaDoorW.PrintLast Go.Proofs.YtnkpcnnbeaomnaaDoorW.PrintMore
attribute [local go_sem] max2_int min2_int max_two min_two max_three min_three max_four min_four   -- for this text's walks alone
set_option linter.unusedVariables false
set_option linter.unusedSimpArgs false

theorem eqA33 (d : Nat) (w : World) (x0 y0 : ByteArray) (x1 y1 : Int) :
    (Op.equalIn (d + 2) 33 (.agg #[.string x0, .int .i64 x1]) (.agg #[.string y0, .int .i64 y1])).run Tryd.prog w = .ok (x0.toList == y0.toList && (x1 == y1)) w := by
  refine eqA_of Tryd.underlying33 (by kernel_rfl) ?_
  refine eqf_cons (by rfl) (by go_simp; rfl) (by go_simp; rfl) (by go_simp) ?_
  exact eqf_last (by rfl) (by go_simp; rfl) (by go_simp; rfl) (by go_simp)
end Go.Proofs.YtnkpcnnbeaomnaaDoor.C
end

section
-- Written by a program of this session (a scratch print over hand-made contracts), out of the translation. Not trusted: Lean checks it.
namespace Go.Proofs.YtnkpcnnbeaomnaaDoor.C
open Go.RowKit Go.Proofs.YtnkpcnnbeaomnaaDoorW.PrintWords Go.Proofs.YtnkpcnnbeaomnaaDoorW.PrintLast Go.Proofs.YtnkpcnnbeaomnaaDoorW.PrintMore
attribute [local go_sem] max2_int min2_int max_two min_two max_three min_three max_four min_four   -- for this text's walks alone
set_option linter.unusedVariables false
set_option linter.unusedSimpArgs false

attribute [local go_sem high] eqA33
/-! ### aumbryref04_Same: function 42 -/

end Go.Proofs.YtnkpcnnbeaomnaaDoor.C
end

section
-- Written by a program of this session (a scratch print over hand-made contracts), out of the translation. Not trusted: Lean checks it.
namespace Go.Proofs.YtnkpcnnbeaomnaaDoor.C
open Go.RowKit Go.Proofs.YtnkpcnnbeaomnaaDoorW.PrintWords Go.Proofs.YtnkpcnnbeaomnaaDoorW.PrintLast Go.Proofs.YtnkpcnnbeaomnaaDoorW.PrintMore
attribute [local go_sem] max2_int min2_int max_two min_two max_three min_three max_four min_four   -- for this text's walks alone
set_option linter.unusedVariables false
set_option linter.unusedSimpArgs false

/-! ### aumbryref04_Kids: function 69 -/

end Go.Proofs.YtnkpcnnbeaomnaaDoor.C
end

section
-- Written by a program of this session (a scratch print over hand-made contracts), out of the translation. Not trusted: Lean checks it.
namespace Go.Proofs.YtnkpcnnbeaomnaaDoor.C
open Go.RowKit Go.Proofs.YtnkpcnnbeaomnaaDoorW.PrintWords Go.Proofs.YtnkpcnnbeaomnaaDoorW.PrintLast Go.Proofs.YtnkpcnnbeaomnaaDoorW.PrintMore
attribute [local go_sem] max2_int min2_int max_two min_two max_three min_three max_four min_four   -- for this text's walks alone
set_option linter.unusedVariables false
set_option linter.unusedSimpArgs false

/-! ### aumbryref04_Text: function 49 -/

end Go.Proofs.YtnkpcnnbeaomnaaDoor.C
end

section
/- What the program's and the reference's functions on terms come to, said of trees: written text, arguments, depth, variables. Plain words, no machine. -/
namespace Go.Proofs.YtnkpcnnbeaomnaaDoor.C
open Go.RowKit Go.Proofs.YtnkpcnnbeaomnaaDoorW.PrintWords Go.Proofs.YtnkpcnnbeaomnaaDoorW.PrintLast Go.Proofs.YtnkpcnnbeaomnaaDoorW.PrintMore
set_option linter.unusedVariables false
set_option linter.unusedSimpArgs false

/-! ### term.write and term.Print -/

def bytes (l : List UInt8) : ByteArray := ⟨l.toArray⟩

/-! ### arguments -/





def hasB (l : List ByteArray) (s : ByteArray) : Bool := l.any fun x => decide (x.toList = s.toList)
theorem drop_of (l : List ByteArray) (i : Nat) (h : i < l.length) : l.drop i = rdOf ByteArray.empty l i :: l.drop (i + 1) := by
  rw [List.drop_eq_getElem_cons h]
  simp [rdOf, List.getD_eq_getElem?_getD, List.getElem?_eq_getElem h]
theorem has_l0 (l : List ByteArray) (s : ByteArray) (hl : l.length ≤ 1000000) : ∀ d i : Nat, i + d = l.length → Ev (fun k => aumbryref03_Has.l0 k l s (l.length : Int) (i : Int)) (hasB (l.drop i) s)
  | 0, i, h => by
    refine Ev.nxt 0 (fun k _ => ?_)
    simp only [aumbryref03_Has.l0]
    rw [if_neg (by omega), List.drop_eq_nil_of_le (by omega)]
    rfl
  | d + 1, i, h => by
    have hw : wrap64 ((i : Int) + 1) = ((i + 1 : Nat) : Int) := by unfold wrap64; omega
    rw [drop_of l i (by omega)]
    by_cases hc : (rdOf ByteArray.empty l i).toList = s.toList
    · refine Ev.nxt 0 (fun k _ => ?_)
      simp only [aumbryref03_Has.l0]
      rw [if_pos (by omega), if_pos (by omega), if_pos (by omega), if_pos hc]
      simp [hasB, hc]
    · refine Ev.step (f := fun k => aumbryref03_Has.l0 k l s (l.length : Int) ((i + 1 : Nat) : Int)) (fun k => ?_) ?_
      · simp only [aumbryref03_Has.l0]
        rw [if_pos (by omega), if_pos (by omega), if_pos (by omega), if_neg hc, hw]
      · have := has_l0 l s hl d (i + 1) (by omega)
        simpa [hasB, hc] using this
theorem has_ev (l : List ByteArray) (s : ByteArray) (hl : l.length ≤ 1000000) : Ev (fun k => aumbryref03_Has.f k l s) (hasB l s) := has_l0 l s hl l.length 0 (by omega)
theorem index_l0 (l : List ByteArray) (s : ByteArray) (hl : l.length ≤ 1000000) : ∀ d i : Nat, i + d = l.length → ∃ r, Ev (fun k => slices_Index_string_string.l0 k l s (l.length : Int) (i : Int)) r ∧ decide (r ≥ 0) = hasB (l.drop i) s
  | 0, i, h => by
    refine ⟨-1, Ev.nxt 0 (fun k _ => ?_), ?_⟩
    · simp only [slices_Index_string_string.l0]
      rw [if_neg (by omega)]
    · rw [List.drop_eq_nil_of_le (by omega)]
      rfl
  | d + 1, i, h => by
    have hw : wrap64 ((i : Int) + 1) = ((i + 1 : Nat) : Int) := by unfold wrap64; omega
    rw [drop_of l i (by omega)]
    by_cases hc : (rdOf ByteArray.empty l i).toList = s.toList
    · refine ⟨(i : Int), Ev.nxt 0 (fun k _ => ?_), ?_⟩
      · simp only [slices_Index_string_string.l0]
        rw [if_pos (by omega), if_pos (by omega), if_pos (by omega), if_pos hc.symm]
      · simp [hasB, hc]
    · obtain ⟨r, h1, h2⟩ := index_l0 l s hl d (i + 1) (by omega)
      refine ⟨r, Ev.step (f := fun k => slices_Index_string_string.l0 k l s (l.length : Int) ((i + 1 : Nat) : Int)) (fun k => ?_) h1, ?_⟩
      · simp only [slices_Index_string_string.l0]
        rw [if_pos (by omega), if_pos (by omega), if_pos (by omega), if_neg (fun h => hc h.symm), hw]
      · rw [h2]
        simp [hasB, hc]
theorem contains_ev (l : List ByteArray) (s : ByteArray) (hl : l.length ≤ 1000000) : Ev (fun k => slices_Contains_string_string.f k l s) (hasB l s) := by
  obtain ⟨r, h1, h2⟩ := index_l0 l s hl l.length 0 (by omega)
  refine Ev.congr (f := fun k => (slices_Index_string_string.l0 k l s (l.length : Int) ((0 : Nat) : Int)).bind fun t457 => (some (decide (t457 ≥ 0)))) (fun k => by rfl) (Ev.bind h1 ?_)
  rw [h2]
  exact Ev.now _

def varsL : List S33 → List ByteArray → List ByteArray
  | [], acc => acc
  | c :: r, acc => varsL r (if kindOf c.f0 = 2 then (if hasB acc c.f0 then acc else acc ++ [c.f0]) else acc)
theorem vars_l0 (t : List S33) (ht : t.length ≤ 1000) : ∀ (d i : Nat) (acc : List ByteArray), i + d = t.length → acc.length ≤ i → Ev (fun k => term_Vars.l0 k acc t (t.length : Int) (i : Int)) (varsL (t.drop i) acc, 0)
  | 0, i, acc, h, ha => by
    refine Ev.nxt 0 (fun k _ => ?_)
    simp only [term_Vars.l0]
    rw [if_neg (by omega), drop_end t i (by omega)]
    rfl
  | d + 1, i, acc, h, ha => by
    have hw : wrap64 ((i : Int) + 1) = ((i + 1 : Nat) : Int) := by unfold wrap64; omega
    rw [drop_rd t i (by omega)]
    obtain ⟨K1, hk⟩ := kind_ev (rd_T33 t i).f0
    obtain ⟨K2, hc⟩ := contains_ev acc (rd_T33 t i).f0 (by omega)
    dsimp only at hk hc
    by_cases c1 : kindOf (rd_T33 t i).f0 = 2
    · by_cases c2 : hasB acc (rd_T33 t i).f0 = true
      · have ih := vars_l0 t ht d (i + 1) acc (by omega) (by omega)
        obtain ⟨K3, ih⟩ := ih
        refine Ev.nxt (max (max K1 K2) K3) (fun k hkk => ?_)
        simp only [term_Vars.l0, varsL]
        rw [if_pos (by omega), if_pos (by omega), if_pos (by omega), hk k (by omega), Option.bind_some, if_pos c1, hc k (by omega), Option.bind_some, if_pos c2, hw, if_pos c1, if_pos c2]
        exact ih k (by omega)
      · have ih := vars_l0 t ht d (i + 1) (acc ++ [(rd_T33 t i).f0]) (by omega) (by simp; omega)
        obtain ⟨K3, ih⟩ := ih
        refine Ev.nxt (max (max K1 K2) K3) (fun k hkk => ?_)
        simp only [term_Vars.l0, varsL]
        rw [if_pos (by omega), if_pos (by omega), if_pos (by omega), hk k (by omega), Option.bind_some, if_pos c1, hc k (by omega), Option.bind_some, if_neg c2, if_pos (by omega), hw, if_pos c1, if_neg c2]
        exact ih k (by omega)
    · have ih := vars_l0 t ht d (i + 1) acc (by omega) (by omega)
      obtain ⟨K3, ih⟩ := ih
      refine Ev.nxt (max K1 K3) (fun k hkk => ?_)
      simp only [term_Vars.l0, varsL]
      rw [if_pos (by omega), if_pos (by omega), if_pos (by omega), hk k (by omega), Option.bind_some, if_neg c1, hw, if_neg c1]
      exact ih k (by omega)
theorem rvars_l0 (t : List S33) (ht : t.length ≤ 1000) : ∀ (d i : Nat) (acc : List ByteArray), i + d = t.length → acc.length ≤ i → Ev (fun k => aumbryref04_Vars.l0 k t acc (t.length : Int) (i : Int)) (varsL (t.drop i) acc)
  | 0, i, acc, h, ha => by
    refine Ev.nxt 0 (fun k _ => ?_)
    simp only [aumbryref04_Vars.l0]
    rw [if_neg (by omega), drop_end t i (by omega)]
    rfl
  | d + 1, i, acc, h, ha => by
    have hw : wrap64 ((i : Int) + 1) = ((i + 1 : Nat) : Int) := by unfold wrap64; omega
    rw [drop_rd t i (by omega)]
    obtain ⟨K1, hk⟩ := rkind_ev (rd_T33 t i).f0
    obtain ⟨K2, hc⟩ := has_ev acc (rd_T33 t i).f0 (by omega)
    dsimp only at hk hc
    by_cases c1 : kindOf (rd_T33 t i).f0 = 2
    · by_cases c2 : hasB acc (rd_T33 t i).f0 = true
      · have ih := rvars_l0 t ht d (i + 1) acc (by omega) (by omega)
        obtain ⟨K3, ih⟩ := ih
        refine Ev.nxt (max (max K1 K2) K3) (fun k hkk => ?_)
        simp only [aumbryref04_Vars.l0, varsL]
        rw [if_pos (by omega), if_pos (by omega), if_pos (by omega), hk k (by omega), Option.bind_some, if_pos c1, hc k (by omega), Option.bind_some, if_pos c2, hw, if_pos c1, if_pos c2]
        exact ih k (by omega)
      · have ih := rvars_l0 t ht d (i + 1) (acc ++ [(rd_T33 t i).f0]) (by omega) (by simp; omega)
        obtain ⟨K3, ih⟩ := ih
        refine Ev.nxt (max (max K1 K2) K3) (fun k hkk => ?_)
        simp only [aumbryref04_Vars.l0, varsL]
        rw [if_pos (by omega), if_pos (by omega), if_pos (by omega), hk k (by omega), Option.bind_some, if_pos c1, hc k (by omega), Option.bind_some, if_neg c2, if_pos (by omega), hw, if_pos c1, if_neg c2]
        exact ih k (by omega)
    · have ih := rvars_l0 t ht d (i + 1) acc (by omega) (by omega)
      obtain ⟨K3, ih⟩ := ih
      refine Ev.nxt (max K1 K3) (fun k hkk => ?_)
      simp only [aumbryref04_Vars.l0, varsL]
      rw [if_pos (by omega), if_pos (by omega), if_pos (by omega), hk k (by omega), Option.bind_some, if_neg c1, hw, if_neg c1]
      exact ih k (by omega)
theorem varsL_len : ∀ (t : List S33) (acc : List ByteArray), (varsL t acc).length ≤ acc.length + t.length
  | [], acc => by simp [varsL]
  | c :: r, acc => by
    simp only [varsL]
    refine Nat.le_trans (varsL_len r _) ?_
    split
    · split
      · simp
      · simp; omega
    · simp
theorem vars_ok (t : List S33) (h : chk t = 0) : Ev (fun k => term_Vars.f k t) (varsL t [], 0) := by
  have hl : t.length ≤ 64 := by obtain ⟨T, _, _, hl⟩ := tree_of_chk t h; exact hl
  have h1 := check_ev t
  rw [h] at h1
  obtain ⟨K1, h1⟩ := h1
  obtain ⟨K2, h2⟩ := vars_l0 t (by omega) t.length 0 [] (by omega) (by simp)
  dsimp only at h1 h2
  refine ⟨max K1 K2, fun k hk => ?_⟩
  dsimp only
  unfold term_Vars.f
  rw [h1 k (by omega), Option.bind_some, if_pos rfl]
  exact h2 k (by omega)
theorem rvars_ev (t : List S33) (h : t.length ≤ 1000) : Ev (fun k => aumbryref04_Vars.f k t) (varsL t []) := rvars_l0 t h t.length 0 [] (by omega) (by simp)

/-! ### alike -/
end Go.Proofs.YtnkpcnnbeaomnaaDoor.C
end

section
-- Written by a program of this session (a scratch print over hand-made contracts), out of the translation. Not trusted: Lean checks it.
namespace Go.Proofs.YtnkpcnnbeaomnaaDoor.C
open Go.RowKit Go.Proofs.YtnkpcnnbeaomnaaDoorW.PrintWords Go.Proofs.YtnkpcnnbeaomnaaDoorW.PrintLast Go.Proofs.YtnkpcnnbeaomnaaDoorW.PrintMore
attribute [local go_sem] max2_int min2_int max_two min_two max_three min_three max_four min_four   -- for this text's walks alone
set_option linter.unusedVariables false
set_option linter.unusedSimpArgs false

/-! ### aumbryref06_Same: function 15 -/

end Go.Proofs.YtnkpcnnbeaomnaaDoor.C
end

section
/- What the program's and the reference's functions on rules come to: one answer for rule.Check and the reference's, the fixed fact, copies. Plain words, no machine. -/
namespace Go.Proofs.YtnkpcnnbeaomnaaDoor.C
open Go.RowKit Go.Proofs.YtnkpcnnbeaomnaaDoorW.PrintWords Go.Proofs.YtnkpcnnbeaomnaaDoorW.PrintLast Go.Proofs.YtnkpcnnbeaomnaaDoorW.PrintMore
set_option linter.unusedVariables false
set_option linter.unusedSimpArgs false

theorem wakes6_at : aumbrylaw06_wakes.f 60 = some true := by kernel_rfl
theorem wakes6_ev : Ev (fun k => aumbrylaw06_wakes.f k) true := Ev.of (g := fun k => aumbrylaw06_wakes.f k) (fun k => aumbrylaw06_wakes.mono k) wakes6_at
theorem copy4 {t : List S33} (h : t.length < 5864062014805) : aumbryref04_Copy.f t = some t := by unfold aumbryref04_Copy.f; rw [if_pos (by simpa using h)]; rfl
theorem copy6 (id : Int) {l r : List S33} (h1 : l.length < 5864062014805) (h2 : r.length < 5864062014805) : aumbryref06_Copy.f id l r = some (id, l, r) := by
  unfold aumbryref06_Copy.f
  rw [copy4 h1, Option.bind_some, copy4 h2, Option.bind_some]

/-- Has one of b no like in a? -/
def missL (a b : List ByteArray) : Bool := b.any fun s => !(hasB a s)
/-- P6.1. -/
def chkR (id : Int) (l r : List S33) : Int := if id < 0 ∨ id > 65535 then 1 else if chk l = 0 then if chk r = 0 then if (l.length : Int) > 8 ∨ (r.length : Int) > 8 then 6 else if kindOf (rd_T33 l 0).f0 = 2 then 20 else if missL (varsL l []) (varsL r []) = true then 7 else 0 else chk r else chk l

theorem miss_l0 (a b : List ByteArray) (ha : a.length ≤ 1000000) (hb : b.length ≤ 1000000) : ∀ d i : Nat, i + d = b.length → ∃ t, Ev (fun k => ruleIdx.l0 k a b (i : Int)) t ∧ decide (t ≥ 0) = missL a (b.drop i)
  | 0, i, h => by
    refine ⟨-1, Ev.nxt 0 (fun k _ => ?_), ?_⟩
    · simp only [ruleIdx.l0]
      rw [if_neg (by omega)]
    · rw [List.drop_eq_nil_of_le (by omega)]
      rfl
  | d + 1, i, h => by
    have hw : wrap64 ((i : Int) + 1) = ((i + 1 : Nat) : Int) := by unfold wrap64; omega
    rw [drop_of b i (by omega)]
    have hc := contains_ev a (rdOf ByteArray.empty b i) ha
    obtain ⟨t, h1, h2⟩ := miss_l0 a b ha hb d (i + 1) (by omega)
    cases hh : hasB a (rdOf ByteArray.empty b i)
    · refine ⟨(i : Int), Ev.step (f := fun k => (slices_Contains_string_string.f k a (rdOf ByteArray.empty b i)).bind fun t => if t = true then ruleIdx.l0 k a b (wrap64 ((i : Int) + 1)) else some (i : Int)) (fun k => ?_) (Ev.bind hc ?_), ?_⟩
      · simp only [ruleIdx.l0]
        rw [if_pos (by omega), if_pos (by omega), if_pos (by omega)]
      · rw [hh]
        exact Ev.now _
      · simp [missL, hh]
    · refine ⟨t, Ev.step (f := fun k => (slices_Contains_string_string.f k a (rdOf ByteArray.empty b i)).bind fun t => if t = true then ruleIdx.l0 k a b (wrap64 ((i : Int) + 1)) else some (i : Int)) (fun k => ?_) (Ev.bind hc ?_), ?_⟩
      · simp only [ruleIdx.l0]
        rw [if_pos (by omega), if_pos (by omega), if_pos (by omega)]
      · rw [hh, hw]
        exact Ev.congr (fun k => by rw [if_pos rfl]) h1
      · rw [h2]
        simp [missL, hh]
theorem strange_ev (l r : List S33) (hl : chk l = 0) (hr : chk r = 0) : Ev (fun k => ruleStrange.f k l r) (missL (varsL l []) (varsL r [])) := by
  have e1 := varsL_len l []
  have e2 := varsL_len r []
  have l1 : l.length ≤ 64 := by obtain ⟨T, _, _, hl⟩ := tree_of_chk l hl; exact hl
  have l2 : r.length ≤ 64 := by obtain ⟨T, _, _, hl⟩ := tree_of_chk r hr; exact hl
  simp only [List.length_nil] at e1 e2
  obtain ⟨t, h1, h2⟩ := miss_l0 (varsL l []) (varsL r []) (by omega) (by omega) (varsL r []).length 0 (by omega)
  rw [List.drop_zero] at h2
  refine Ev.bind (vars_ok l hl) (Ev.bind (vars_ok r hr) (Ev.bind h1 ?_))
  rw [h2]
  exact Ev.now _
theorem ruleCheck_ev (id : Int) (l r : List S33) : Ev (fun k => rule_Check.f k id l r) (chkR id l r) := by
  unfold chkR
  by_cases c0 : id < 0 ∨ id > 65535
  · rw [if_pos c0]
    exact Ev.congr (f := fun _ => some 1) (fun k => by simp only [rule_Check.f]; rw [if_pos c0]) (Ev.now _)
  rw [if_neg c0]
  refine Ev.congr (f := fun k => (term_Check.f k l).bind fun e2 => if e2 = 0 then
    (term_Check.f k r).bind fun e3 => if e3 = 0 then
    if (l.length : Int) > 8 ∨ (r.length : Int) > 8 then some 6 else
    (ruleCheck5.f k l).bind fun e5 => if e5 = 0 then
    (ruleStrange.f k l r).bind fun b => some (if b = true then 7 else 0)
    else some e5 else some e3 else some e2) (fun k => by simp only [rule_Check.f]; rw [if_neg c0]) ?_
  refine Ev.bind (check_ev l) ?_
  by_cases c1 : chk l = 0
  rotate_left
  · simp only [if_neg c1]
    exact Ev.now _
  simp only [if_pos c1]
  refine Ev.bind (check_ev r) ?_
  by_cases c2 : chk r = 0
  rotate_left
  · simp only [if_neg c2]
    exact Ev.now _
  simp only [if_pos c2]
  by_cases c3 : (l.length : Int) > 8 ∨ (r.length : Int) > 8
  · simp only [if_pos c3]
    exact Ev.now _
  simp only [if_neg c3]
  have hp : 0 < l.length := by obtain ⟨T, rfl, _, _⟩ := tree_of_chk l c1; exact flat_pos T
  have h5 : Ev (fun k => ruleCheck5.f k l) (if kindOf (rd_T33 l 0).f0 = 2 then 20 else 0) := by
    refine Ev.congr (f := fun k => (name_Kind.f k (rd_T33 l 0).f0).bind fun n => some (if n = 2 then 20 else 0)) (fun k => by unfold ruleCheck5.f; rw [if_pos (by omega)]) (Ev.bind (kind_ev _) (Ev.now _))
  refine Ev.bind h5 ?_
  by_cases c4 : kindOf (rd_T33 l 0).f0 = 2
  · simp only [if_pos c4]
    exact Ev.now _
  simp only [if_neg c4, if_true]
  refine Ev.bind (strange_ev l r c1 c2) ?_
  exact Ev.now _

theorem rmiss_l0 (a b : List ByteArray) (ha : a.length ≤ 1000000) (hb : b.length ≤ 1000000) : ∀ d i : Nat, i + d = b.length → Ev (fun k => aumbryref06_Check.l0 k a b (b.length : Int) (i : Int)) (if missL a (b.drop i) = true then 7 else 0)
  | 0, i, h => by
    refine Ev.nxt 0 (fun k _ => ?_)
    simp only [aumbryref06_Check.l0]
    rw [if_neg (by omega), List.drop_eq_nil_of_le (by omega)]
    rfl
  | d + 1, i, h => by
    have hw : wrap64 ((i : Int) + 1) = ((i + 1 : Nat) : Int) := by unfold wrap64; omega
    rw [drop_of b i (by omega)]
    have hc := has_ev a (rdOf ByteArray.empty b i) ha
    have ih := rmiss_l0 a b ha hb d (i + 1) (by omega)
    refine Ev.step (f := fun k => (aumbryref03_Has.f k a (rdOf ByteArray.empty b i)).bind fun t239 => (if t239 = true then (aumbryref06_Check.l0 k a b (b.length : Int) (wrap64 ((i : Int) + 1))) else (some 7))) (fun k => ?_) (Ev.bind hc ?_)
    · simp only [aumbryref06_Check.l0]
      rw [if_pos (by omega), if_pos (by omega), if_pos (by omega)]
    cases hh : hasB a (rdOf ByteArray.empty b i)
    · refine Ev.congr (f := fun _ => some 7) (fun k => by simp) ?_
      simp only [missL, List.any_cons, hh, Bool.not_false, Bool.true_or, if_true]
      exact Ev.now _
    · rw [hw]
      refine Ev.congr (f := fun k => aumbryref06_Check.l0 k a b (b.length : Int) ((i + 1 : Nat) : Int)) (fun k => by simp) ?_
      simp only [missL, List.any_cons, hh, Bool.not_true, Bool.false_or]
      exact ih
theorem var_ev (l : List S33) (h : chk l = 0) : Ev (fun k => aumbryref05_Var.f k l) (decide (kindOf (rd_T33 l 0).f0 = 2)) := by
  obtain ⟨T, rfl, hf, hl⟩ := tree_of_chk l h
  cases T with
  | node n ks =>
    have hd : (rd_T33 (flat (.node n ks)) 0).f0 = n := by simp [flat, rd_T33, rdOf]
    rw [hd]
    by_cases hn : (flat (.node n ks)).length = 1
    · refine Ev.congr (f := fun k => (aumbryref03_Kind.f k n).bind fun t218 => (some (t218 == 2))) (fun k => by unfold aumbryref05_Var.f; rw [if_pos (by omega), if_pos (by omega), hd]) (Ev.bind (rkind_ev n) ?_)
      exact Ev.now _
    · refine Ev.congr (f := fun k => some false) (fun k => by unfold aumbryref05_Var.f; rw [if_neg (by omega)]) ?_
      have : kindOf n ≠ 2 := by
        intro h2
        simp only [fine] at hf
        have h3 := hf.2.2.1 h2
        subst h3
        simp [flat, flatL] at hn
      rw [decide_eq_false this]
      exact Ev.now _
theorem refCheck_ev (id : Int) (l r : List S33) : Ev (fun k => aumbryref06_Check.f k id l r) (chkR id l r) := by
  unfold chkR
  have h0 : Ev (fun k => aumbryref06_Check.j0 k (decide (id < 0 ∨ id > 65535)) id l r) (chkR id l r) := by
    unfold chkR
    by_cases c0 : id < 0 ∨ id > 65535
    · rw [if_pos c0]
      exact Ev.step (f := fun _ => some 1) (fun k => by simp only [aumbryref06_Check.j0]; rw [if_pos (by simpa using c0)]) (Ev.now _)
    rw [if_neg c0]
    refine Ev.step (f := fun k => (aumbryref04_Check.f k l).bind fun t229 => (if t229 = 0 then ((aumbryref04_Check.f k r).bind fun t230 => (if t230 = 0 then (if (l.length : Int) > 8 then (aumbryref06_Check.j1 k true id l r) else (aumbryref06_Check.j1 k (decide ((r.length : Int) > 8)) id l r)) else (some t230))) else (some t229))) (fun k => by simp only [aumbryref06_Check.j0]; rw [if_neg (by simpa using c0)]) ?_
    refine Ev.bind (rcheck_ev l) ?_
    by_cases c1 : chk l = 0
    rotate_left
    · simp only [if_neg c1]
      exact Ev.now _
    simp only [if_pos c1]
    refine Ev.bind (rcheck_ev r) ?_
    by_cases c2 : chk r = 0
    rotate_left
    · simp only [if_neg c2]
      exact Ev.now _
    simp only [if_pos c2]
    refine Ev.congr (f := fun k => aumbryref06_Check.j1 k (decide ((l.length : Int) > 8 ∨ (r.length : Int) > 8)) id l r) (fun k => ?_) ?_
    · by_cases c : (l.length : Int) > 8
      · rw [if_pos c, decide_eq_true (Or.inl c)]
      · rw [if_neg c]
        congr 1
        simp [c]
    by_cases c3 : (l.length : Int) > 8 ∨ (r.length : Int) > 8
    · simp only [if_pos c3]
      exact Ev.step (f := fun _ => some 6) (fun k => by simp only [aumbryref06_Check.j1]; rw [if_pos (by simpa using c3)]) (Ev.now _)
    simp only [if_neg c3]
    refine Ev.step (f := fun k => (aumbryref05_Var.f k l).bind fun t231 => (if t231 = true then (some 20) else ((aumbryref04_Vars.f k l).bind fun t232 => ((aumbryref04_Vars.f k r).bind fun t235 => (aumbryref06_Check.l0 k t232 t235 (t235.length : Int) 0))))) (fun k => by simp only [aumbryref06_Check.j1]; rw [if_neg (by simpa using c3)]) ?_
    refine Ev.bind (var_ev l c1) ?_
    by_cases c4 : kindOf (rd_T33 l 0).f0 = 2
    · simp only [if_pos c4, decide_eq_true c4, if_true]
      exact Ev.now _
    simp only [if_neg c4, decide_eq_false c4, Bool.false_eq_true, if_false]
    have l1 : l.length ≤ 64 := by obtain ⟨T, _, _, hl⟩ := tree_of_chk l c1; exact hl
    have l2 : r.length ≤ 64 := by obtain ⟨T, _, _, hl⟩ := tree_of_chk r c2; exact hl
    have e1 := varsL_len l []
    have e2 := varsL_len r []
    simp only [List.length_nil] at e1 e2
    refine Ev.bind (rvars_ev l (by omega)) (Ev.bind (rvars_ev r (by omega)) ?_)
    have := rmiss_l0 (varsL l []) (varsL r []) (by omega) (by omega) (varsL r []).length 0 (by omega)
    rw [List.drop_zero] at this
    exact this
  refine Ev.congr (fun k => ?_) h0
  unfold aumbryref06_Check.f
  by_cases c : id < 0
  · rw [if_pos c, decide_eq_true (Or.inl c)]
  · rw [if_neg c]
    congr 1
    simp [c]
theorem chkR_ok {id : Int} {l r : List S33} (h : chkR id l r = 0) : 0 ≤ id ∧ id ≤ 65535 ∧ chk l = 0 ∧ chk r = 0 ∧ l.length ≤ 8 ∧ r.length ≤ 8 ∧ kindOf (rd_T33 l 0).f0 ≠ 2 ∧ missL (varsL l []) (varsL r []) = false := by
  unfold chkR at h
  split at h
  · simp at h
  split at h
  rotate_left
  · rename_i h0 h1; exact absurd h h1
  split at h
  rotate_left
  · rename_i h0 h1 h2; exact absurd h h2
  split at h
  · simp at h
  split at h
  · simp at h
  split at h
  · simp at h
  rename_i a b c d e f
  exact ⟨by omega, by omega, b, c, by omega, by omega, e, by simpa using f⟩
end Go.Proofs.YtnkpcnnbeaomnaaDoor.C
end

section
/- Whether anything is a rule, or why not; and its head: the law's plain statement. -/
namespace Go.Proofs.YtnkpcnnbeaomnaaDoor.Pure
open Go.RowKit Go.Proofs.YtnkpcnnbeaomnaaDoor.C Go.Proofs.YtnkpcnnbeaomnaaDoorW.PrintWords Go.Proofs.YtnkpcnnbeaomnaaDoorW.PrintLast
set_option linter.unusedVariables false
set_option linter.unusedSimpArgs false

theorem len_of_chk {t : List S33} (h : chk t = 0) : 0 < t.length ∧ t.length ≤ 64 := by
  obtain ⟨T, rfl, _, hl⟩ := tree_of_chk t h
  exact ⟨flat_pos T, hl⟩
theorem head_ev (id : Int) (l r : List S33) : Ev (fun k => rule_Head.f k id l r) (if chkR id l r = 0 then (rd_T33 l 0).f0 else ⟨#[]⟩) := by
  refine Ev.bind (ruleCheck_ev id l r) ?_
  by_cases h : chkR id l r = 0
  · have hp := (len_of_chk (chkR_ok h).2.2.1).1
    simp only [if_pos h]
    rw [if_pos (by omega)]
    exact Ev.now _
  · simp only [if_neg h]
    exact Ev.now _
theorem RuleChecks (id : Int) (l r : List S33) (h1 : l.length < 5864062014805) (h2 : r.length < 5864062014805) : ∃ k, aumbrylaw06_RuleChecks.f k id l r = some true := by
  refine Ev.rounds (r := true) ?_
  refine Ev.bind wakes6_ev ?_
  simp only [if_true, copy6 id h1 h2, Option.bind_some]
  refine Ev.bind (ruleCheck_ev id l r) (Ev.bind (refCheck_ev id l r) ?_)
  refine Ev.step (f := fun k => (rule_Head.f k id l r).bind fun t258 => ((aumbryref06_Check.f k id l r).bind fun t259 => (if t259 = 0 then ((aumbryref06_Check.f k id l r).bind fun t260 => (if t260 = 0 then (if 0 < (l.length : Int) then (some (t258.toList == ((rd_T33 l 0).f0).toList)) else (none)) else (some false))) else (if t258.toList = ([] : List UInt8) then (some true) else ((aumbryref06_Check.f k id l r).bind fun t262 => (if t262 = 0 then (if 0 < (l.length : Int) then (some (t258.toList == ((rd_T33 l 0).f0).toList)) else (none)) else (some false))))))) (fun k => ?_) ?_
  · simp only [aumbrylaw06_RuleChecks.j0, bne_self_eq_false, Bool.false_eq_true, if_false, copy6 id h1 h2, Option.bind_some]
  refine Ev.bind (head_ev id l r) (Ev.bind (refCheck_ev id l r) ?_)
  by_cases h : chkR id l r = 0
  · have hp := (len_of_chk (chkR_ok h).2.2.1).1
    simp only [if_pos h]
    refine Ev.bind (refCheck_ev id l r) ?_
    simp only [if_pos h, beq_self_eq_true]
    rw [if_pos (by omega)]
    exact Ev.now _
  · simp only [if_neg h]
    exact Ev.congr (f := fun _ => some true) (fun k => if_pos (by kernel_rfl)) (Ev.now _)
end Go.Proofs.YtnkpcnnbeaomnaaDoor.Pure
end
