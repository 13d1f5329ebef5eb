/- The program's reader and the reference's, held against each other: at every text and place both come to one answer. -/
import Derived.Test.YtnkpcnnbeaomnaaHKind
import Derived.Test.YtnkpcnnbeaomnaaHParse
import Derived.Test.YtnkpcnnbeaomnaaC14
import Derived.Test.YtnkpcnnbeaomnaaC20
import Derived.Test.YtnkpcnnbeaomnaaC24
namespace Go.Proofs.Ytnkpcnnbeaomnaa.C
open Go.RowKit Go.Proofs.YtnkpcnnbeaomnaaW.PrintWords Go.Proofs.YtnkpcnnbeaomnaaW.PrintLast Go.Proofs.YtnkpcnnbeaomnaaW.PrintMore
set_option linter.unusedVariables false
set_option linter.unusedSimpArgs false

theorem Ev.succ {α : Type} {g : Nat → Option α} {r : α} (K : Nat) (h : ∀ k, K ≤ k → g (k + 1) = some r) : Ev g r :=
  ⟨K + 1, fun k hk => by obtain ⟨m, rfl⟩ : ∃ m, k = m + 1 := ⟨k - 1, by omega⟩; exact h m (by omega)⟩

theorem sign04 (c : Int) : aumbryref04_sign.f c = some (sgn c) := by
  unfold aumbryref04_sign.f sgn
  by_cases a1 : 97 ≤ c
  · by_cases a2 : c ≤ 122
    · simp [a1, a2]
    · have a3 : ¬ c ≤ 90 := by omega
      have a4 : 65 ≤ c := by omega
      have a5 : 48 ≤ c := by omega
      have a6 : ¬ c ≤ 57 := by omega
      simp [a1, a2, a3, a4, a5, a6]
  · by_cases a3 : 65 ≤ c
    · by_cases a4 : c ≤ 90
      · simp [a1, a3, a4]
      · have a5 : 48 ≤ c := by omega
        have a6 : ¬ c ≤ 57 := by omega
        simp [a1, a3, a4, a5, a6]
    · by_cases a5 : 48 ≤ c
      · by_cases a6 : c ≤ 57
        · simp [a1, a3, a5, a6]
        · simp [a1, a3, a5, a6]
      · simp [a1, a3, a5]

theorem same_ev_aux (a : List S28) (hb : a.length ≤ 4611686018427387904) : ∀ d i : Nat, i + d = a.length → Ev (fun k => aumbryref04_Same.l0 k a a (a.length : Int) (i : Int)) true
  | 0, i, h => Ev.succ 0 (fun k _ => by simp only [aumbryref04_Same.l0]; rw [if_neg (by omega)])
  | d + 1, i, h => by
    have hw : wrap64 ((i : Int) + 1) = ((i + 1 : Nat) : Int) := by unfold wrap64; omega
    refine Ev.step (f := fun k => aumbryref04_Same.l0 k a a (a.length : Int) ((i + 1 : Nat) : Int)) (fun k => ?_) (same_ev_aux a hb d (i + 1) (by omega))
    simp only [aumbryref04_Same.l0]
    rw [if_pos (by omega), if_pos (by omega), if_pos (by omega), if_pos (by omega), if_neg (by simp), hw]
theorem same_ev (a : List S28) (hb : a.length ≤ 4611686018427387904) : Ev (fun k => aumbryref04_Same.f k a a) true :=
  Ev.congr (fun k => by unfold aumbryref04_Same.f; rw [if_pos rfl]; rfl) (same_ev_aux a hb a.length 0 (by omega))

theorem scan_both (s : ByteArray) (hs : s.size ≤ 1024) : ∀ (d : Nat) (a : Int), 0 ≤ a → a + d = (s.size : Int) → ∃ b, a ≤ b ∧ b ≤ (s.size : Int) ∧ Ev (fun k => scan k s a) b ∧
    ∀ (x : Int) (out : List S28) (r : List S28 × Int × Int), Ev (fun k => aumbryref04_Read.j1 k s x out b) r → Ev (fun k => aumbryref04_Read.l0 k s x out a) r
  | 0, a, h0, hd => by
    refine ⟨a, Int.le_refl _, by omega, Ev.succ 0 (fun k _ => ?_), fun x out r h => Ev.step (f := fun k => aumbryref04_Read.j1 k s x out a) (fun k => ?_) h⟩
    · simp only [scan]; rw [if_neg (by omega)]
    · simp only [aumbryref04_Read.l0]; rw [if_neg (by omega)]
  | d + 1, a, h0, hd => by
    by_cases hg : sgn (bt s a) = true
    · obtain ⟨b, h1, h2, h3, h4⟩ := scan_both s hs d (a + 1) (by omega) (by omega)
      have hw : wrap64 (a + 1) = a + 1 := by unfold wrap64; omega
      refine ⟨b, by omega, h2, Ev.step (f := fun k => scan k s (a + 1)) (fun k => ?_) h3, fun x out r h => Ev.step (f := fun k => aumbryref04_Read.l0 k s x out (a + 1)) (fun k => ?_) (h4 x out r h)⟩
      · simp only [scan]; rw [if_pos (by omega), if_pos h0, if_pos hg, hw]
      · simp only [aumbryref04_Read.l0]; rw [if_pos (by omega), if_pos h0, sign04, hg, hw]; rfl
    · refine ⟨a, Int.le_refl _, by omega, Ev.succ 0 (fun k _ => ?_), fun x out r h => Ev.step (f := fun k => aumbryref04_Read.j1 k s x out a) (fun k => ?_) h⟩
      · simp only [scan]; rw [if_pos (by omega), if_pos h0, if_neg hg]
      · simp only [aumbryref04_Read.l0]; rw [if_pos (by omega), if_pos h0, sign04]; simp [hg]

def trR : PR → List S28 × Int × Int
  | .ok a out => (out, a, 0)
  | .bad x y => ([], x, y)
def goodR (s : ByteArray) (a : Int) (out : List S28) : PR → Prop
  | .ok a1 out1 => a < a1 ∧ a1 ≤ (s.size : Int) ∧ out.length ≤ out1.length ∧ out1.length ≤ 64
  | .bad x y => 0 ≤ x ∧ x ≤ (s.size : Int) ∧ y ≠ 0
def FP (s : ByteArray) (d : Nat) : Prop := ∀ (a : Int) (out : List S28), 0 ≤ a → a ≤ (s.size : Int) → (s.size : Int) - a ≤ d → out.length ≤ 64 →
  ∃ r, Ev (fun k => rdt.f k s a out) r ∧ Ev (fun k => aumbryref04_Read.f k s a out) (trR r) ∧ goodR s a out r
def LP (s : ByteArray) (d : Nat) : Prop := ∀ (a : Int) (out : List S28) (cell : Nat) (n : Int), 0 ≤ a → a < (s.size : Int) → (s.size : Int) - a ≤ d → cell < out.length → out.length ≤ 64 → 1 ≤ n → n ≤ 4 →
  ∃ r, Ev (fun k => rdt.l k s a out cell n) r ∧ Ev (fun k => aumbryref04_Read.l1 k s out a (cell : Int) n) (trR r) ∧ goodR s a out r

theorem word_nil (s : ByteArray) (a b : Int) (h0 : 0 ≤ a) (hab : a ≤ b) (hb : b ≤ (s.size : Int)) : (s.extract a.toNat b.toNat).toList = ([] : List UInt8) ↔ a = b := by
  have hsz : (s.extract a.toNat b.toNat).size = b.toNat - a.toNat := by rw [ByteArray.size_extract]; omega
  constructor
  · intro h
    have h1 : (s.extract a.toNat b.toNat).toList.length = 0 := by rw [h]; rfl
    rw [tl_len, hsz] at h1
    omega
  · intro h
    apply List.eq_nil_of_length_eq_zero
    rw [tl_len, hsz]
    omega

theorem f_step (s : ByteArray) (hs : s.size ≤ 1024) (d : Nat) (ih : ∀ e, e < d → LP s e) : FP s d := by
  intro a out h0 h1 hd hlen
  obtain ⟨b, hab, hb, hsc, hrd⟩ := scan_both s hs (s.size - a.toNat) a h0 (by omega)
  obtain ⟨wd, hwd⟩ : ∃ wd, s.extract a.toNat b.toNat = wd := ⟨_, rfl⟩
  have hnil := word_nil s a b h0 hab hb
  rw [hwd] at hnil
  have hk := kind_ev wd
  have hrk := rkind_ev wd
  obtain ⟨K1, hsc⟩ := hsc
  dsimp only at hsc
  obtain ⟨K2, hk⟩ := hk
  dsimp only at hk
  have hR : ∀ r, Ev (fun k => aumbryref04_Read.j1 k s a out b) r → Ev (fun k => aumbryref04_Read.f k s a out) r := fun r h => Ev.step (f := fun k => aumbryref04_Read.l0 k s a out a) (fun k => by simp only [aumbryref04_Read.f]) (hrd a out r h)
  by_cases c1 : a = b
  · have hn := hnil.2 c1
    refine ⟨.bad a 3, Ev.succ (max K1 K2) (fun k hkk => ?_), hR _ (Ev.succ 0 (fun k _ => ?_)), h0, h1, by decide⟩
    · simp only [rdt.f]
      rw [if_pos ⟨h0, h1⟩, hsc k (by omega), Option.bind_some, hwd, hk k (by omega), Option.bind_some, if_pos hn]
    · simp only [aumbryref04_Read.j1]
      rw [if_pos h0, if_pos hab, if_pos hb, hwd, if_pos hn]
      rfl
  have hn : ¬ wd.toList = ([] : List UInt8) := fun h => c1 (hnil.1 h)
  by_cases c2 : kindOf wd = 0
  · refine ⟨.bad a 4, Ev.succ (max K1 K2) (fun k hkk => ?_), hR _ ?_, h0, h1, by decide⟩
    · simp only [rdt.f]
      rw [if_pos ⟨h0, h1⟩, hsc k (by omega), Option.bind_some, hwd, hk k (by omega), Option.bind_some, if_neg hn, if_pos c2]
    · obtain ⟨K3, hrk⟩ := hrk
      dsimp only at hrk
      refine Ev.succ K3 (fun k hkk => ?_)
      simp only [aumbryref04_Read.j1]
      rw [if_pos h0, if_pos hab, if_pos hb, hwd, if_neg hn, hrk k hkk, Option.bind_some, if_pos c2]
      rfl
  by_cases c3 : out.length = 64
  · refine ⟨.bad a 6, Ev.succ (max K1 K2) (fun k hkk => ?_), hR _ ?_, h0, h1, by decide⟩
    · simp only [rdt.f]
      rw [if_pos ⟨h0, h1⟩, hsc k (by omega), Option.bind_some, hwd, hk k (by omega), Option.bind_some, if_neg hn, if_neg c2, if_pos c3]
    · obtain ⟨K3, hrk⟩ := hrk
      dsimp only at hrk
      refine Ev.succ K3 (fun k hkk => ?_)
      simp only [aumbryref04_Read.j1]
      rw [if_pos h0, if_pos hab, if_pos hb, hwd, if_neg hn, hrk k hkk, Option.bind_some, if_neg c2, if_pos (by omega)]
      rfl
  have hR2 : ∀ r, Ev (fun k => aumbryref04_Read.j2 k s (out ++ [(⟨wd, 0⟩ : S28)]) b (kindOf wd) (out.length : Int) (decide (nxt s b ≠ 40))) r → Ev (fun k => aumbryref04_Read.f k s a out) r := by
    intro r h
    refine hR r ?_
    obtain ⟨K3, hrk⟩ := hrk
    dsimp only at hrk
    obtain ⟨K4, h⟩ := h
    dsimp only at h
    refine Ev.succ (max K3 K4) (fun k hkk => ?_)
    simp only [aumbryref04_Read.j1]
    rw [if_pos h0, if_pos hab, if_pos hb, hwd, if_neg hn, hrk k (by omega), Option.bind_some, if_neg c2, if_neg (by omega), if_pos (by omega), Option.bind_some]
    by_cases hbs : b = (s.size : Int)
    · rw [if_pos hbs]
      have : decide (nxt s b ≠ 40) = true := by rw [nxt, if_neg (by omega)]; decide
      rw [this] at h
      exact h k (by omega)
    · rw [if_neg hbs, if_pos (by omega), if_pos (by omega)]
      have : decide (nxt s b ≠ 40) = (bt s b != 40) := by
        rw [nxt, if_pos (by omega)]
        by_cases h40 : bt s b = 40 <;> simp [h40]
      rw [this] at h
      exact h k (by omega)
  by_cases c4 : nxt s b = 40
  · have hlt : b < (s.size : Int) := by
      rcases Int.lt_or_le b s.size with h' | h'
      · exact h'
      · rw [nxt, if_neg (by omega)] at c4
        exact absurd c4 (by decide)
    by_cases c5 : kindOf wd = 2
    · refine ⟨.bad b 5, Ev.succ (max K1 K2) (fun k hkk => ?_), hR2 _ (Ev.succ 0 (fun k _ => ?_)), by omega, hb, by decide⟩
      · simp only [rdt.f]
        rw [if_pos ⟨h0, h1⟩, hsc k (by omega), Option.bind_some, hwd, hk k (by omega), Option.bind_some, if_neg hn, if_neg c2, if_neg c3, if_pos (by omega), if_pos c4, if_pos c5]
      · simp only [aumbryref04_Read.j2]
        rw [if_neg (by simp [c4]), if_pos c5]
        rfl
    · obtain ⟨r, hr1, hr2, hg⟩ := ih (s.size - b.toNat) (by omega) b (out ++ [(⟨wd, 0⟩ : S28)]) out.length 1 (by omega) hlt (by omega) (by simp) (by simp; omega) (by omega) (by omega)
      obtain ⟨K5, hr1⟩ := hr1
      dsimp only at hr1
      refine ⟨r, Ev.succ (max (max K1 K2) K5) (fun k hkk => ?_), hR2 _ (Ev.step (f := fun k => aumbryref04_Read.l1 k s (out ++ [(⟨wd, 0⟩ : S28)]) b (out.length : Int) 1) (fun k => ?_) hr2), ?_⟩
      · simp only [rdt.f]
        rw [if_pos ⟨h0, h1⟩, hsc k (by omega), Option.bind_some, hwd, hk k (by omega), Option.bind_some, if_neg hn, if_neg c2, if_neg c3, if_pos (by omega), if_pos c4, if_neg c5]
        exact hr1 k (by omega)
      · simp only [aumbryref04_Read.j2]
        rw [if_neg (by simp [c4]), if_neg c5]
      · cases r with
        | ok x y => simp only [goodR, List.length_append, List.length_singleton] at hg ⊢; omega
        | bad x y => exact hg
  · refine ⟨.ok b (out ++ [(⟨wd, 0⟩ : S28)]), Ev.succ (max K1 K2) (fun k hkk => ?_), hR2 _ (Ev.succ 0 (fun k _ => ?_)), by omega, hb, by simp, by simp; omega⟩
    · simp only [rdt.f]
      rw [if_pos ⟨h0, h1⟩, hsc k (by omega), Option.bind_some, hwd, hk k (by omega), Option.bind_some, if_neg hn, if_neg c2, if_neg c3, if_pos (by omega), if_neg c4]
    · simp only [aumbryref04_Read.j2]
      rw [if_pos (by simp [c4])]
      rfl

theorem l_step (s : ByteArray) (hs : s.size ≤ 1024) (d : Nat) (ihf : ∀ e, e < d → FP s e) (ihl : ∀ e, e < d → LP s e) : LP s d := by
  intro a out cell n h0 h1 hd hc hlen hn1 hn4
  have hw : wrap64 (a + 1) = a + 1 := by unfold wrap64; omega
  obtain ⟨x, hx1, hx2, hg⟩ := ihf (s.size - (a + 1).toNat) (by omega) (a + 1) out (by omega) (by omega) (by omega) hlen
  obtain ⟨K1, hx1⟩ := hx1
  dsimp only at hx1
  obtain ⟨K2, hx2⟩ := hx2
  dsimp only at hx2
  cases x with
  | bad x y =>
    obtain ⟨g1, g2, g3⟩ := hg
    refine ⟨.bad x y, Ev.succ K1 (fun k hkk => ?_), Ev.succ K2 (fun k hkk => ?_), g1, g2, g3⟩
    · simp only [rdt.l]
      rw [hw, hx1 k hkk]
      rfl
    · simp only [aumbryref04_Read.l1]
      rw [hw, hx2 k hkk]
      simp only [trR, Option.bind_some]
      rw [if_neg g3]
  | ok a1 out1 =>
    obtain ⟨g1, g2, g3, g4⟩ := hg
    have hcell : cell < out1.length := by omega
    obtain ⟨o2, ho2⟩ : ∃ o2, out1.set cell ⟨(rd_T28 out1 cell).f0, n⟩ = o2 := ⟨_, rfl⟩
    have ho2l : o2.length = out1.length := by rw [← ho2]; simp
    have hR : ∀ r, Ev (fun k => aumbryref04_Read.j4 k s o2 a1 (cell : Int) n (nxt s a1 == 41)) r → Ev (fun k => aumbryref04_Read.l1 k s out a (cell : Int) n) r := by
      intro r h
      obtain ⟨K3, h⟩ := h
      dsimp only at h
      refine Ev.succ (max K2 K3) (fun k hkk => ?_)
      simp only [aumbryref04_Read.l1]
      rw [hw, hx2 k (by omega)]
      simp only [trR, Option.bind_some]
      rw [if_pos trivial, if_pos (by omega), if_pos (by omega), show ((cell : Int)).toNat = cell from Int.toNat_natCast cell, ho2]
      by_cases hlt : a1 < (s.size : Int)
      · rw [if_pos hlt, if_pos (by omega)]
        have := h k (by omega)
        rwa [nxt, if_pos hlt] at this
      · rw [if_neg hlt]
        have := h k (by omega)
        rwa [nxt, if_neg hlt] at this
    by_cases c1 : nxt s a1 = 41
    · have hlt : a1 < (s.size : Int) := by
        rcases Int.lt_or_le a1 s.size with h' | h'
        · exact h'
        · rw [nxt, if_neg (by omega)] at c1
          exact absurd c1 (by decide)
      have hw1 : wrap64 (a1 + 1) = a1 + 1 := by unfold wrap64; omega
      refine ⟨.ok (a1 + 1) o2, Ev.succ K1 (fun k hkk => ?_), hR _ (Ev.succ 0 (fun k _ => ?_)), by omega, by omega, by omega, by omega⟩
      · simp only [rdt.l]
        rw [hw, hx1 k hkk]
        simp only [Option.bind_some]
        rw [if_pos (by omega), if_pos hcell, if_pos c1, hw1, ho2]
      · simp only [aumbryref04_Read.j4]
        rw [if_pos (by simp [c1]), hw1]
        rfl
    · have hR5 : ∀ r, Ev (fun k => aumbryref04_Read.j5 k s o2 a1 (cell : Int) n (nxt s a1 != 44)) r → Ev (fun k => aumbryref04_Read.l1 k s out a (cell : Int) n) r := by
        intro r h
        refine hR r ?_
        obtain ⟨K3, h⟩ := h
        dsimp only at h
        refine Ev.succ K3 (fun k hkk => ?_)
        simp only [aumbryref04_Read.j4]
        rw [if_neg (by simp [c1])]
        by_cases hlt : a1 < (s.size : Int)
        · rw [if_neg (by omega), if_pos (by omega), if_pos hlt]
          have := h k hkk
          rwa [nxt, if_pos hlt] at this
        · rw [if_pos (by omega)]
          have := h k hkk
          rwa [nxt, if_neg hlt] at this
      by_cases c2 : nxt s a1 = 44
      · have hlt : a1 < (s.size : Int) := by
          rcases Int.lt_or_le a1 s.size with h' | h'
          · exact h'
          · rw [nxt, if_neg (by omega)] at c2
            exact absurd c2 (by decide)
        by_cases c3 : n = 4
        · refine ⟨.bad a1 5, Ev.succ K1 (fun k hkk => ?_), hR5 _ (Ev.succ 0 (fun k _ => ?_)), by omega, by omega, by decide⟩
          · simp only [rdt.l]
            rw [hw, hx1 k hkk]
            simp only [Option.bind_some]
            rw [if_pos (by omega), if_pos hcell, if_neg c1, if_pos c2, if_pos c3]
          · simp only [aumbryref04_Read.j5]
            rw [if_neg (by simp [c2]), if_pos c3]
            rfl
        · have hwn : wrap64 (n + 1) = n + 1 := by unfold wrap64; omega
          obtain ⟨r, hr1, hr2, hg⟩ := ihl (s.size - a1.toNat) (by omega) a1 o2 cell (n + 1) (by omega) hlt (by omega) (by omega) (by omega) (by omega) (by omega)
          obtain ⟨K5, hr1⟩ := hr1
          dsimp only at hr1
          refine ⟨r, Ev.succ (max K1 K5) (fun k hkk => ?_), hR5 _ (Ev.step (f := fun k => aumbryref04_Read.l1 k s o2 a1 (cell : Int) (n + 1)) (fun k => ?_) hr2), ?_⟩
          · simp only [rdt.l]
            rw [hw, hx1 k (by omega)]
            simp only [Option.bind_some]
            rw [if_pos (by omega), if_pos hcell, if_neg c1, if_pos c2, if_neg c3, hwn, ho2]
            exact hr1 k (by omega)
          · simp only [aumbryref04_Read.j5]
            rw [if_neg (by simp [c2]), if_neg c3, hwn]
          · cases r with
            | ok x y => simp only [goodR] at hg ⊢; omega
            | bad x y => exact hg
      · refine ⟨.bad a1 3, Ev.succ K1 (fun k hkk => ?_), hR5 _ (Ev.succ 0 (fun k _ => ?_)), by omega, by omega, by decide⟩
        · simp only [rdt.l]
          rw [hw, hx1 k hkk]
          simp only [Option.bind_some]
          rw [if_pos (by omega), if_pos hcell, if_neg c1, if_neg c2]
        · simp only [aumbryref04_Read.j5]
          rw [if_pos (by simp [c2])]
          rfl

theorem reads_all (s : ByteArray) (hs : s.size ≤ 1024) : ∀ d, FP s d ∧ LP s d := by
  intro d
  induction d using Nat.strongRecOn with
  | _ d ih => exact ⟨f_step s hs d (fun e he => (ih e he).2), l_step s hs d (fun e he => (ih e he).1) (fun e he => (ih e he).2)⟩

/-- At every text: both parsers come to one answer; what is read has at most 64 cells. -/
theorem parse_both (s : ByteArray) : ∃ (t : List S28) (a e : Int), Ev (fun k => term_Parse.f k s) (t, a, e) ∧ Ev (fun k => aumbryref04_Parse.f k s) (t, a, e) ∧ t.length ≤ 64 := by
  by_cases hs : (s.size : Int) > 1024
  · refine ⟨[], 0, 2, Ev.congr (f := fun _ => some ([], 0, 2)) (fun k => ?_) (Ev.now _), Ev.congr (f := fun _ => some ([], 0, 2)) (fun k => ?_) (Ev.now _), by simp⟩
    · unfold term_Parse.f; rw [if_pos hs]
    · unfold aumbryref04_Parse.f; rw [if_pos hs]
  · obtain ⟨r, h1, h2, hg⟩ := (reads_all s (by omega) s.size).1 0 [] (by omega) (by omega) (by omega) (by simp)
    obtain ⟨K1, h1⟩ := h1
    obtain ⟨K2, h2⟩ := h2
    dsimp only at h1 h2
    have hj : ∀ (t : List S28) (x y : Int) (z : Bool) (r : List S28 × Int × Int), Ev (fun k => aumbryref04_Parse.j0 k t x y z) r → Ev (fun k => aumbryref04_Parse.j0 k t x y z) r := fun _ _ _ _ _ h => h
    cases r with
    | bad x y =>
      obtain ⟨g1, g2, g3⟩ := hg
      refine ⟨[], x, y, ⟨K1, fun k hk => ?_⟩, ⟨K2 + 1, fun k hk => ?_⟩, by simp⟩
      · dsimp only
        unfold term_Parse.f
        rw [if_neg hs, h1 k hk]
        rfl
      · obtain ⟨m, rfl⟩ : ∃ m, k = m + 1 := ⟨k - 1, by omega⟩
        dsimp only
        unfold aumbryref04_Parse.f
        rw [if_neg hs, h2 _ (by omega)]
        simp only [trR, Option.bind_some]
        rw [if_neg g3]
        simp only [aumbryref04_Parse.j0]
        rw [if_neg (by decide), if_neg g3]
    | ok x out =>
      obtain ⟨g1, g2, g3, g4⟩ := hg
      by_cases hx : x < (s.size : Int)
      · refine ⟨[], x, 3, ⟨K1, fun k hk => ?_⟩, ⟨K2 + 1, fun k hk => ?_⟩, by simp⟩
        · dsimp only
          unfold term_Parse.f
          rw [if_neg hs, h1 k hk]
          simp only [Option.bind_some]
          rw [if_pos hx]
        · obtain ⟨m, rfl⟩ : ∃ m, k = m + 1 := ⟨k - 1, by omega⟩
          dsimp only
          unfold aumbryref04_Parse.f
          rw [if_neg hs, h2 _ (by omega)]
          simp only [trR, Option.bind_some]
          rw [if_pos trivial]
          simp only [aumbryref04_Parse.j0]
          rw [if_pos (decide_eq_true hx)]
      · refine ⟨out, 0, 0, ⟨K1, fun k hk => ?_⟩, ⟨K2 + 1, fun k hk => ?_⟩, g4⟩
        · dsimp only
          unfold term_Parse.f
          rw [if_neg hs, h1 k hk]
          simp only [Option.bind_some]
          rw [if_neg hx]
          unfold clone_Term.f
          rw [if_pos (by omega)]
          rfl
        · obtain ⟨m, rfl⟩ : ∃ m, k = m + 1 := ⟨k - 1, by omega⟩
          dsimp only
          unfold aumbryref04_Parse.f
          rw [if_neg hs, h2 _ (by omega)]
          simp only [trR, Option.bind_some]
          rw [if_pos trivial]
          simp only [aumbryref04_Parse.j0]
          rw [if_neg (by simp; omega), if_pos trivial]

theorem wakes_at : aumbrylaw04_wakes.f 40 = some true := by kernel_rfl
theorem wakes_ev : Ev (fun k => aumbrylaw04_wakes.f k) true := Ev.of (g := fun k => aumbrylaw04_wakes.f k) (fun k => aumbrylaw04_wakes.mono k) wakes_at

end Go.Proofs.Ytnkpcnnbeaomnaa.C
