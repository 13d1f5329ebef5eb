import Derived.Test.YtnkpcnnbeaomnaaDoorRR2
import Derived.Test.YtnkpcnnbeaomnaaDoorRR3
import Derived.WalkLawsBesides
import Derived.Defers
import Derived.Recover
import Derived.RegionTactic
import Derived.ChangeAlike
import Derived.KernelRfl

section
/- term.Parse at this dump (function 17), with the reader's methods give, term and args (41, 40, 57) and the deferred function literal (39). -/
namespace Go.Proofs.YtnkpcnnbeaomnaaDoor.C
open Go.RowKit Go.Proofs.YtnkpcnnbeaomnaaDoorW.PrintWords Go.Proofs.YtnkpcnnbeaomnaaDoorW.PrintLast Go.Proofs.YtnkpcnnbeaomnaaDoorW.PrintMore
set_option linter.unusedVariables false
set_option linter.unusedSimpArgs false

def fault (a c : Int) : List PanicEntry := [{ v := .iface 83 (.agg #[.int .i64 a, .int .i64 c]), recovered := false }]

set_option maxHeartbeats 400000 in
theorem give_any (p : Value) (a c : Int) (w : World) :
    Calls Tryd.prog 64 #[p, .int .i64 a, .int .i64 c] w fun e w' => e = .panicked (fault a c) ∧ w = w' := by
  go_enter Tryd.func64, Tryd.ntmps64
  go_wp2
  exact ⟨rfl, rfl, rfl⟩

/-! ### what the reader's methods answer, in plain words -/
def sgn (c : Int) : Bool := decide (97 ≤ c ∧ c ≤ 122 ∨ 65 ≤ c ∧ c ≤ 90 ∨ 48 ≤ c ∧ c ≤ 57)
def scan : Nat → ByteArray → Int → Option Int
  | 0, _, _ => none
  | k + 1, s, a => if a < (s.size : Int) then (if 0 ≤ a then (if sgn (bt s a) then scan k s (wrap64 (a + 1)) else some a) else none) else some a
def nxt (s : ByteArray) (a : Int) : Int := if a < (s.size : Int) then bt s a else 0

inductive PR where
  | ok (a : Int) (out : List S33)
  | bad (a c : Int)
mutual
def rdt.f : Nat → ByteArray → Int → List S33 → Option PR
  | 0, _, _, _ => none
  | k + 1, s, a, out => if 0 ≤ a ∧ a ≤ (s.size : Int) then ((scan k s a).bind fun b => (name_Kind.f k (s.extract a.toNat b.toNat)).bind fun kd =>
      if (s.extract a.toNat b.toNat).toList = ([] : List UInt8) then some (.bad a 3) else if kd = 0 then some (.bad a 4) else if out.length = 64 then some (.bad a 6)
      else if out.length < 5864062014805 then (if nxt s b = 40 then (if kd = 2 then some (.bad b 5) else rdt.l k s b (out ++ [⟨s.extract a.toNat b.toNat, 0⟩]) out.length 1) else some (.ok b (out ++ [⟨s.extract a.toNat b.toNat, 0⟩]))) else none) else none
def rdt.l : Nat → ByteArray → Int → List S33 → Nat → Int → Option PR
  | 0, _, _, _, _, _ => none
  | k + 1, s, a, out, cell, n => (rdt.f k s (wrap64 (a + 1)) out).bind fun r => match r with
      | .bad x y => some (.bad x y)
      | .ok a1 out1 => if 0 ≤ a1 then (if cell < out1.length then (if nxt s a1 = 41 then some (.ok (wrap64 (a1 + 1)) (out1.set cell ⟨(rd_T33 out1 cell).f0, n⟩))
          else if nxt s a1 = 44 then (if n = 4 then some (.bad a1 5) else rdt.l k s a1 (out1.set cell ⟨(rd_T33 out1 cell).f0, n⟩) cell (wrap64 (n + 1)))
          else some (.bad a1 3)) else none) else none
end

theorem scan_mono : ∀ k s a, LeO (scan k s a) (scan (k + 1) s a)
  | 0, _, _ => fun _ h => by simp [scan] at h
  | k + 1, s, a => by
    unfold scan
    exact LeO.ite (LeO.ite (LeO.ite (scan_mono k _ _) (LeO.refl _)) (LeO.none _)) (LeO.refl _)

theorem scan_le (k : Nat) : ∀ (s : ByteArray) (a b : Int), s.size ≤ 4611686018427387904 → 0 ≤ a → a ≤ (s.size : Int) → scan k s a = some b → a ≤ b ∧ b ≤ (s.size : Int) := by
  induction k with
  | zero => intro s a b _ _ _ h; simp [scan] at h
  | succ k ih =>
    intro s a b hs h0 h1 h
    simp only [scan] at h
    split at h
    · try rw [if_pos h0] at h
      split at h
      · have hw : wrap64 (a + 1) = a + 1 := by unfold wrap64; omega
        rw [hw] at h
        have := ih s (a + 1) b hs (by omega) (by omega) h
        omega
      · obtain rfl := Option.some.inj h
        omega
    · obtain rfl := Option.some.inj h
      omega

theorem next_some (s : ByteArray) (a : Int) (v : Value) (h : 0 ≤ a) : RW.term_reader_next.f s a v = some (nxt s a, s, a) := by
  unfold RW.term_reader_next.f nxt
  split
  · first | rfl | rw [if_pos h]
  · rfl

theorem word_l0 (k : Nat) : ∀ (s : ByteArray) (x a b : Int) (v : Value), s.size ≤ 4611686018427387904 → 0 ≤ x → x ≤ a → a ≤ (s.size : Int) → scan k s a = some b → RW.term_reader_word.l0 k x (nxt s a) s a v = some (s.extract x.toNat b.toNat, s, b) := by
  induction k with
  | zero => intro s x a b v _ _ _ _ h; simp [scan] at h
  | succ k ih =>
    intro s x a b v hs hx hxa ha h
    have hle := scan_le _ s a b hs (by omega) ha h
    simp only [scan] at h
    have hw : a < (s.size : Int) → wrap64 (a + 1) = a + 1 := by intro _; unfold wrap64; omega
    have hstep : sgn (nxt s a) = true → a < (s.size : Int) ∧ scan k s (a + 1) = some b := by
      intro hg
      have hlt : a < (s.size : Int) := by
        rcases Int.lt_or_le a s.size with h' | h'
        · exact h'
        · rw [nxt, if_neg (by omega)] at hg
          simp [sgn] at hg
      rw [if_pos hlt, if_pos (by omega)] at h
      rw [nxt, if_pos hlt] at hg
      rw [if_pos hg, hw hlt] at h
      exact ⟨hlt, h⟩
    have hgo : sgn (nxt s a) = true → ((RW.term_reader_next.f s (wrap64 (a + 1)) v).bind fun q => RW.term_reader_word.l0 k x q.1 q.2.1 q.2.2 v) = some (s.extract x.toNat b.toNat, s, b) := by
      intro hg
      obtain ⟨hlt, hsc⟩ := hstep hg
      rw [hw hlt, next_some _ _ _ (by omega)]
      exact ih s x (a + 1) b v hs hx (by omega) (by omega) hsc
    have hend : sgn (nxt s a) = false → b = a := by
      intro hg
      split at h
      · rename_i hlt
        rw [if_pos (by omega)] at h
        rw [nxt, if_pos hlt] at hg
        rw [hg] at h
        simpa using h.symm
      · exact (Option.some.inj h).symm
    have hfin : sgn (nxt s a) = false → (if 0 ≤ x then (if x ≤ a then (if a ≤ (s.size : Int) then (some (s.extract (x : Int).toNat (a : Int).toNat, s, a)) else (none)) else (none)) else (none)) = some (s.extract x.toNat b.toNat, s, b) := by
      intro hg
      rw [if_pos hx, if_pos hxa, if_pos ha, hend hg]
    have hcase : ∀ c, sgn c = true ↔ (97 ≤ c ∧ c ≤ 122 ∨ 65 ≤ c ∧ c ≤ 90 ∨ 48 ≤ c ∧ c ≤ 57) := fun c => by simp [sgn]
    generalize nxt s a = c at *
    simp only [RW.term_reader_word.l0]
    have hF : ¬ (97 ≤ c ∧ c ≤ 122 ∨ 65 ≤ c ∧ c ≤ 90 ∨ 48 ≤ c ∧ c ≤ 57) → sgn c = false := fun hn => by
      rw [Bool.eq_false_iff]
      exact fun ht => hn ((hcase c).1 ht)
    repeat' split
    all_goals first
      | exact hgo ((hcase c).2 (by omega))
      | exact hfin (hF (by omega))
      | (exfalso; omega)
      | (rw [hend (hF (by omega))])

/-! ### the machine's side -/
/-- The reader at block g: its text, its place, and what it has read, a row of the call's own. -/
def Rdr (w0 w : World) (g : Nat) (s : ByteArray) (a : Int) (out : List S33) : Prop := ∃ v, w.heap[g]? = some (.cells #[.string s, .int .i64 a, v] 87 (0, 0)) ∧ w0.heap.size ≤ g ∧ Kd.R k33 33 w w0.heap.size (fun _ => True) v out
def PRpost (w0 w' : World) (g : Nat) (s : ByteArray) : PR → Ending → Prop
  | .ok a out, e => e = .returned (.tuple #[]) ∧ Rdr w0 w' g s a out
  | .bad a c, e => e = .panicked (fault a c)

theorem Rdr.is {w0 w : World} {g : Nat} {s : ByteArray} {a : Int} {v : Value} (hb : w.heap[g]? = some (.cells #[.string s, .int .i64 a, v] 87 (0, 0))) (hg : w0.heap.size ≤ g) : RW.IsS87 w0 w g s a v := ⟨(), (), hb, hg, trivial⟩
theorem e28 : ∀ q, q ∈ 33 :: k33.E → q ≠ 87 := by
  intro q hq
  have h28 : q = 33 := by simpa [k33, Kd.iso, Kd.pair, Kd.string, Kd.int, Kd.scalar] using hq
  subst h28
  decide
theorem R_keepS {w w1 : World} {g base : Nat} {v : Value} {out : List S33} {cs : Array Value} (h : Kd.R k33 33 w base (fun _ => True) v out) (hb : w.heap[g]? = some (.cells cs 87 (0, 0))) (hk : KeepBut w w1 g none) : Kd.R k33 33 w1 base (fun _ => True) v out :=
  Kd.R_mono (Kd.R_keep (Kd.R_types h hb e28) hk (fun k hk => hk.2)) (fun _ _ => trivial)

/-- next, in the reader's own words. -/
theorem next_any {w0 w : World} {g : Nat} {s : ByteArray} {a : Int} {v : Value} {out : List S33} (hb : w.heap[g]? = some (.cells #[.string s, .int .i64 a, v] 87 (0, 0))) (hg : w0.heap.size ≤ g) (hr : Kd.R k33 33 w w0.heap.size (fun _ => True) v out) (hB : Below w0.heap.size w0 w) (h0 : 0 ≤ a) :
    Calls Tryd.prog 77 #[.pointer (some ⟨g, 0, none⟩)] w fun e w' => e = .returned (.int .u8 (nxt s a)) ∧ w'.heap[g]? = some (.cells #[.string s, .int .i64 a, v] 87 (0, 0)) ∧ Kd.R k33 33 w' w0.heap.size (fun _ => True) v out ∧ Below w0.heap.size w0 w' := by
  refine (RW.term_reader_next.calls g s a v (nxt s a) s a w0 w (Rdr.is hb hg) hB (next_some s a v h0)).mono ?_
  rintro e w' ⟨rfl, ⟨_, _, hb', _, _⟩, hB', hk⟩
  exact ⟨rfl, hb', R_keepS hr hb hk, hB'⟩
theorem word_any {w0 w : World} {g : Nat} {s : ByteArray} {a b : Int} {v : Value} {out : List S33} {k : Nat} (hb : w.heap[g]? = some (.cells #[.string s, .int .i64 a, v] 87 (0, 0))) (hg : w0.heap.size ≤ g) (hr : Kd.R k33 33 w w0.heap.size (fun _ => True) v out) (hB : Below w0.heap.size w0 w) (hs : s.size ≤ 4611686018427387904) (h0 : 0 ≤ a) (h1 : a ≤ (s.size : Int)) (h : scan k s a = some b) :
    Calls Tryd.prog 76 #[.pointer (some ⟨g, 0, none⟩)] w fun e w' => e = .returned (.string (s.extract a.toNat b.toNat)) ∧ w'.heap[g]? = some (.cells #[.string s, .int .i64 b, v] 87 (0, 0)) ∧ Kd.R k33 33 w' w0.heap.size (fun _ => True) v out ∧ Below w0.heap.size w0 w' := by
  have hw : RW.term_reader_word.f k s a v = some (s.extract a.toNat b.toNat, s, b) := by
    unfold RW.term_reader_word.f
    rw [next_some _ _ _ h0]
    exact word_l0 k s a a b v hs h0 (Int.le_refl _) h1 h
  refine (RW.term_reader_word.calls k g s a v _ s b w0 w (Rdr.is hb hg) hB hw).mono ?_
  rintro e w' ⟨rfl, ⟨_, _, hb', _, _⟩, hB', hk⟩
  exact ⟨rfl, hb', R_keepS hr hb hk, hB'⟩

theorem slice_any {e : Nat} {w : World} {base : Nat} {ok : Nat → Prop} {v : Value} {α : Type} {d : Kd α} {xs : List α} (h : d.R e w base ok v xs) : ∃ A n c, v = .slice A n c := by
  obtain ⟨A, c, h⟩ := Kd.R_slice h
  exact ⟨A, _, c, h⟩

def TermC (k : Nat) : Prop := ∀ (s : ByteArray) (a : Int) (out : List S33) (r : PR) (g : Nat) (v : Value) (w0 w : World), s.size ≤ 4611686018427387904 → w.heap[g]? = some (.cells #[.string s, .int .i64 a, v] 87 (0, 0)) → w0.heap.size ≤ g → Kd.R k33 33 w w0.heap.size (fun _ => True) v out → Below w0.heap.size w0 w → rdt.f k s a out = some r →
  Calls Tryd.prog 63 #[.pointer (some ⟨g, 0, none⟩)] w fun e w' => PRpost w0 w' g s r e ∧ Below w0.heap.size w0 w'
def ArgsC (k : Nat) : Prop := ∀ (s : ByteArray) (a : Int) (out : List S33) (cell : Nat) (r : PR) (g : Nat) (v : Value) (w0 w : World), s.size ≤ 4611686018427387904 → w.heap[g]? = some (.cells #[.string s, .int .i64 a, v] 87 (0, 0)) → w0.heap.size ≤ g → Kd.R k33 33 w w0.heap.size (fun _ => True) v out → Below w0.heap.size w0 w → rdt.l k s a out cell 1 = some r →
  Calls Tryd.prog 78 #[.pointer (some ⟨g, 0, none⟩), .int .i64 cell] w fun e w' => PRpost w0 w' g s r e ∧ Below w0.heap.size w0 w'

set_option maxHeartbeats 1000000 in
set_option maxRecDepth 100000 in
theorem term_step (k : Nat) (ih : ArgsC k) : TermC (k + 1) := by
  intro s a out r g v w0 w hs hb hg hr hB h
  simp only [rdt.f] at h
  split at h
  case isFalse => cases h
  case isTrue h01 =>
  obtain ⟨h0, h1⟩ := h01
  obtain ⟨b, hsc, h⟩ := Option.bind_eq_some_iff.1 h
  obtain ⟨kd, hkd, h⟩ := Option.bind_eq_some_iff.1 h
  obtain ⟨Ao, co, rfl⟩ := Kd.R_slice hr
  have hle := scan_le _ s a b hs h0 h1 hsc
  have hc1 : w.cell? ⟨g, 1, none⟩ = _ := (blk_cell hb 1).trans rfl
  have HW := Aside0.mk (word_any hb hg hr hB hs h0 h1 hsc)
  have HKd := Aside0.mk hkd
  have HG := Aside0.mk hg
  have HS := Aside0.mk hs
  have HB0 : Aside0 (0 ≤ b) := ⟨by omega⟩
  obtain ⟨wd, hwd⟩ : ∃ wd, s.extract a.toNat b.toNat = wd := ⟨_, rfl⟩
  rw [hwd] at HW HKd h
  clear hb hr hB hs h0 h1 hsc hle hg hkd hwd
  by_cases c1 : wd.toList = ([] : List UInt8)
  · rw [if_pos c1] at h
    have c1b : (wd.toList == ([] : List UInt8)) = true := beq_iff_eq.mpr c1
    clear c1
    obtain rfl := Option.some.inj h
    clear h
    go_enter Tryd.func63, Tryd.ntmps63
    go_wp2_with (first | (go_at_call 76; refine HW.out.mono ?_; rintro e w1 ⟨rfl, hb1, hr1, hB1⟩; have hcA : w1.cell? ⟨g, 1, none⟩ = _ := (blk_cell hb1 1).trans rfl; have hcB : w1.cell? ⟨g, 2, none⟩ = _ := (blk_cell hb1 2).trans rfl; have HB1 := Aside0.mk hB1; have HK1 := Aside0.mk hb1; have HR1 := Aside0.mk hr1; clear hb1 hr1 hB1) | (go_at_call 32; refine (name_Kind.calls k wd _ _ HKd.out).mono ?_; rintro e w2 ⟨rfl, ⟨nd, rfl⟩⟩) | (go_at_call 64; refine (give_any _ _ _ _).mono ?_; rintro e w3 ⟨rfl, rfl⟩))
    exact ⟨rfl, rfl, pw_below_drewN HB1.out _⟩
  rw [if_neg c1] at h
  have c1b : (wd.toList == ([] : List UInt8)) = false := beq_eq_false_iff_ne.mpr c1
  have c1c : (wd.toList != ([] : List UInt8)) = true := bne_iff_ne.mpr c1
  clear c1
  by_cases c2 : kd = 0
  · subst c2
    rw [if_pos rfl] at h
    obtain rfl := Option.some.inj h
    clear h
    go_enter Tryd.func63, Tryd.ntmps63
    go_wp2_with (first | (go_at_call 76; refine HW.out.mono ?_; rintro e w1 ⟨rfl, hb1, hr1, hB1⟩; have hcA : w1.cell? ⟨g, 1, none⟩ = _ := (blk_cell hb1 1).trans rfl; have hcB : w1.cell? ⟨g, 2, none⟩ = _ := (blk_cell hb1 2).trans rfl; have HB1 := Aside0.mk hB1; have HK1 := Aside0.mk hb1; have HR1 := Aside0.mk hr1; clear hb1 hr1 hB1) | (go_at_call 32; refine (name_Kind.calls k wd _ _ HKd.out).mono ?_; rintro e w2 ⟨rfl, ⟨nd, rfl⟩⟩) | (go_at_call 64; refine (give_any _ _ _ _).mono ?_; rintro e w3 ⟨rfl, rfl⟩))
    exact ⟨rfl, rfl, pw_below_drewN HB1.out _⟩
  rw [if_neg c2] at h
  have c2b : (kd == 0) = false := beq_eq_false_iff_ne.mpr c2
  clear c2
  by_cases c3 : out.length = 64
  · rw [if_pos c3] at h
    have c3b : ((out.length : Int) == 64) = true := by simp [c3]
    have c3c : (out.length == 64) = true := by simp [c3]
    clear c3
    obtain rfl := Option.some.inj h
    clear h
    go_enter Tryd.func63, Tryd.ntmps63
    go_wp2_with (first | (go_at_call 76; refine HW.out.mono ?_; rintro e w1 ⟨rfl, hb1, hr1, hB1⟩; have hcA : w1.cell? ⟨g, 1, none⟩ = _ := (blk_cell hb1 1).trans rfl; have hcB : w1.cell? ⟨g, 2, none⟩ = _ := (blk_cell hb1 2).trans rfl; have HB1 := Aside0.mk hB1; have HK1 := Aside0.mk hb1; have HR1 := Aside0.mk hr1; clear hb1 hr1 hB1) | (go_at_call 32; refine (name_Kind.calls k wd _ _ HKd.out).mono ?_; rintro e w2 ⟨rfl, ⟨nd, rfl⟩⟩) | (go_at_call 64; refine (give_any _ _ _ _).mono ?_; rintro e w3 ⟨rfl, rfl⟩))
    exact ⟨rfl, rfl, pw_below_drewN HB1.out _⟩
  rw [if_neg c3] at h
  have c3b : ((out.length : Int) == 64) = false := by simp; omega
  have c3c : (out.length == 64) = false := by simp [c3]
  clear c3
  split at h
  case isFalse => cases h
  case isTrue hlen =>
  have HLen := Aside0.mk hlen
  clear hlen
  by_cases c4 : nxt s b = 40
  · rw [if_pos c4] at h
    have c4b : (nxt s b == 40) = true := beq_iff_eq.mpr c4
    have c4c : (nxt s b != 40) = false := bne_eq_false_iff_eq.mpr c4
    clear c4
    by_cases c5 : kd = 2
    · subst c5
      rw [if_pos rfl] at h
      obtain rfl := Option.some.inj h
      clear h c2b
      go_enter Tryd.func63, Tryd.ntmps63
      go_wp2_with (first | (go_at_call 76; refine HW.out.mono ?_; rintro e w1 ⟨rfl, hb1, hr1, hB1⟩; have hcA : w1.cell? ⟨g, 1, none⟩ = _ := (blk_cell hb1 1).trans rfl; have hcB : w1.cell? ⟨g, 2, none⟩ = _ := (blk_cell hb1 2).trans rfl; have HB1 := Aside0.mk hB1; have HK1 := Aside0.mk hb1; have HR1 := Aside0.mk hr1; clear hb1 hr1 hB1) | (go_at_call 32; refine (name_Kind.calls k wd _ _ HKd.out).mono ?_; rintro e w2 ⟨rfl, ⟨nd, rfl⟩⟩) | (at_builtin; refine Kd.R_append k33 (w0 := w0) w0.heap.size rfl (.tmp 45) (.tmp 48) 23 33 (.agg #[(.string ⟨#[]⟩), (.int .i64 0)]) 24 rfl Tryd.underlying23 info33 rfl (by decide) (by omega) (.slice Ao out.length co) out (⟨wd, 0⟩ : S33) [.string wd, .int .i64 0] (fun _ => True) (fun _ => False) rfl rfl (k33_mkM _ _ _ (⟨wd, 0⟩ : S33)) (fun _ hk => hk.elim) (fun _ _ => trivial) (Kd.R_drewN HR1.out nd) (pw_below_drewN HB1.out nd) (pw_below_drewN HB1.out nd).size (by have := HLen.out; omega) ?_; intro v1 w3 hr3 hB3 hg3 _; obtain ⟨A1, n1, cc1, rfl⟩ := slice_any hr3; have hb3 := blk_grown (show (w1.drewN nd).heap[g]? = _ from HK1.out) hg3 (Kd.R_ne HR1.out HK1.out (by decide)); have hcC : w3.cell? ⟨g, 2, none⟩ = _ := (blk_cell hb3 2).trans rfl; have hfC : w3.frozen? ⟨g, 2, none⟩ = false := blk_frozen hb3 2; have HK3 := Aside0.mk (show (w3.setCell ⟨g, 2, none⟩ (.slice A1 n1 cc1)).heap[g]? = some (.cells #[.string s, .int .i64 b, .slice A1 n1 cc1] 87 (0, 0)) from by simpa using blk_set hb3 2 (.slice A1 n1 cc1)); have HR3 := Aside0.mk (show Kd.R k33 33 (w3.setCell ⟨g, 2, none⟩ (.slice A1 n1 cc1)) w0.heap.size (fun _ => True) (.slice A1 n1 cc1) (out ++ [(⟨wd, 0⟩ : S33)]) from Kd.R_set hr3 hb3 e28 2 (.slice A1 n1 cc1)); have HB3 := Aside0.mk (show Below w0.heap.size w0 (w3.setCell ⟨g, 2, none⟩ (.slice A1 n1 cc1)) from hB3.setCell (p := ⟨g, 2, none⟩) HG.out (.slice A1 n1 cc1)); clear hb3 hr3 hB3 hg3) | (go_at_call 77; refine (next_any HK3.out HG.out HR3.out HB3.out HB0.out).mono ?_; rintro e w4 ⟨rfl, hb4, hr4, hB4⟩; have hcD : w4.cell? ⟨g, 1, none⟩ = _ := (blk_cell hb4 1).trans rfl; have HB4 := Aside0.mk hB4; have HK4 := Aside0.mk hb4; have HR4 := Aside0.mk hr4; clear hb4 hr4 hB4) | (go_at_call 64; refine (give_any _ _ _ _).mono ?_; rintro e w3 ⟨rfl, rfl⟩))
      exact ⟨rfl, rfl, HB4.out⟩
    · rw [if_neg c5] at h
      have c5b : (kd == 2) = false := beq_eq_false_iff_ne.mpr c5
      clear c5
      have H := Aside0.mk h
      clear h
      cases r with
      | ok a2 out2 =>
        go_enter Tryd.func63, Tryd.ntmps63
        go_wp2_with (first | (go_at_call 76; refine HW.out.mono ?_; rintro e w1 ⟨rfl, hb1, hr1, hB1⟩; have hcA : w1.cell? ⟨g, 1, none⟩ = _ := (blk_cell hb1 1).trans rfl; have hcB : w1.cell? ⟨g, 2, none⟩ = _ := (blk_cell hb1 2).trans rfl; have HB1 := Aside0.mk hB1; have HK1 := Aside0.mk hb1; have HR1 := Aside0.mk hr1; clear hb1 hr1 hB1) | (go_at_call 32; refine (name_Kind.calls k wd _ _ HKd.out).mono ?_; rintro e w2 ⟨rfl, ⟨nd, rfl⟩⟩) | (at_builtin; refine Kd.R_append k33 (w0 := w0) w0.heap.size rfl (.tmp 45) (.tmp 48) 23 33 (.agg #[(.string ⟨#[]⟩), (.int .i64 0)]) 24 rfl Tryd.underlying23 info33 rfl (by decide) (by omega) (.slice Ao out.length co) out (⟨wd, 0⟩ : S33) [.string wd, .int .i64 0] (fun _ => True) (fun _ => False) rfl rfl (k33_mkM _ _ _ (⟨wd, 0⟩ : S33)) (fun _ hk => hk.elim) (fun _ _ => trivial) (Kd.R_drewN HR1.out nd) (pw_below_drewN HB1.out nd) (pw_below_drewN HB1.out nd).size (by have := HLen.out; omega) ?_; intro v1 w3 hr3 hB3 hg3 _; obtain ⟨A1, n1, cc1, rfl⟩ := slice_any hr3; have hb3 := blk_grown (show (w1.drewN nd).heap[g]? = _ from HK1.out) hg3 (Kd.R_ne HR1.out HK1.out (by decide)); have hcC : w3.cell? ⟨g, 2, none⟩ = _ := (blk_cell hb3 2).trans rfl; have hfC : w3.frozen? ⟨g, 2, none⟩ = false := blk_frozen hb3 2; have HK3 := Aside0.mk (show (w3.setCell ⟨g, 2, none⟩ (.slice A1 n1 cc1)).heap[g]? = some (.cells #[.string s, .int .i64 b, .slice A1 n1 cc1] 87 (0, 0)) from by simpa using blk_set hb3 2 (.slice A1 n1 cc1)); have HR3 := Aside0.mk (show Kd.R k33 33 (w3.setCell ⟨g, 2, none⟩ (.slice A1 n1 cc1)) w0.heap.size (fun _ => True) (.slice A1 n1 cc1) (out ++ [(⟨wd, 0⟩ : S33)]) from Kd.R_set hr3 hb3 e28 2 (.slice A1 n1 cc1)); have HB3 := Aside0.mk (show Below w0.heap.size w0 (w3.setCell ⟨g, 2, none⟩ (.slice A1 n1 cc1)) from hB3.setCell (p := ⟨g, 2, none⟩) HG.out (.slice A1 n1 cc1)); clear hb3 hr3 hB3 hg3) | (go_at_call 77; refine (next_any HK3.out HG.out HR3.out HB3.out HB0.out).mono ?_; rintro e w4 ⟨rfl, hb4, hr4, hB4⟩; have hcD : w4.cell? ⟨g, 1, none⟩ = _ := (blk_cell hb4 1).trans rfl; have HB4 := Aside0.mk hB4; have HK4 := Aside0.mk hb4; have HR4 := Aside0.mk hr4; clear hb4 hr4 hB4) | (go_at_call 78; refine (ih s b _ out.length _ g _ w0 _ HS.out HK4.out HG.out HR4.out HB4.out H.out).mono ?_; rintro e w5 ⟨⟨rfl, hR5⟩, hB5⟩; have HR5 := Aside0.mk hR5; have HB5 := Aside0.mk hB5; clear hR5 hB5))
        go_end0
        exact ⟨⟨rfl, HR5.out⟩, HB5.out⟩
      | bad a2 e2 =>
        go_enter Tryd.func63, Tryd.ntmps63
        go_wp2_with (first | (go_at_call 76; refine HW.out.mono ?_; rintro e w1 ⟨rfl, hb1, hr1, hB1⟩; have hcA : w1.cell? ⟨g, 1, none⟩ = _ := (blk_cell hb1 1).trans rfl; have hcB : w1.cell? ⟨g, 2, none⟩ = _ := (blk_cell hb1 2).trans rfl; have HB1 := Aside0.mk hB1; have HK1 := Aside0.mk hb1; have HR1 := Aside0.mk hr1; clear hb1 hr1 hB1) | (go_at_call 32; refine (name_Kind.calls k wd _ _ HKd.out).mono ?_; rintro e w2 ⟨rfl, ⟨nd, rfl⟩⟩) | (at_builtin; refine Kd.R_append k33 (w0 := w0) w0.heap.size rfl (.tmp 45) (.tmp 48) 23 33 (.agg #[(.string ⟨#[]⟩), (.int .i64 0)]) 24 rfl Tryd.underlying23 info33 rfl (by decide) (by omega) (.slice Ao out.length co) out (⟨wd, 0⟩ : S33) [.string wd, .int .i64 0] (fun _ => True) (fun _ => False) rfl rfl (k33_mkM _ _ _ (⟨wd, 0⟩ : S33)) (fun _ hk => hk.elim) (fun _ _ => trivial) (Kd.R_drewN HR1.out nd) (pw_below_drewN HB1.out nd) (pw_below_drewN HB1.out nd).size (by have := HLen.out; omega) ?_; intro v1 w3 hr3 hB3 hg3 _; obtain ⟨A1, n1, cc1, rfl⟩ := slice_any hr3; have hb3 := blk_grown (show (w1.drewN nd).heap[g]? = _ from HK1.out) hg3 (Kd.R_ne HR1.out HK1.out (by decide)); have hcC : w3.cell? ⟨g, 2, none⟩ = _ := (blk_cell hb3 2).trans rfl; have hfC : w3.frozen? ⟨g, 2, none⟩ = false := blk_frozen hb3 2; have HK3 := Aside0.mk (show (w3.setCell ⟨g, 2, none⟩ (.slice A1 n1 cc1)).heap[g]? = some (.cells #[.string s, .int .i64 b, .slice A1 n1 cc1] 87 (0, 0)) from by simpa using blk_set hb3 2 (.slice A1 n1 cc1)); have HR3 := Aside0.mk (show Kd.R k33 33 (w3.setCell ⟨g, 2, none⟩ (.slice A1 n1 cc1)) w0.heap.size (fun _ => True) (.slice A1 n1 cc1) (out ++ [(⟨wd, 0⟩ : S33)]) from Kd.R_set hr3 hb3 e28 2 (.slice A1 n1 cc1)); have HB3 := Aside0.mk (show Below w0.heap.size w0 (w3.setCell ⟨g, 2, none⟩ (.slice A1 n1 cc1)) from hB3.setCell (p := ⟨g, 2, none⟩) HG.out (.slice A1 n1 cc1)); clear hb3 hr3 hB3 hg3) | (go_at_call 77; refine (next_any HK3.out HG.out HR3.out HB3.out HB0.out).mono ?_; rintro e w4 ⟨rfl, hb4, hr4, hB4⟩; have hcD : w4.cell? ⟨g, 1, none⟩ = _ := (blk_cell hb4 1).trans rfl; have HB4 := Aside0.mk hB4; have HK4 := Aside0.mk hb4; have HR4 := Aside0.mk hr4; clear hb4 hr4 hB4) | (go_at_call 78; refine (ih s b _ out.length _ g _ w0 _ HS.out HK4.out HG.out HR4.out HB4.out H.out).mono ?_; rintro e w5 ⟨rfl, hB5⟩; have HB5 := Aside0.mk hB5; clear hB5))
        exact ⟨rfl, rfl, HB5.out⟩
  · rw [if_neg c4] at h
    have c4b : (nxt s b == 40) = false := beq_eq_false_iff_ne.mpr c4
    have c4c : (nxt s b != 40) = true := bne_iff_ne.mpr c4
    clear c4
    obtain rfl := Option.some.inj h
    clear h
    go_enter Tryd.func63, Tryd.ntmps63
    go_wp2_with (first | (go_at_call 76; refine HW.out.mono ?_; rintro e w1 ⟨rfl, hb1, hr1, hB1⟩; have hcA : w1.cell? ⟨g, 1, none⟩ = _ := (blk_cell hb1 1).trans rfl; have hcB : w1.cell? ⟨g, 2, none⟩ = _ := (blk_cell hb1 2).trans rfl; have HB1 := Aside0.mk hB1; have HK1 := Aside0.mk hb1; have HR1 := Aside0.mk hr1; clear hb1 hr1 hB1) | (go_at_call 32; refine (name_Kind.calls k wd _ _ HKd.out).mono ?_; rintro e w2 ⟨rfl, ⟨nd, rfl⟩⟩) | (at_builtin; refine Kd.R_append k33 (w0 := w0) w0.heap.size rfl (.tmp 45) (.tmp 48) 23 33 (.agg #[(.string ⟨#[]⟩), (.int .i64 0)]) 24 rfl Tryd.underlying23 info33 rfl (by decide) (by omega) (.slice Ao out.length co) out (⟨wd, 0⟩ : S33) [.string wd, .int .i64 0] (fun _ => True) (fun _ => False) rfl rfl (k33_mkM _ _ _ (⟨wd, 0⟩ : S33)) (fun _ hk => hk.elim) (fun _ _ => trivial) (Kd.R_drewN HR1.out nd) (pw_below_drewN HB1.out nd) (pw_below_drewN HB1.out nd).size (by have := HLen.out; omega) ?_; intro v1 w3 hr3 hB3 hg3 _; obtain ⟨A1, n1, cc1, rfl⟩ := slice_any hr3; have hb3 := blk_grown (show (w1.drewN nd).heap[g]? = _ from HK1.out) hg3 (Kd.R_ne HR1.out HK1.out (by decide)); have hcC : w3.cell? ⟨g, 2, none⟩ = _ := (blk_cell hb3 2).trans rfl; have hfC : w3.frozen? ⟨g, 2, none⟩ = false := blk_frozen hb3 2; have HK3 := Aside0.mk (show (w3.setCell ⟨g, 2, none⟩ (.slice A1 n1 cc1)).heap[g]? = some (.cells #[.string s, .int .i64 b, .slice A1 n1 cc1] 87 (0, 0)) from by simpa using blk_set hb3 2 (.slice A1 n1 cc1)); have HR3 := Aside0.mk (show Kd.R k33 33 (w3.setCell ⟨g, 2, none⟩ (.slice A1 n1 cc1)) w0.heap.size (fun _ => True) (.slice A1 n1 cc1) (out ++ [(⟨wd, 0⟩ : S33)]) from Kd.R_set hr3 hb3 e28 2 (.slice A1 n1 cc1)); have HB3 := Aside0.mk (show Below w0.heap.size w0 (w3.setCell ⟨g, 2, none⟩ (.slice A1 n1 cc1)) from hB3.setCell (p := ⟨g, 2, none⟩) HG.out (.slice A1 n1 cc1)); clear hb3 hr3 hB3 hg3) | (go_at_call 77; refine (next_any HK3.out HG.out HR3.out HB3.out HB0.out).mono ?_; rintro e w4 ⟨rfl, hb4, hr4, hB4⟩; have hcD : w4.cell? ⟨g, 1, none⟩ = _ := (blk_cell hb4 1).trans rfl; have HB4 := Aside0.mk hB4; have HK4 := Aside0.mk hb4; have HR4 := Aside0.mk hr4; clear hb4 hr4 hB4))
    refine bodyPost_ret (results_none rfl _ _ _) rfl ?_
    exact ⟨⟨rfl, _, HK4.out, HG.out, HR4.out⟩, HB4.out⟩

theorem elem_store {w : World} {base : Nat} {A : Option Addr} {n c : Nat} {out : List S33} (h : Kd.R k33 33 w base (fun _ => True) (.slice A n c) out) (cell : Nat) (hc : cell < out.length) (x : Int) :
    ∃ go, A = some ⟨go, 0, none⟩ ∧ base ≤ go ∧ n = out.length ∧ w.cell? ⟨go, cell * 2 + 1, none⟩ = some (.int .i64 (rd_T33 out cell).f1) ∧ w.frozen? ⟨go, cell * 2 + 1, none⟩ = false ∧
      Kd.R k33 33 (w.setCell ⟨go, cell * 2 + 1, none⟩ (.int .i64 x)) base (fun _ => True) (.slice A n c) (out.set cell ⟨(rd_T33 out cell).f0, x⟩) ∧ ∀ g cs, w.heap[g]? = some (.cells cs 87 (0, 0)) → g ≠ go := by
  obtain ⟨go, cap, hv, hb, hlt, cells, hcells⟩ := Kd.R_form h (by omega)
  injection hv with hA hn hcap
  subst hA hn hcap
  obtain ⟨ce, hcl, hM, hcc, hfr⟩ := Kd.R_elem h z33 (cell : Int) (by omega) (by omega)
  obtain rfl := k33_openM hM
  have h1 := hcc 1 _ rfl
  have h2 := hfr 1
  have h3 := Kd.R_seg h (cell : Int) (by omega) (by omega) (seg := [.int .i64 x]) (j := 1) hcl hcc (show 2 ≤ 2 from by decide) (x' := (⟨(rd_T33 out cell).f0, x⟩ : S33)) (k33_mkM _ _ _ (⟨(rd_T33 out cell).f0, x⟩ : S33)) (fun _ hk => hk)
  refine ⟨go, rfl, hb, rfl, h1, h2, h3.1, fun g cs hg => ?_⟩
  rintro rfl
  rw [hcells] at hg
  injection hg with hg
  injection hg with _ hg
  exact absurd hg (by decide)

set_option maxHeartbeats 1000000 in
set_option maxRecDepth 100000 in
theorem args_step (k : Nat) (ih : ∀ m, m < k → TermC m) : ArgsC k := by
  intro s a out cell r g v w0 w hs hb hg hr hB h
  have HG := Aside0.mk hg
  have HS := Aside0.mk hs
  have HK := Aside0.mk hb
  have HR := Aside0.mk hr
  have HB := Aside0.mk hB
  have H := Aside0.mk h
  clear hs hb hg hr hB h
  go_enter Tryd.func78, Tryd.ntmps78
  go_wp2
  go_loopg [4] k (fun kq v4 w' => ∃ (n a : Int) (out : List S33) (v : Value), v4 = .int .i64 n ∧ Aside0 (rdt.l kq s a out cell n = some r) ∧ Aside0 (kq ≤ k) ∧ Aside0 (w'.heap[g]? = some (.cells #[.string s, .int .i64 a, v] 87 (0, 0))) ∧ Aside0 (Kd.R k33 33 w' w0.heap.size (fun _ => True) v out) ∧ Aside0 (Below w0.heap.size w0 w'))
  case atStart => exact ⟨1, a, out, v, rfl, H, ⟨Nat.le_refl _⟩, HK, HR, HB⟩
  case round =>
    clear H HK HR HB
    obtain ⟨n, a, out, v, rfl, HA, HQ, HK, HR, HB⟩ := hrel
    cases gk with
    | zero => exact absurd HA.out (by simp [rdt.l])
    | succ k1 =>
      have h := HA.out
      simp only [rdt.l] at h
      clear HA
      obtain ⟨x, hx, h⟩ := Option.bind_eq_some_iff.1 h
      have HX := Aside0.mk hx
      clear hx
      have hc1 : wr.cell? ⟨g, 1, none⟩ = _ := (blk_cell HK.out 1).trans rfl
      have hf1 : wr.frozen? ⟨g, 1, none⟩ = false := blk_frozen HK.out 1
      have HK2 := Aside0.mk (show (wr.setCell ⟨g, 1, none⟩ (.int .i64 (wrap64 (a + 1)))).heap[g]? = some (.cells #[.string s, .int .i64 (wrap64 (a + 1)), v] 87 (0, 0)) from by simpa using blk_set HK.out 1 (.int .i64 (wrap64 (a + 1))))
      have HR2 := Aside0.mk (show Kd.R k33 33 (wr.setCell ⟨g, 1, none⟩ (.int .i64 (wrap64 (a + 1)))) w0.heap.size (fun _ => True) v out from Kd.R_set HR.out HK.out e28 1 (.int .i64 (wrap64 (a + 1))))
      have HB2 := Aside0.mk (show Below w0.heap.size w0 (wr.setCell ⟨g, 1, none⟩ (.int .i64 (wrap64 (a + 1)))) from HB.out.setCell (p := ⟨g, 1, none⟩) HG.out (.int .i64 (wrap64 (a + 1))))
      cases x with
      | bad x y =>
        obtain rfl := Option.some.inj h
        clear h
        go_wp2_with (go_at_call 63; refine (ih k1 (by have := HQ.out; omega) s _ out _ g v w0 _ HS.out HK2.out HG.out HR2.out HB2.out HX.out).mono ?_; rintro e w3 ⟨rfl, hB3⟩; have HB3 := Aside0.mk hB3; clear hB3)
        exact ⟨rfl, rfl, HB3.out⟩
      | ok a1 out1 =>
        simp only at h
        split at h
        case isFalse => cases h
        case isTrue h0 =>
        split at h
        case isFalse => cases h
        case isTrue hcell =>
        have HA1 := Aside0.mk h0
        have HC := Aside0.mk hcell
        clear h0 hcell
        by_cases c1 : nxt s a1 = 41
        · rw [if_pos c1] at h
          have c1b : (nxt s a1 == 41) = true := beq_iff_eq.mpr c1
          clear c1
          obtain rfl := Option.some.inj h
          clear h
          go_wp2_with (first | (go_at_call 63; refine (ih k1 (by have := HQ.out; omega) s _ out _ g v w0 _ HS.out HK2.out HG.out HR2.out HB2.out HX.out).mono ?_; rintro e w3 ⟨⟨rfl, v3, hb3, _, hr3⟩, hB3⟩; obtain ⟨A3, n3, c3, rfl⟩ := slice_any hr3; obtain ⟨go, rfl, hgo, hn3, hx3, hf3, hR3, hne⟩ := elem_store hr3 cell HC.out n; have hgg := hne _ _ hb3; have hc3a : w3.cell? ⟨g, 2, none⟩ = _ := (blk_cell hb3 2).trans rfl; have hlt3 : cell < n3 := (by have := HC.out; omega); have HB4 := Aside0.mk (show Below w0.heap.size w0 (w3.setCell ⟨go, cell * 2 + 1, none⟩ (.int .i64 n)) from hB3.setCell (p := ⟨go, cell * 2 + 1, none⟩) hgo _); have HK4 := Aside0.mk (show (w3.setCell ⟨go, cell * 2 + 1, none⟩ (.int .i64 n)).heap[g]? = _ from blk_far hb3 hgg (.int .i64 n)); have HR4 := Aside0.mk hR3; clear hb3 hr3 hB3 hR3 hne hn3 hgo hgg) | (go_at_call 77; refine (next_any HK4.out HG.out HR4.out HB4.out HA1.out).mono ?_; rintro e w4 ⟨rfl, hb5, hr5, hB5⟩; have hcD : w4.cell? ⟨g, 1, none⟩ = _ := (blk_cell hb5 1).trans rfl; have hfD : w4.frozen? ⟨g, 1, none⟩ = false := blk_frozen hb5 1; have HB5 := Aside0.mk hB5; have HK5 := Aside0.mk hb5; have HR5 := Aside0.mk hr5; clear hb5 hr5 hB5) | (go_at_call 64; refine (give_any _ _ _ _).mono ?_; rintro e w3 ⟨rfl, rfl⟩))
          refine bodyPost_ret (results_none rfl _ _ _) rfl ?_
          exact ⟨⟨rfl, _, by simpa using blk_set HK5.out 1 (.int .i64 (wrap64 (a1 + 1))), HG.out, Kd.R_set HR5.out HK5.out e28 1 (.int .i64 (wrap64 (a1 + 1)))⟩, HB5.out.setCell (p := ⟨g, 1, none⟩) HG.out _⟩
        · rw [if_neg c1] at h
          have c1b : (nxt s a1 == 41) = false := beq_eq_false_iff_ne.mpr c1
          clear c1
          by_cases c2 : nxt s a1 = 44
          · rw [if_pos c2] at h
            have c2b : (nxt s a1 == 44) = true := beq_iff_eq.mpr c2
            clear c2
            by_cases c3 : n = 4
            · subst c3
              rw [if_pos rfl] at h
              obtain rfl := Option.some.inj h
              clear h
              go_wp2_with (first | (go_at_call 63; refine (ih k1 (by have := HQ.out; omega) s _ out _ g v w0 _ HS.out HK2.out HG.out HR2.out HB2.out HX.out).mono ?_; rintro e w3 ⟨⟨rfl, v3, hb3, _, hr3⟩, hB3⟩; obtain ⟨A3, n3, c3, rfl⟩ := slice_any hr3; obtain ⟨go, rfl, hgo, hn3, hx3, hf3, hR3, hne⟩ := elem_store hr3 cell HC.out 4; have hgg := hne _ _ hb3; have hc3a : w3.cell? ⟨g, 2, none⟩ = _ := (blk_cell hb3 2).trans rfl; have hlt3 : cell < n3 := (by have := HC.out; omega); have HB4 := Aside0.mk (show Below w0.heap.size w0 (w3.setCell ⟨go, cell * 2 + 1, none⟩ (.int .i64 4)) from hB3.setCell (p := ⟨go, cell * 2 + 1, none⟩) hgo _); have HK4 := Aside0.mk (show (w3.setCell ⟨go, cell * 2 + 1, none⟩ (.int .i64 4)).heap[g]? = _ from blk_far hb3 hgg (.int .i64 4)); have HR4 := Aside0.mk hR3; clear hb3 hr3 hB3 hR3 hne hn3 hgo hgg) | (go_at_call 77; refine (next_any HK4.out HG.out HR4.out HB4.out HA1.out).mono ?_; rintro e w4 ⟨rfl, hb5, hr5, hB5⟩; have hcD : w4.cell? ⟨g, 1, none⟩ = _ := (blk_cell hb5 1).trans rfl; have hfD : w4.frozen? ⟨g, 1, none⟩ = false := blk_frozen hb5 1; have HB5 := Aside0.mk hB5; have HK5 := Aside0.mk hb5; have HR5 := Aside0.mk hr5; clear hb5 hr5 hB5) | (go_at_call 64; refine (give_any _ _ _ _).mono ?_; rintro e w3 ⟨rfl, rfl⟩))
              exact ⟨rfl, rfl, HB5.out⟩
            · rw [if_neg c3] at h
              have c3b : (n == 4) = false := beq_eq_false_iff_ne.mpr c3
              clear c3
              have HN := Aside0.mk h
              clear h
              go_wp2_with (first | (go_at_call 63; refine (ih k1 (by have := HQ.out; omega) s _ out _ g v w0 _ HS.out HK2.out HG.out HR2.out HB2.out HX.out).mono ?_; rintro e w3 ⟨⟨rfl, v3, hb3, _, hr3⟩, hB3⟩; obtain ⟨A3, n3, c3, rfl⟩ := slice_any hr3; obtain ⟨go, rfl, hgo, hn3, hx3, hf3, hR3, hne⟩ := elem_store hr3 cell HC.out n; have hgg := hne _ _ hb3; have hc3a : w3.cell? ⟨g, 2, none⟩ = _ := (blk_cell hb3 2).trans rfl; have hlt3 : cell < n3 := (by have := HC.out; omega); have HB4 := Aside0.mk (show Below w0.heap.size w0 (w3.setCell ⟨go, cell * 2 + 1, none⟩ (.int .i64 n)) from hB3.setCell (p := ⟨go, cell * 2 + 1, none⟩) hgo _); have HK4 := Aside0.mk (show (w3.setCell ⟨go, cell * 2 + 1, none⟩ (.int .i64 n)).heap[g]? = _ from blk_far hb3 hgg (.int .i64 n)); have HR4 := Aside0.mk hR3; clear hb3 hr3 hB3 hR3 hne hn3 hgo hgg) | (go_at_call 77; refine (next_any HK4.out HG.out HR4.out HB4.out HA1.out).mono ?_; rintro e w4 ⟨rfl, hb5, hr5, hB5⟩; have hcD : w4.cell? ⟨g, 1, none⟩ = _ := (blk_cell hb5 1).trans rfl; have hfD : w4.frozen? ⟨g, 1, none⟩ = false := blk_frozen hb5 1; have HB5 := Aside0.mk hB5; have HK5 := Aside0.mk hb5; have HR5 := Aside0.mk hr5; clear hb5 hr5 hB5) | (go_at_call 64; refine (give_any _ _ _ _).mono ?_; rintro e w3 ⟨rfl, rfl⟩))
              go_roundg k1
              case measure => have := HQ.out; omega
              case rel => exact ⟨wrap64 (n + 1), a1, _, _, rfl, HN, ⟨by have := HQ.out; omega⟩, HK5, HR5, HB5⟩
          · rw [if_neg c2] at h
            have c2b : (nxt s a1 == 44) = false := beq_eq_false_iff_ne.mpr c2
            clear c2
            obtain rfl := Option.some.inj h
            clear h
            go_wp2_with (first | (go_at_call 63; refine (ih k1 (by have := HQ.out; omega) s _ out _ g v w0 _ HS.out HK2.out HG.out HR2.out HB2.out HX.out).mono ?_; rintro e w3 ⟨⟨rfl, v3, hb3, _, hr3⟩, hB3⟩; obtain ⟨A3, n3, c3, rfl⟩ := slice_any hr3; obtain ⟨go, rfl, hgo, hn3, hx3, hf3, hR3, hne⟩ := elem_store hr3 cell HC.out n; have hgg := hne _ _ hb3; have hc3a : w3.cell? ⟨g, 2, none⟩ = _ := (blk_cell hb3 2).trans rfl; have hlt3 : cell < n3 := (by have := HC.out; omega); have HB4 := Aside0.mk (show Below w0.heap.size w0 (w3.setCell ⟨go, cell * 2 + 1, none⟩ (.int .i64 n)) from hB3.setCell (p := ⟨go, cell * 2 + 1, none⟩) hgo _); have HK4 := Aside0.mk (show (w3.setCell ⟨go, cell * 2 + 1, none⟩ (.int .i64 n)).heap[g]? = _ from blk_far hb3 hgg (.int .i64 n)); have HR4 := Aside0.mk hR3; clear hb3 hr3 hB3 hR3 hne hn3 hgo hgg) | (go_at_call 77; refine (next_any HK4.out HG.out HR4.out HB4.out HA1.out).mono ?_; rintro e w4 ⟨rfl, hb5, hr5, hB5⟩; have hcD : w4.cell? ⟨g, 1, none⟩ = _ := (blk_cell hb5 1).trans rfl; have hfD : w4.frozen? ⟨g, 1, none⟩ = false := blk_frozen hb5 1; have HB5 := Aside0.mk hB5; have HK5 := Aside0.mk hb5; have HR5 := Aside0.mk hr5; clear hb5 hr5 hB5) | (go_at_call 64; refine (give_any _ _ _ _).mono ?_; rintro e w3 ⟨rfl, rfl⟩))
            exact ⟨rfl, rfl, HB5.out⟩

theorem rdt.calls (k : Nat) : TermC k := by
  induction k using Nat.strongRecOn with
  | _ k ih =>
    cases k with
    | zero => intro s a out r g v w0 w _ _ _ _ _ h; simp [rdt.f] at h
    | succ k => exact term_step k (args_step k (fun m hm => ih m (by omega)))

theorem tmps39 (a b c x y : Value) : #[a, b, c] ++ ((Array.replicate 18 undef).setIfInBounds 3 x).setIfInBounds 0 y = #[a, b, c, y, undef, undef, x, undef, undef, undef, undef, undef, undef, undef, undef, undef, undef, undef, undef, undef, undef] := by kernel_rfl

set_option maxHeartbeats 1000000 in
set_option maxRecDepth 100000 in
theorem catch_idle (p0 p1 p2 : Addr) (w : World) :
    CallsD Tryd.prog 62 #[.pointer (some p0), .pointer (some p1), .pointer (some p2)] .returning w fun e u' w' => e = .returned (.tuple #[]) ∧ u' = .returning ∧ w' = w := by
  refine callsD_of_wpS Tryd.func62 rfl fun c₀ cs hu => ?_
  apply wpS_seq
  apply wpS_region
  simp [wpOpsS, go_sem, recoverD, hu, Tryd.ntmps62, Exit.thenS]
  refine wpS_of_wp ?_
  rw [tmps39]
  go_wp2
  cases c₀
  simp_all [bodyPostS, results, Tryd.results39]

set_option maxHeartbeats 1000000 in
set_option maxRecDepth 100000 in
theorem catch_fault (a c : Int) (b0 : Nat) (w : World) (k0 : w.heap[b0]? = some (.cells #[.slice none 0 0] 23 (0, 0))) (k1 : w.heap[b0 + 1]? = some (.cells #[.int .i64 0] 3 (0, 0))) (k2 : w.heap[b0 + 2]? = some (.cells #[.int .i64 0] 27 (0, 0))) (older : List PanicEntry) :
    CallsD Tryd.prog 62 #[.pointer (some ⟨b0, 0, none⟩), .pointer (some ⟨b0 + 1, 0, none⟩), .pointer (some ⟨b0 + 2, 0, none⟩)] (.panicking ({ v := .iface 83 (.agg #[.int .i64 a, .int .i64 c]), recovered := false } :: older)) w fun e u' w' =>
      e = .returned (.tuple #[]) ∧ u' = .panicking ({ v := .iface 83 (.agg #[.int .i64 a, .int .i64 c]), recovered := true } :: older) ∧ 
      Below b0 w w' ∧ w'.heap[b0]? = some (.cells #[.slice none 0 0] 23 (0, 0)) ∧ w'.heap[b0 + 1]? = some (.cells #[.int .i64 a] 3 (0, 0)) ∧ w'.heap[b0 + 2]? = some (.cells #[.int .i64 c] 27 (0, 0)) := by
  have hc0 : w.cell? ⟨b0, 0, none⟩ = _ := (blk_cell k0 0).trans rfl
  have hc1 : w.cell? ⟨b0 + 1, 0, none⟩ = _ := (blk_cell k1 0).trans rfl
  have hc2 : w.cell? ⟨b0 + 2, 0, none⟩ = _ := (blk_cell k2 0).trans rfl
  have hf0 : w.frozen? ⟨b0, 0, none⟩ = false := blk_frozen k0 0
  have hf1 : w.frozen? ⟨b0 + 1, 0, none⟩ = false := blk_frozen k1 0
  have hf2 : w.frozen? ⟨b0 + 2, 0, none⟩ = false := blk_frozen k2 0
  have hlt : b0 + 2 < w.heap.size := blk_lt k2
  have hta : ∀ (v : Value) (W : World), (Instr.typeAssert (.iface 83 v) 20 83 true).run Tryd.prog W = .ok (.tuple #[v, .bool true]) W := fun v W => by rfl
  have K0 := Aside0.mk k0
  have K1 := Aside0.mk k1
  have K2 := Aside0.mk k2
  clear k0 k1 k2
  refine callsD_of_wpS Tryd.func62 rfl fun c₀ cs hu => ?_
  apply wpS_seq
  apply wpS_region
  simp [wpOpsS, go_sem, recoverD, hu, Tryd.ntmps62, Exit.thenS]
  refine wpS_of_wp ?_
  rw [tmps39]
  go_wp2
  clear hc0 hc1 hc2 hf0 hf1 hf2 hta
  obtain ⟨W, hW⟩ : ∃ W, W = w.alloc (.cells #[.int .i64 a, .int .i64 c] 83) := ⟨_, rfl⟩
  have m0 : W.heap[b0]? = some (.cells #[.slice none 0 0] 23 (0, 0)) := by rw [hW]; exact (Lib.alloc_old w _ _ (by omega)).trans K0.out
  have m1 : W.heap[b0 + 1]? = some (.cells #[.int .i64 0] 3 (0, 0)) := by rw [hW]; exact (Lib.alloc_old w _ _ (by omega)).trans K1.out
  have m2 : W.heap[b0 + 2]? = some (.cells #[.int .i64 0] 27 (0, 0)) := by rw [hW]; exact (Lib.alloc_old w _ _ (by omega)).trans K2.out
  have hB : Aside0 (Below b0 w W) := ⟨by rw [hW]; exact (Below.refl b0 w).alloc (by omega) _⟩
  obtain ⟨q, hq⟩ : ∃ q, q = w.heap.size := ⟨_, rfl⟩
  have m3 : W.heap[q]? = some (.cells #[.int .i64 a, .int .i64 c] 83 (0, 0)) := by rw [hW, hq]; exact heap_alloc_new w _
  rw [← hW, ← hq]
  have hq0 : ¬ q = b0 := by omega
  have hq1 : ¬ q = b0 + 1 := by omega
  have hq2 : ¬ q = b0 + 2 := by omega
  clear hq hlt hW
  have hd0 : W.cell? ⟨b0, 0, none⟩ = _ := (blk_cell m0 0).trans rfl
  have hd1 : W.cell? ⟨b0 + 1, 0, none⟩ = _ := (blk_cell m1 0).trans rfl
  have hd2 : W.cell? ⟨b0 + 2, 0, none⟩ = _ := (blk_cell m2 0).trans rfl
  have hd3 : W.cell? ⟨q, 0, none⟩ = _ := (blk_cell m3 0).trans rfl
  have hd4 : W.cell? ⟨q, 1, none⟩ = _ := (blk_cell m3 1).trans rfl
  have hf0 : W.frozen? ⟨b0, 0, none⟩ = false := blk_frozen m0 0
  have hf1 : W.frozen? ⟨b0 + 1, 0, none⟩ = false := blk_frozen m1 0
  have hf2 : W.frozen? ⟨b0 + 2, 0, none⟩ = false := blk_frozen m2 0
  have M0 := Aside0.mk m0
  have M1 := Aside0.mk m1
  have M2 := Aside0.mk m2
  clear m0 m1 m2 m3 K0 K1 K2
  go_region
  refine ⟨rfl, _, rfl, .tuple #[], results_none rfl _ _ _, rfl, rfl, ?_, ?_, ?_, ?_⟩
  · exact (((hB.out.setCell (p := ⟨b0, 0, none⟩) (Nat.le_refl _) _).setCell (p := ⟨b0 + 1, 0, none⟩) (Nat.le_succ _) _).setCell (p := ⟨b0 + 2, 0, none⟩) (Nat.le_add_right _ _) _).drew
  · exact blk_far (blk_far (by simpa using blk_set M0.out 0 (.slice none 0 0)) (p := ⟨b0 + 1, 0, none⟩) (by simp) _) (p := ⟨b0 + 2, 0, none⟩) (by simp) _
  · exact blk_far (by simpa using blk_set (blk_far M1.out (p := ⟨b0, 0, none⟩) (by simp) (.slice none 0 0)) 0 (.int .i64 a)) (p := ⟨b0 + 2, 0, none⟩) (by simp) _
  · exact (show ((((W.setCell ⟨b0, 0, none⟩ (.slice none 0 0)).setCell ⟨b0 + 1, 0, none⟩ (.int .i64 a)).setCell ⟨b0 + 2, 0, none⟩ (.int .i64 c)).heap)[b0 + 2]? = _ from by simpa using blk_set (blk_far (blk_far M2.out (p := ⟨b0, 0, none⟩) (by simp) (.slice none 0 0)) (p := ⟨b0 + 1, 0, none⟩) (by simp) (.int .i64 a)) 0 (.int .i64 c))

/-! ### Parse -/
def term_Parse.f (k : Nat) (s : ByteArray) : Option (List S33 × Int × Int) :=
  if (s.size : Int) > 1024 then some ([], 0, 2) else (rdt.f k s 0 []).bind fun r => match r with
    | .bad a c => some ([], a, c)
    | .ok a out => if a < (s.size : Int) then some ([], a, 3) else (clone_Term.f out).bind fun t => some (t, 0, 0)

/-- The world in which the reader is laid: three new cells, the results'. -/
def parseW (w : World) : World := ((w.alloc (.cells #[.slice none 0 0] 23)).alloc (.cells #[.int .i64 0] 3)).alloc (.cells #[.int .i64 0] 27)
theorem parseW_size (w : World) : (parseW w).heap.size = w.heap.size + 1 + 1 + 1 := by simp [parseW]
theorem parse_g (w : World) (s : ByteArray) : ((parseW w).alloc (.cells #[.string s, .int .i64 0, .slice none 0 0] 87)).heap[w.heap.size + 1 + 1 + 1]? = some (.cells #[.string s, .int .i64 0, .slice none 0 0] 87 (0, 0)) := by
  rw [← parseW_size]
  exact heap_alloc_new _ _
theorem parse_g_ge (w : World) : (parseW w).heap.size ≤ w.heap.size + 1 + 1 + 1 := by rw [parseW_size]; exact Nat.le_refl _
theorem parse_below (w : World) (s : ByteArray) : Below (parseW w).heap.size (parseW w) ((parseW w).alloc (.cells #[.string s, .int .i64 0, .slice none 0 0] 87)) := (Below.refl _ _).alloc (Nat.le_refl _) _
theorem parseW_below (w : World) : Below w.heap.size w (parseW w) := (((Below.refl _ _).alloc (Nat.le_refl _) _).alloc (by simp) _).alloc (by simp; omega) _
theorem parse_below0 {w w1 : World} (h : Below (parseW w).heap.size (parseW w) w1) : Below w.heap.size w w1 := (parseW_below w).trans (h.mono (by rw [parseW_size]; omega))
theorem parse_cells {w w1 : World} (h : Below (parseW w).heap.size (parseW w) w1) : w1.heap[w.heap.size]? = some (.cells #[.slice none 0 0] 23 (0, 0)) ∧ w1.heap[w.heap.size + 1]? = some (.cells #[.int .i64 0] 3 (0, 0)) ∧ w1.heap[w.heap.size + 2]? = some (.cells #[.int .i64 0] 27 (0, 0)) := by
  have hs := parseW_size w
  refine ⟨?_, ?_, ?_⟩
  · rw [h.block _ (by omega)]
    exact (Lib.alloc_old _ _ _ (by simp; omega)).trans ((Lib.alloc_old _ _ _ (by simp)).trans (heap_alloc_new w _))
  · rw [h.block _ (by omega)]
    have h1 := heap_alloc_new (w.alloc (.cells #[.slice none 0 0] 23)) (.cells #[.int .i64 0] 3)
    rw [show (w.alloc (.cells #[.slice none 0 0] 23)).heap.size = w.heap.size + 1 from by simp] at h1
    exact (Lib.alloc_old _ _ _ (by simp)).trans h1
  · rw [h.block _ (by omega)]
    have h1 := heap_alloc_new ((w.alloc (.cells #[.slice none 0 0] 23)).alloc (.cells #[.int .i64 0] 3)) (.cells #[.int .i64 0] 27)
    rw [show ((w.alloc (.cells #[.slice none 0 0] 23)).alloc (.cells #[.int .i64 0] 3)).heap.size = w.heap.size + 2 from by simp] at h1
    exact h1
theorem parse_results {w'' : World} (w : World) (a0 : ByteArray) {v : Value} {x y : Int} (g0 : w''.cell? ⟨w.heap.size, 0, none⟩ = some v) (g1 : w''.cell? ⟨w.heap.size + 1, 0, none⟩ = some (.int .i64 x)) (g2 : w''.cell? ⟨w.heap.size + 1 + 1, 0, none⟩ = some (.int .i64 y)) (tmps : Array Value)
    (h2 : tmps[2]? = some (.pointer (some ⟨w.heap.size, 0, none⟩))) (h3 : tmps[3]? = some (.pointer (some ⟨w.heap.size + 1, 0, none⟩))) (h4 : tmps[4]? = some (.pointer (some ⟨w.heap.size + 1 + 1, 0, none⟩))) :
    (results Tryd.f40 tmps).run Tryd.prog w'' = .ok (.tuple #[v, .int .i64 x, .int .i64 y]) w'' := by
  simp [results, Tryd.results17, go_sem, h2, h3, h4, g0, g1, g2]

theorem Kd.R_set3 {w : World} {base b0 : Nat} {v : Value} {xs : List S33} {x0 x1 x2 : Array Value} (h : Kd.R k33 33 w base (fun _ => True) v xs) (h0 : w.heap[b0]? = some (.cells x0 23 (0, 0))) (h1 : w.heap[b0 + 1]? = some (.cells x1 3 (0, 0))) (h2 : w.heap[b0 + 2]? = some (.cells x2 27 (0, 0))) (y0 y1 y2 : Value) :
    Kd.R k33 33 (((w.setCell ⟨b0, 0, none⟩ y0).setCell ⟨b0 + 1, 0, none⟩ y1).setCell ⟨b0 + 1 + 1, 0, none⟩ y2) base (fun _ => True) v xs := by
  have e28' : ∀ t, t ≠ 33 → ∀ q, q ∈ 33 :: k33.E → q ≠ t := by
    intro t ht q hq
    have h28 : q = 33 := by simpa [k33, Kd.iso, Kd.pair, Kd.string, Kd.int, Kd.scalar] using hq
    subst h28
    exact fun e => ht e.symm
  have a1 := Kd.R_set h h0 (e28' 23 (by decide)) 0 y0
  have a2 := Kd.R_set a1 (blk_far h1 (p := ⟨b0, 0, none⟩) (by simp) y0) (e28' 3 (by decide)) 0 y1
  exact Kd.R_set a2 (blk_far (blk_far h2 (p := ⟨b0, 0, none⟩) (by simp) y0) (p := ⟨b0 + 1, 0, none⟩) (by simp) y1) (e28' 27 (by decide)) 0 y2

theorem rdt.mono_l : ∀ k, (∀ s a out, LeO (rdt.f k s a out) (rdt.f (k + 1) s a out)) ∧ (∀ s a out cell n, LeO (rdt.l k s a out cell n) (rdt.l (k + 1) s a out cell n))
  | 0 => ⟨fun _ _ _ r h => by simp [rdt.f] at h, fun _ _ _ _ _ r h => by simp [rdt.l] at h⟩
  | k + 1 => by
    obtain ⟨ih0, ih1⟩ := rdt.mono_l k
    constructor
    · intro s a out
      unfold rdt.f
      refine LeO.ite (LeO.bind (scan_mono _ _ _) (fun b => LeO.bind (name_Kind.mono _ _) (fun kd => LeO.ite (LeO.refl _) (LeO.ite (LeO.refl _) (LeO.ite (LeO.refl _) (LeO.ite (LeO.ite (LeO.ite (LeO.refl _) (ih1 _ _ _ _ _)) (LeO.refl _)) (LeO.refl _))))))) (LeO.refl _)
    · intro s a out cell n
      unfold rdt.l
      refine LeO.bind (ih0 _ _ _) (fun r => ?_)
      cases r with
      | bad x y => exact LeO.refl _
      | ok x y => exact LeO.ite (LeO.ite (LeO.ite (LeO.refl _) (LeO.ite (LeO.ite (LeO.refl _) (ih1 _ _ _ _ _)) (LeO.refl _))) (LeO.refl _)) (LeO.refl _)
theorem term_Parse.mono : ∀ a0 k, LeO (term_Parse.f k a0) (term_Parse.f (k + 1) a0) := by
  intro a0 k
  unfold term_Parse.f
  refine LeO.ite (LeO.refl _) (LeO.bind ((rdt.mono_l k).1 _ _ _) (fun r => ?_))
  cases r <;> exact LeO.refl _

set_option maxHeartbeats 1000000 in
set_option maxRecDepth 100000 in
theorem term_Parse.calls (k : Nat) (a0 : ByteArray) (r1 : List S33) (r2 r3 : Int) (w : World) (h : term_Parse.f k a0 = some (r1, r2, r3)) :
    Calls Tryd.prog 40 #[.string a0] w fun e w' => ∃ v0_ : Value, e = .returned (.tuple #[v0_, .int .i64 r2, .int .i64 r3]) ∧ Kd.R k33 33 w' w.heap.size (fun _ => True) v0_ r1 ∧ Below w.heap.size w w' := by
  have hmf : ∀ (fn : Fn) (first cap : Array Value) (w : World), (Instr.makeFunc fn first cap).run Tryd.prog w = .ok (.func fn first cap) w := fun _ _ _ _ => rfl
  unfold term_Parse.f at h
  by_cases c1 : (a0.size : Int) > 1024
  · rw [if_pos c1] at h
    have c1b : decide (1024 < (a0.size : Int)) = true := decide_eq_true c1
    have c1c : decide (1024 < a0.size) = true := decide_eq_true (by omega)
    clear c1
    have h' := Option.some.inj h
    simp only [Prod.mk.injEq] at h'
    obtain ⟨rfl, rfl, rfl⟩ := h'
    clear h
    go_enter_defers Tryd.func40, Tryd.ntmps40
    go_wp2
    refine ⟨_, parse_results w a0 (v := .slice none 0 0) (x := 0) (y := 2) ?_ ?_ ?_ _ rfl rfl rfl, _, rfl, Kd.R_nil _ _ _ _ _, (((Below.refl _ _).alloc (Nat.le_refl _) _).alloc (by simp) _).alloc (by simp; omega) _⟩
    · simp [go_sem]
    · simp [go_sem]
    · simp [go_sem]
  · rw [if_neg c1] at h
    have c1b : decide (1024 < (a0.size : Int)) = false := decide_eq_false c1
    have c1c : decide (1024 < a0.size) = false := decide_eq_false (by omega)
    have hs : a0.size ≤ 4611686018427387904 := by omega
    clear c1
    obtain ⟨r, hr, h⟩ := Option.bind_eq_some_iff.1 h
    have HX := Aside0.mk hr
    have HS := Aside0.mk hs
    clear hs
    cases r with
    | bad x y =>
      have h' := Option.some.inj h
      simp only [Prod.mk.injEq] at h'
      obtain ⟨rfl, rfl, rfl⟩ := h'
      clear h hr
      go_enter_defers Tryd.func40, Tryd.ntmps40
      go_wp2_with (go_at_call 63; refine (rdt.calls k a0 0 [] _ _ _ (parseW w) _ HS.out (parse_g w a0) (parse_g_ge w) (Kd.R_nil _ _ _ _ _) (parse_below w a0) HX.out).mono ?_; rintro e w1 ⟨rfl, hB1⟩; have HB1 := Aside0.mk hB1; clear hB1)
      obtain ⟨k0, k1, k2⟩ := parse_cells HB1.out
      refine leaves_cons (f := 62) (args := #[.pointer (some ⟨w.heap.size, 0, none⟩), .pointer (some ⟨w.heap.size + 1, 0, none⟩), .pointer (some ⟨w.heap.size + 1 + 1, 0, none⟩)]) (by simp) (by simp [go_sem]) ?_
      refine (catch_fault _ _ w.heap.size _ k0 k1 k2 []).mono ?_
      rintro e u' w'' ⟨rfl, rfl, hBw, j0, j1, j2⟩
      have g0 : w''.cell? ⟨w.heap.size, 0, none⟩ = _ := (blk_cell j0 0).trans rfl
      have g1 : w''.cell? ⟨w.heap.size + 1, 0, none⟩ = _ := (blk_cell j1 0).trans rfl
      have g2 : w''.cell? ⟨w.heap.size + 1 + 1, 0, none⟩ = _ := (blk_cell j2 0).trans rfl
      have hres := parse_results w a0 g0 g1 g2
      exact ⟨_, hres _ rfl rfl rfl, _, rfl, Kd.R_nil _ _ _ _ _, (parse_below0 HB1.out).trans hBw⟩
    | ok x y =>
      simp only at h
      by_cases c2 : x < (a0.size : Int)
      · rw [if_pos c2] at h
        have c2b : decide (x < (a0.size : Int)) = true := decide_eq_true c2
        have h' := Option.some.inj h
        simp only [Prod.mk.injEq] at h'
        obtain ⟨rfl, rfl, rfl⟩ := h'
        clear h hr c2
        go_enter_defers Tryd.func40, Tryd.ntmps40
        go_wp2_with (first | (go_at_call 63; refine (rdt.calls k a0 0 [] _ _ _ (parseW w) _ HS.out (parse_g w a0) (parse_g_ge w) (Kd.R_nil _ _ _ _ _) (parse_below w a0) HX.out).mono ?_; rintro e w1 ⟨⟨rfl, v1, hb1, _, hr1⟩, hB1⟩; obtain ⟨A1, c1, rfl⟩ := Kd.R_slice hr1; have hcA : w1.cell? ⟨w.heap.size + 1 + 1 + 1, 1, none⟩ = _ := (blk_cell hb1 1).trans rfl; have hcB : w1.cell? ⟨w.heap.size + 1 + 1 + 1, 2, none⟩ = _ := (blk_cell hb1 2).trans rfl; have HB1 := Aside0.mk hB1; have HK1 := Aside0.mk hb1; have HR1 := Aside0.mk hr1; clear hb1 hr1 hB1) | (go_at_call 64; refine (give_any _ _ _ _).mono ?_; rintro e w3 ⟨rfl, rfl⟩))
        obtain ⟨k0, k1, k2⟩ := parse_cells HB1.out
        refine leaves_cons (f := 62) (args := #[.pointer (some ⟨w.heap.size, 0, none⟩), .pointer (some ⟨w.heap.size + 1, 0, none⟩), .pointer (some ⟨w.heap.size + 1 + 1, 0, none⟩)]) (by simp) (by simp [go_sem]) ?_
        refine (catch_fault _ _ w.heap.size _ k0 k1 k2 []).mono ?_
        rintro e u' w'' ⟨rfl, rfl, hBw, j0, j1, j2⟩
        have g0 : w''.cell? ⟨w.heap.size, 0, none⟩ = _ := (blk_cell j0 0).trans rfl
        have g1 : w''.cell? ⟨w.heap.size + 1, 0, none⟩ = _ := (blk_cell j1 0).trans rfl
        have g2 : w''.cell? ⟨w.heap.size + 1 + 1, 0, none⟩ = _ := (blk_cell j2 0).trans rfl
        have hres := parse_results w a0 g0 g1 g2
        exact ⟨_, hres _ rfl rfl rfl, _, rfl, Kd.R_nil _ _ _ _ _, (parse_below0 HB1.out).trans hBw⟩
      · rw [if_neg c2] at h
        have c2b : decide (x < (a0.size : Int)) = false := decide_eq_false c2
        obtain ⟨t, ht, h⟩ := Option.bind_eq_some_iff.1 h
        have h' := Option.some.inj h
        simp only [Prod.mk.injEq] at h'
        obtain ⟨rfl, rfl, rfl⟩ := h'
        have HT := Aside0.mk ht
        clear h hr c2 ht
        go_enter_defers Tryd.func40, Tryd.ntmps40
        go_wp2_with (first | (go_at_call 63; refine (rdt.calls k a0 0 [] _ _ _ (parseW w) _ HS.out (parse_g w a0) (parse_g_ge w) (Kd.R_nil _ _ _ _ _) (parse_below w a0) HX.out).mono ?_; rintro e w1 ⟨⟨rfl, v1, hb1, _, hr1⟩, hB1⟩; obtain ⟨A1, c1, rfl⟩ := Kd.R_slice hr1; have hcA : w1.cell? ⟨w.heap.size + 1 + 1 + 1, 1, none⟩ = _ := (blk_cell hb1 1).trans rfl; have hcB : w1.cell? ⟨w.heap.size + 1 + 1 + 1, 2, none⟩ = _ := (blk_cell hb1 2).trans rfl; have HB1 := Aside0.mk hB1; have HK1 := Aside0.mk hb1; have HR1 := Aside0.mk hr1; clear hb1 hr1 hB1) | (go_at_call 46; refine (clone_Term.calls A1 c1 y _ _ (Kd.R_reads' HR1.out).2.2 (Kd.R_reads' HR1.out).2.1 HT.out).mono ?_; rintro e w2 ⟨v2, rfl, hr2, hB2⟩; obtain ⟨A2, n2, c2, rfl⟩ := slice_any hr2; obtain ⟨k0, k1, k2⟩ := parse_cells (HB1.out.trans (hB2.mono HB1.out.size)); have g0 : w2.cell? ⟨w.heap.size, 0, none⟩ = _ := (blk_cell k0 0).trans rfl; have g1 : w2.cell? ⟨w.heap.size + 1, 0, none⟩ = _ := (blk_cell k1 0).trans rfl; have g2 : w2.cell? ⟨w.heap.size + 1 + 1, 0, none⟩ = _ := (blk_cell k2 0).trans rfl; have f0 : w2.frozen? ⟨w.heap.size, 0, none⟩ = false := blk_frozen k0 0; have f1 : w2.frozen? ⟨w.heap.size + 1, 0, none⟩ = false := blk_frozen k1 0; have f2 : w2.frozen? ⟨w.heap.size + 1 + 1, 0, none⟩ = false := blk_frozen k2 0; have HB2 := Aside0.mk hB2; have HR2 := Aside0.mk hr2; have HK0 := Aside0.mk k0; have HK1 := Aside0.mk k1; have HK2 := Aside0.mk k2; clear hB2 hr2 k0 k1 k2))
        have n0 : (((w2.setCell ⟨w.heap.size, 0, none⟩ (.slice A2 n2 c2)).setCell ⟨w.heap.size + 1, 0, none⟩ (.int .i64 0)).setCell ⟨w.heap.size + 1 + 1, 0, none⟩ (.int .i64 0)).heap[w.heap.size]? = some (.cells #[.slice A2 n2 c2] 23 (0, 0)) := blk_far (blk_far (by simpa using blk_set HK0.out 0 (.slice A2 n2 c2)) (p := ⟨w.heap.size + 1, 0, none⟩) (by simp) _) (p := ⟨w.heap.size + 1 + 1, 0, none⟩) (by simp; omega) _
        have n1 : (((w2.setCell ⟨w.heap.size, 0, none⟩ (.slice A2 n2 c2)).setCell ⟨w.heap.size + 1, 0, none⟩ (.int .i64 0)).setCell ⟨w.heap.size + 1 + 1, 0, none⟩ (.int .i64 0)).heap[w.heap.size + 1]? = some (.cells #[.int .i64 0] 3 (0, 0)) := blk_far (by simpa using blk_set (blk_far HK1.out (p := ⟨w.heap.size, 0, none⟩) (by simp) (.slice A2 n2 c2)) 0 (.int .i64 0)) (p := ⟨w.heap.size + 1 + 1, 0, none⟩) (by simp) _
        have n2' : (((w2.setCell ⟨w.heap.size, 0, none⟩ (.slice A2 n2 c2)).setCell ⟨w.heap.size + 1, 0, none⟩ (.int .i64 0)).setCell ⟨w.heap.size + 1 + 1, 0, none⟩ (.int .i64 0)).heap[w.heap.size + 1 + 1]? = some (.cells #[.int .i64 0] 27 (0, 0)) := by simpa using blk_set (blk_far (blk_far HK2.out (p := ⟨w.heap.size, 0, none⟩) (by simp) (.slice A2 n2 c2)) (p := ⟨w.heap.size + 1, 0, none⟩) (by simp) (.int .i64 0)) 0 (.int .i64 0)
        have hR3 := Kd.R_mono (ok' := fun _ => True) (Kd.R_set3 HR2.out HK0.out HK1.out HK2.out (.slice A2 n2 c2) (.int .i64 0) (.int .i64 0)) (fun _ _ => trivial)
        have hB3 : Below w.heap.size w (((w2.setCell ⟨w.heap.size, 0, none⟩ (.slice A2 n2 c2)).setCell ⟨w.heap.size + 1, 0, none⟩ (.int .i64 0)).setCell ⟨w.heap.size + 1 + 1, 0, none⟩ (.int .i64 0)) := ((((parse_below0 HB1.out).trans (HB2.out.mono (by have := HB1.out.size; rw [parseW_size] at this; omega))).setCell (p := ⟨w.heap.size, 0, none⟩) (Nat.le_refl _) _).setCell (p := ⟨w.heap.size + 1, 0, none⟩) (Nat.le_succ _) _).setCell (p := ⟨w.heap.size + 1 + 1, 0, none⟩) (by simp; omega) _
        refine leaves_cons (f := 62) (args := #[.pointer (some ⟨w.heap.size, 0, none⟩), .pointer (some ⟨w.heap.size + 1, 0, none⟩), .pointer (some ⟨w.heap.size + 1 + 1, 0, none⟩)]) (by simp) (by simp [go_sem]) ?_
        refine (catch_idle _ _ _ _).mono ?_
        rintro e u' w'' ⟨rfl, rfl, rfl⟩
        have hres := parse_results w a0 ((blk_cell n0 0).trans rfl) ((blk_cell n1 0).trans rfl) ((blk_cell n2' 0).trans rfl)
        exact ⟨_, hres _ rfl rfl rfl, _, rfl, Kd.R_lower hR3 (by have := HB1.out.size; rw [parseW_size] at this; omega), hB3⟩

end Go.Proofs.YtnkpcnnbeaomnaaDoor.C
end
