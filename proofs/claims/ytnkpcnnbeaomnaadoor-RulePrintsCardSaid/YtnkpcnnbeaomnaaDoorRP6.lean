import Derived.Test.YtnkpcnnbeaomnaaDoorRP2

section
/- The reader's two small methods, next and word, over a reader at block g whose third cell is any value: what they answer, and that they leave that value alone. Made by a program of this session out of its own print (the third field told as the bare value). -/
namespace Go.Proofs.YtnkpcnnbeaomnaaDoor.C.RW
open Go.RowKit Go.Proofs.YtnkpcnnbeaomnaaDoorW.PrintWords Go.Proofs.YtnkpcnnbeaomnaaDoorW.PrintLast Go.Proofs.YtnkpcnnbeaomnaaDoorW.PrintMore
attribute [local go_sem] max2_int min2_int max_two min_two max_three min_three max_four min_four   -- for this text's walks alone
set_option linter.unusedVariables false
set_option linter.unusedSimpArgs false


/-- A state of type 87 at block g of W; what its slices lead to came in by w0. -/
def IsS87 (w0 W : World) (g : Nat) (f0 : ByteArray) (f1 : Int) (f2 : Value) : Prop := ∃ (A2 : Unit) (c2 : Unit), W.heap[g]? = some (.cells #[.string f0, .int .i64 f1, f2] 87 (0, 0)) ∧ w0.heap.size ≤ g ∧ True
theorem IsS87.grown {w0 W : World} {g : Nat} {f0 : ByteArray} {f1 : Int} {f2 : Value} {W1 : World} {row : Option Nat} (h : IsS87 w0 W g f0 f1 f2) (hw : W.grownBy W1 row) (hne : some g ≠ row) : IsS87 w0 W1 g f0 f1 f2 := by
  obtain ⟨A2, c2, hb, hg, hr2⟩ := h
  exact ⟨A2, c2, blk_grown hb hw hne, hg, hr2⟩
theorem IsS87.kept {w0 W : World} {g : Nat} {f0 : ByteArray} {f1 : Int} {f2 : Value} {W1 : World} {S : Nat → Prop} (h : IsS87 w0 W g f0 f1 f2) (hk : Kept W W1 S) (hne : ¬ S g) : IsS87 w0 W1 g f0 f1 f2 := by
  obtain ⟨A2, c2, hb, hg, hr2⟩ := h
  exact ⟨A2, c2, blk_kept hb hk hne, hg, hr2⟩
theorem IsS87.below {w0 W : World} {g : Nat} {f0 : ByteArray} {f1 : Int} {f2 : Value} {W1 : World} (h : IsS87 w0 W g f0 f1 f2) (hw : Below W.heap.size W W1) : IsS87 w0 W1 g f0 f1 f2 := h.grown (grown_of_below hw none) (by simp)
theorem IsS87.alloc {w0 W : World} {g : Nat} {f0 : ByteArray} {f1 : Int} {f2 : Value} (h : IsS87 w0 W g f0 f1 f2) (o : Obj) : IsS87 w0 (W.alloc o) g f0 f1 f2 := h.below (below_alloc (Below.refl _ _) o)
theorem IsS87.drewN {w0 W : World} {g : Nat} {f0 : ByteArray} {f1 : Int} {f2 : Value} (h : IsS87 w0 W g f0 f1 f2) (m : Nat) : IsS87 w0 (W.drewN m) g f0 f1 f2 := h
theorem IsS87.drew {w0 W : World} {g : Nat} {f0 : ByteArray} {f1 : Int} {f2 : Value} (h : IsS87 w0 W g f0 f1 f2) : IsS87 w0 W.drew g f0 f1 f2 := h
theorem IsS87.at_ {w0 W : World} {g : Nat} {f0 : ByteArray} {f1 : Int} {f2 : Value} {w' : World} {m : Nat} (hq : W.drewN m = w') (h : IsS87 w0 W g f0 f1 f2) : IsS87 w0 w' g f0 f1 f2 := by subst hq; exact IsS87.drewN h m
theorem IsS87.apart {w0 W : World} {g : Nat} {f0 : ByteArray} {f1 : Int} {f2 : Value} {α : Type} {d : Kd α} {e : Nat} {base : Nat} {ok : Nat → Prop} {v : Value} {xs : List α} (h : IsS87 w0 W g f0 f1 f2) (ho : d.R e W base ok v xs) (ht : ∀ q, q ∈ e :: d.E → q ≠ 87) : d.R e W base (fun k => ok k ∧ k ≠ g) v xs := by
  obtain ⟨A2, c2, hb, hg, hr2⟩ := h
  exact Kd.R_types ho hb ht
theorem IsS87.lt {w0 W : World} {g : Nat} {f0 : ByteArray} {f1 : Int} {f2 : Value} (h : IsS87 w0 W g f0 f1 f2) : g < W.heap.size := by
  obtain ⟨A2, c2, hb, hg, hr2⟩ := h
  exact blk_lt hb
theorem IsS87.ge {w0 W : World} {g : Nat} {f0 : ByteArray} {f1 : Int} {f2 : Value} (h : IsS87 w0 W g f0 f1 f2) : w0.heap.size ≤ g := by
  obtain ⟨A2, c2, hb, hg, hr2⟩ := h
  exact hg
theorem cellS81_0 {W : World} {g : Nat} {f0 : ByteArray} {f1 : Int} {f2 : Value} (h : W.heap[g]? = some (.cells #[.string f0, .int .i64 f1, f2] 87 (0, 0))) : W.cell? ⟨g, 0, none⟩ = some (.string f0) := (blk_cell h 0).trans rfl
theorem IsS87.set_0 {w0 W : World} {g : Nat} {f0 : ByteArray} {f1 : Int} {f2 : Value} (h : IsS87 w0 W g f0 f1 f2) (x : ByteArray) : IsS87 w0 (W.setCell ⟨g, 0, none⟩ (.string x)) g x f1 f2 := by
  obtain ⟨A2, c2, hb, hg, hr2⟩ := h
  exact ⟨A2, c2, by simpa using blk_set hb 0 (.string x), hg, hr2⟩
theorem cellS81_1 {W : World} {g : Nat} {f0 : ByteArray} {f1 : Int} {f2 : Value} (h : W.heap[g]? = some (.cells #[.string f0, .int .i64 f1, f2] 87 (0, 0))) : W.cell? ⟨g, 1, none⟩ = some (.int .i64 f1) := (blk_cell h 1).trans rfl
theorem IsS87.set_1 {w0 W : World} {g : Nat} {f0 : ByteArray} {f1 : Int} {f2 : Value} (h : IsS87 w0 W g f0 f1 f2) (x : Int) : IsS87 w0 (W.setCell ⟨g, 1, none⟩ (.int .i64 x)) g f0 x f2 := by
  obtain ⟨A2, c2, hb, hg, hr2⟩ := h
  exact ⟨A2, c2, by simpa using blk_set hb 1 (.int .i64 x), hg, hr2⟩
theorem cellS81_2 {W : World} {g : Nat} {f0 : ByteArray} {f1 : Int} {f2 : Value} (h : W.heap[g]? = some (.cells #[.string f0, .int .i64 f1, f2] 87 (0, 0))) : W.cell? ⟨g, 2, none⟩ = some (f2) := (blk_cell h 2).trans rfl

/-! ### term_reader_next: function 56 -/
def term_reader_next.f (s0_0 : ByteArray) (s0_1 : Int) (s0_2 : Value) : Option (Int × ByteArray × Int) := if s0_1 < (s0_0.size : Int) then (if 0 ≤ s0_1 then (some (bt s0_0 s0_1, s0_0, s0_1)) else (none)) else (some (0, s0_0, s0_1))
set_option maxHeartbeats 8000000 in
set_option maxRecDepth 100000 in
theorem term_reader_next.calls (g : Nat) (s0_0 : ByteArray) (s0_1 : Int) (s0_2 : Value) (r1 : Int) (r2 : ByteArray) (r3 : Int) (w0 w : World) (hI : IsS87 w0 w g s0_0 s0_1 s0_2) (hB : Below w0.heap.size w0 w) (h : term_reader_next.f s0_0 s0_1 s0_2 = some (r1, r2, r3)) :
    Calls Tryd.prog 77 #[.pointer (some ⟨g, 0, none⟩)] w fun e w' => e = .returned (.int .u8 r1) ∧ IsS87 w0 w' g r2 r3 s0_2 ∧ Below w0.heap.size w0 w' ∧ KeepBut w w' g none := by
  have HI0 := Aside0.mk hI
  have HK := Aside0.mk (KeepBut.refl w g none)
  have HL := Aside0.mk hB.size
  clear hI
  have HW0 := Aside0.mk hB.size
  have HB := Aside0.mk hB
  clear hB
  have H : (if s0_1 < (s0_0.size : Int) then (if 0 ≤ s0_1 then (some (bt s0_0 s0_1, s0_0, s0_1)) else (none)) else (some (0, s0_0, s0_1))) = some (r1, r2, r3) := h
  clear h
  by_cases c2 : s0_1 < (s0_0.size : Int)
  · rw [if_pos c2] at H
    have c2b0 : decide (s0_1 < (s0_0.size : Int)) = true := decide_eq_true c2
    clear c2
    by_cases c3 : 0 ≤ s0_1
    · rw [if_pos c3] at H
      have c3b0 : decide (0 ≤ s0_1) = true := decide_eq_true c3
      clear c3
      simp only [Option.some.injEq, Prod.mk.injEq] at H
      obtain ⟨rfl, rfl, rfl⟩ := H
      obtain ⟨ASz5_2, cSz5_2, HGz5, hgz5, HSz5_2⟩ := HI0.out
      have hcz5_0 := cellS81_0 HGz5
      have hcz5_1 := cellS81_1 HGz5
      have hcz5_2 := cellS81_2 HGz5
      have hfz5_0 := blk_frozen HGz5 0
      have hfz5_1 := blk_frozen HGz5 1
      clear HGz5 hgz5
      have p4 : 0 ≤ (s0_1 : Int) := of_decide_eq_true (by first | (with_reducible assumption) | assumption)
      have q4 : s0_1 < (s0_0.size : Int) := of_decide_eq_true (by first | (with_reducible assumption) | assumption)
      have hx4 := bt_at s0_0 s0_1
      replace p4 := eq_true p4
      replace q4 := eq_true q4
      go_enter Tryd.func77, Tryd.ntmps77
      go_wp2
      repeat (go_quiet (fail); try go_wp2)
      go_ret
      exact ⟨by first | rfl | (simp [errW_none, errW_some] <;> rfl) | (simp [*, errW_none, errW_some] <;> rfl), by repeat (first | (with_reducible first | exact HI0.out | apply IsS87.alloc | apply IsS87.drewN | apply IsS87.drew | apply IsS87.set_0 | apply IsS87.set_1) | exact HI0.out), by repeat (first | (with_reducible first | exact HB.out | apply below_alloc | apply pw_below_drewN | apply below_drew1 | refine below_set ?_ (IsS87.ge HI0.out)) | exact HB.out), by repeat (first | (with_reducible first | exact HK.out | apply KeepBut.set_ | apply keep_drewN | apply keep_drew | apply keep_alloc) | exact HK.out)⟩
    · rw [if_neg c3] at H
      exact absurd H (by simp)
  · rw [if_neg c2] at H
    have c2b0 : decide (s0_1 < (s0_0.size : Int)) = false := decide_eq_false c2
    clear c2
    simp only [Option.some.injEq, Prod.mk.injEq] at H
    obtain ⟨rfl, rfl, rfl⟩ := H
    obtain ⟨ASz6_2, cSz6_2, HGz6, hgz6, HSz6_2⟩ := HI0.out
    have hcz6_0 := cellS81_0 HGz6
    have hcz6_1 := cellS81_1 HGz6
    have hcz6_2 := cellS81_2 HGz6
    have hfz6_0 := blk_frozen HGz6 0
    have hfz6_1 := blk_frozen HGz6 1
    clear HGz6 hgz6
    go_enter Tryd.func77, Tryd.ntmps77
    go_wp2
    repeat (go_quiet (fail); try go_wp2)
    go_ret
    exact ⟨by first | rfl | (simp [errW_none, errW_some] <;> rfl) | (simp [*, errW_none, errW_some] <;> rfl), by repeat (first | (with_reducible first | exact HI0.out | apply IsS87.alloc | apply IsS87.drewN | apply IsS87.drew | apply IsS87.set_0 | apply IsS87.set_1) | exact HI0.out), by repeat (first | (with_reducible first | exact HB.out | apply below_alloc | apply pw_below_drewN | apply below_drew1 | refine below_set ?_ (IsS87.ge HI0.out)) | exact HB.out), by repeat (first | (with_reducible first | exact HK.out | apply KeepBut.set_ | apply keep_drewN | apply keep_drew | apply keep_alloc) | exact HK.out)⟩



/-! ### term_reader_word: function 55 -/
def term_reader_word.l0 : Nat → Int → Int → ByteArray → Int → Value → Option (ByteArray × ByteArray × Int)
  | 0, _, _, _, _, _ => none
  | k + 1, x3, x4, x1000, x1001, x1002 => if x4 ≥ 97 then (if x4 ≤ 122 then ((term_reader_next.f x1000 (wrap64 (x1001 + 1)) x1002).bind fun bt218 => (term_reader_word.l0 k x3 bt218.1 bt218.2.1 bt218.2.2 x1002)) else (if x4 ≥ 65 then (if x4 ≤ 90 then ((term_reader_next.f x1000 (wrap64 (x1001 + 1)) x1002).bind fun bt221 => (term_reader_word.l0 k x3 bt221.1 bt221.2.1 bt221.2.2 x1002)) else (if x4 ≥ 48 then (if x4 ≤ 57 then ((term_reader_next.f x1000 (wrap64 (x1001 + 1)) x1002).bind fun bt224 => (term_reader_word.l0 k x3 bt224.1 bt224.2.1 bt224.2.2 x1002)) else (if 0 ≤ x3 then (if x3 ≤ x1001 then (if x1001 ≤ (x1000.size : Int) then (some (x1000.extract (x3 : Int).toNat (x1001 : Int).toNat, x1000, x1001)) else (none)) else (none)) else (none))) else (if 0 ≤ x3 then (if x3 ≤ x1001 then (if x1001 ≤ (x1000.size : Int) then (some (x1000.extract (x3 : Int).toNat (x1001 : Int).toNat, x1000, x1001)) else (none)) else (none)) else (none)))) else (if x4 ≥ 48 then (if x4 ≤ 57 then ((term_reader_next.f x1000 (wrap64 (x1001 + 1)) x1002).bind fun bt227 => (term_reader_word.l0 k x3 bt227.1 bt227.2.1 bt227.2.2 x1002)) else (if 0 ≤ x3 then (if x3 ≤ x1001 then (if x1001 ≤ (x1000.size : Int) then (some (x1000.extract (x3 : Int).toNat (x1001 : Int).toNat, x1000, x1001)) else (none)) else (none)) else (none))) else (if 0 ≤ x3 then (if x3 ≤ x1001 then (if x1001 ≤ (x1000.size : Int) then (some (x1000.extract (x3 : Int).toNat (x1001 : Int).toNat, x1000, x1001)) else (none)) else (none)) else (none))))) else (if x4 ≥ 65 then (if x4 ≤ 90 then ((term_reader_next.f x1000 (wrap64 (x1001 + 1)) x1002).bind fun bt230 => (term_reader_word.l0 k x3 bt230.1 bt230.2.1 bt230.2.2 x1002)) else (if x4 ≥ 48 then (if x4 ≤ 57 then ((term_reader_next.f x1000 (wrap64 (x1001 + 1)) x1002).bind fun bt233 => (term_reader_word.l0 k x3 bt233.1 bt233.2.1 bt233.2.2 x1002)) else (if 0 ≤ x3 then (if x3 ≤ x1001 then (if x1001 ≤ (x1000.size : Int) then (some (x1000.extract (x3 : Int).toNat (x1001 : Int).toNat, x1000, x1001)) else (none)) else (none)) else (none))) else (if 0 ≤ x3 then (if x3 ≤ x1001 then (if x1001 ≤ (x1000.size : Int) then (some (x1000.extract (x3 : Int).toNat (x1001 : Int).toNat, x1000, x1001)) else (none)) else (none)) else (none)))) else (if x4 ≥ 48 then (if x4 ≤ 57 then ((term_reader_next.f x1000 (wrap64 (x1001 + 1)) x1002).bind fun bt236 => (term_reader_word.l0 k x3 bt236.1 bt236.2.1 bt236.2.2 x1002)) else (if 0 ≤ x3 then (if x3 ≤ x1001 then (if x1001 ≤ (x1000.size : Int) then (some (x1000.extract (x3 : Int).toNat (x1001 : Int).toNat, x1000, x1001)) else (none)) else (none)) else (none))) else (if 0 ≤ x3 then (if x3 ≤ x1001 then (if x1001 ≤ (x1000.size : Int) then (some (x1000.extract (x3 : Int).toNat (x1001 : Int).toNat, x1000, x1001)) else (none)) else (none)) else (none))))
def term_reader_word.f (k : Nat) (s0_0 : ByteArray) (s0_1 : Int) (s0_2 : Value) : Option (ByteArray × ByteArray × Int) := (term_reader_next.f s0_0 s0_1 s0_2).bind fun bt215 => (term_reader_word.l0 k s0_1 bt215.1 bt215.2.1 bt215.2.2 s0_2)
set_option maxHeartbeats 8000000 in
set_option maxRecDepth 100000 in
theorem term_reader_word.calls (k : Nat) (g : Nat) (s0_0 : ByteArray) (s0_1 : Int) (s0_2 : Value) (r1 : ByteArray) (r2 : ByteArray) (r3 : Int) (w0 w : World) (hI : IsS87 w0 w g s0_0 s0_1 s0_2) (hB : Below w0.heap.size w0 w) (h : term_reader_word.f k s0_0 s0_1 s0_2 = some (r1, r2, r3)) :
    Calls Tryd.prog 76 #[.pointer (some ⟨g, 0, none⟩)] w fun e w' => e = .returned (.string r1) ∧ IsS87 w0 w' g r2 r3 s0_2 ∧ Below w0.heap.size w0 w' ∧ KeepBut w w' g none := by
  have HI0 := Aside0.mk hI
  have HK := Aside0.mk (KeepBut.refl w g none)
  have HL := Aside0.mk hB.size
  clear hI
  have HW0 := Aside0.mk hB.size
  have HB := Aside0.mk hB
  clear hB
  have H : ((term_reader_next.f s0_0 s0_1 s0_2).bind fun bt215 => (term_reader_word.l0 k s0_1 bt215.1 bt215.2.1 bt215.2.2 s0_2)) = some (r1, r2, r3) := h
  clear h
  replace H := Option.bind_eq_some_iff.mp H
  obtain ⟨⟨t215, t216, t217⟩, A20, H⟩ := H
  replace H : (term_reader_word.l0 k s0_1 t215 t216 t217 s0_2) = some (r1, r2, r3) := H
  have A2 := Aside0.mk A20
  clear A20
  have H' := Aside0.mk H
  clear H
  obtain ⟨ASz3_2, cSz3_2, HGz3, hgz3, HSz3_2⟩ := HI0.out
  have hcz3_0 := cellS81_0 HGz3
  have hcz3_1 := cellS81_1 HGz3
  have hcz3_2 := cellS81_2 HGz3
  have hfz3_0 := blk_frozen HGz3 0
  have hfz3_1 := blk_frozen HGz3 1
  clear HGz3 hgz3
  go_enter Tryd.func76, Tryd.ntmps76
  go_wp2_with (first | (go_at_call 77; (with_reducible refine (term_reader_next.calls g s0_0 s0_1 s0_2 t215 t216 t217 w0 _ ?side1 ?side2 A2.out).mono ?_); (case side1 => repeat (first | (with_reducible first | exact HI0.out | apply IsS87.alloc | apply IsS87.drewN | apply IsS87.drew | apply IsS87.set_0 | apply IsS87.set_1) | exact HI0.out)); (case side2 => repeat (first | (with_reducible first | exact HB.out | apply below_alloc | apply pw_below_drewN | apply below_drew1 | refine below_set ?_ (IsS87.ge HI0.out)) | exact HB.out)); rintro e w4 ⟨rfl, hi, hb, hk⟩; have n0_ := Aside0.mk (KeepBut.trans (by repeat (first | (with_reducible first | exact HK.out | apply KeepBut.set_ | apply keep_drewN | apply keep_drew | apply keep_alloc) | exact HK.out)) hk (.inl rfl)); have n1_ := Aside0.mk (hb); have n2_ := Aside0.mk (hi); clear HK; clear HB; clear HI0; have HK := n0_; have HB := n1_; have HI0 := n2_; clear n0_ n1_ n2_; (try clear hb); (try clear hb2); (try clear hk); (try clear hi)))
  repeat (go_quiet (first | (go_at_call 77; (with_reducible refine (term_reader_next.calls g s0_0 s0_1 s0_2 t215 t216 t217 w0 _ ?side1 ?side2 A2.out).mono ?_); (case side1 => repeat (first | (with_reducible first | exact HI0.out | apply IsS87.alloc | apply IsS87.drewN | apply IsS87.drew | apply IsS87.set_0 | apply IsS87.set_1) | exact HI0.out)); (case side2 => repeat (first | (with_reducible first | exact HB.out | apply below_alloc | apply pw_below_drewN | apply below_drew1 | refine below_set ?_ (IsS87.ge HI0.out)) | exact HB.out)); rintro e w4 ⟨rfl, hi, hb, hk⟩; have n0_ := Aside0.mk (KeepBut.trans (by repeat (first | (with_reducible first | exact HK.out | apply KeepBut.set_ | apply keep_drewN | apply keep_drew | apply keep_alloc) | exact HK.out)) hk (.inl rfl)); have n1_ := Aside0.mk (hb); have n2_ := Aside0.mk (hi); clear HK; clear HB; clear HI0; have HK := n0_; have HB := n1_; have HI0 := n2_; clear n0_ n1_ n2_; (try clear hb); (try clear hb2); (try clear hk); (try clear hi))); try go_wp2_with (first | (go_at_call 77; (with_reducible refine (term_reader_next.calls g s0_0 s0_1 s0_2 t215 t216 t217 w0 _ ?side1 ?side2 A2.out).mono ?_); (case side1 => repeat (first | (with_reducible first | exact HI0.out | apply IsS87.alloc | apply IsS87.drewN | apply IsS87.drew | apply IsS87.set_0 | apply IsS87.set_1) | exact HI0.out)); (case side2 => repeat (first | (with_reducible first | exact HB.out | apply below_alloc | apply pw_below_drewN | apply below_drew1 | refine below_set ?_ (IsS87.ge HI0.out)) | exact HB.out)); rintro e w4 ⟨rfl, hi, hb, hk⟩; have n0_ := Aside0.mk (KeepBut.trans (by repeat (first | (with_reducible first | exact HK.out | apply KeepBut.set_ | apply keep_drewN | apply keep_drew | apply keep_alloc) | exact HK.out)) hk (.inl rfl)); have n1_ := Aside0.mk (hb); have n2_ := Aside0.mk (hi); clear HK; clear HB; clear HI0; have HK := n0_; have HB := n1_; have HI0 := n2_; clear n0_ n1_ n2_; (try clear hb); (try clear hb2); (try clear hk); (try clear hi))))
  go_loopg [4] k (fun kq v4 w' => ∃ (x4_1 : Int) (x1000_1 : ByteArray) (x1001_1 : Int), v4 = .int .u8 x4_1 ∧ Aside0 (term_reader_word.l0 kq s0_1 x4_1 x1000_1 x1001_1 s0_2 = some (r1, r2, r3)) ∧ Aside0 (kq ≤ k) ∧ Aside0 (IsS87 w0 w' g x1000_1 x1001_1 s0_2) ∧ Aside0 (KeepBut w w' g none) ∧ Aside0 (Below w0.heap.size w0 w'))
  case atStart => exact ⟨(t215), (t216), (t217), (by first | rfl | (simp; done) | (simp [*]; done)), H', ⟨Nat.le_refl _⟩, ⟨by repeat (first | (with_reducible first | exact HI0.out | apply IsS87.alloc | apply IsS87.drewN | apply IsS87.drew | apply IsS87.set_0 | apply IsS87.set_1) | exact HI0.out)⟩, ⟨by repeat (first | (with_reducible first | exact HK.out | apply KeepBut.set_ | apply keep_drewN | apply keep_drew | apply keep_alloc) | exact HK.out)⟩, ⟨by repeat (first | (with_reducible first | exact HB.out | apply below_alloc | apply pw_below_drewN | apply below_drew1 | refine below_set ?_ (IsS87.ge HI0.out)) | exact HB.out)⟩⟩
  case round =>
    clear H'
    try clear p2
    try clear hcz3_0
    try clear hcz3_1
    try clear hcz3_2
    try clear hfz3_0
    try clear hfz3_1
    obtain ⟨x4_1, x1000_1, x1001_1, rfl, HA, HK1, HI0, HK, HB⟩ := hrel
    cases gk with
    | zero => exact absurd HA.out (by simp [term_reader_word.l0])
    | succ k1 =>
      have H := HA.out
      clear HA
      simp only [term_reader_word.l0] at H
      by_cases c5 : x4_1 ≥ 97
      · rw [if_pos c5] at H
        have c5b0 : decide (97 ≤ x4_1) = true := decide_eq_true c5
        clear c5
        by_cases c6 : x4_1 ≤ 122
        · rw [if_pos c6] at H
          have c6b0 : decide (x4_1 ≤ 122) = true := decide_eq_true c6
          clear c6
          replace H := Option.bind_eq_some_iff.mp H
          obtain ⟨⟨t218, t219, t220⟩, A70, H⟩ := H
          replace H : (term_reader_word.l0 k1 s0_1 t218 t219 t220 s0_2) = some (r1, r2, r3) := H
          have A7 := Aside0.mk A70
          clear A70
          have H' := Aside0.mk H
          clear H
          obtain ⟨ASz8_2, cSz8_2, HGz8, hgz8, HSz8_2⟩ := HI0.out
          have hcz8_0 := cellS81_0 HGz8
          have hcz8_1 := cellS81_1 HGz8
          have hcz8_2 := cellS81_2 HGz8
          have hfz8_0 := blk_frozen HGz8 0
          have hfz8_1 := blk_frozen HGz8 1
          clear HGz8 hgz8
          go_wp2_with (first | (go_at_call 77; (with_reducible refine (term_reader_next.calls g x1000_1 (wrap64 (x1001_1 + 1)) s0_2 t218 t219 t220 w0 _ ?side1 ?side2 A7.out).mono ?_); (case side1 => repeat (first | (with_reducible first | exact HI0.out | apply IsS87.alloc | apply IsS87.drewN | apply IsS87.drew | apply IsS87.set_0 | apply IsS87.set_1) | exact HI0.out)); (case side2 => repeat (first | (with_reducible first | exact HB.out | apply below_alloc | apply pw_below_drewN | apply below_drew1 | refine below_set ?_ (IsS87.ge HI0.out)) | exact HB.out)); rintro e w9 ⟨rfl, hi, hb, hk⟩; have n0_ := Aside0.mk (KeepBut.trans (by repeat (first | (with_reducible first | exact HK.out | apply KeepBut.set_ | apply keep_drewN | apply keep_drew | apply keep_alloc) | exact HK.out)) hk (.inl rfl)); have n1_ := Aside0.mk (hb); have n2_ := Aside0.mk (hi); clear HK; clear HB; clear HI0; have HK := n0_; have HB := n1_; have HI0 := n2_; clear n0_ n1_ n2_; (try clear hb); (try clear hb2); (try clear hk); (try clear hi)))
          repeat (go_quiet (first | (go_at_call 77; (with_reducible refine (term_reader_next.calls g x1000_1 (wrap64 (x1001_1 + 1)) s0_2 t218 t219 t220 w0 _ ?side1 ?side2 A7.out).mono ?_); (case side1 => repeat (first | (with_reducible first | exact HI0.out | apply IsS87.alloc | apply IsS87.drewN | apply IsS87.drew | apply IsS87.set_0 | apply IsS87.set_1) | exact HI0.out)); (case side2 => repeat (first | (with_reducible first | exact HB.out | apply below_alloc | apply pw_below_drewN | apply below_drew1 | refine below_set ?_ (IsS87.ge HI0.out)) | exact HB.out)); rintro e w9 ⟨rfl, hi, hb, hk⟩; have n0_ := Aside0.mk (KeepBut.trans (by repeat (first | (with_reducible first | exact HK.out | apply KeepBut.set_ | apply keep_drewN | apply keep_drew | apply keep_alloc) | exact HK.out)) hk (.inl rfl)); have n1_ := Aside0.mk (hb); have n2_ := Aside0.mk (hi); clear HK; clear HB; clear HI0; have HK := n0_; have HB := n1_; have HI0 := n2_; clear n0_ n1_ n2_; (try clear hb); (try clear hb2); (try clear hk); (try clear hi))); try go_wp2_with (first | (go_at_call 77; (with_reducible refine (term_reader_next.calls g x1000_1 (wrap64 (x1001_1 + 1)) s0_2 t218 t219 t220 w0 _ ?side1 ?side2 A7.out).mono ?_); (case side1 => repeat (first | (with_reducible first | exact HI0.out | apply IsS87.alloc | apply IsS87.drewN | apply IsS87.drew | apply IsS87.set_0 | apply IsS87.set_1) | exact HI0.out)); (case side2 => repeat (first | (with_reducible first | exact HB.out | apply below_alloc | apply pw_below_drewN | apply below_drew1 | refine below_set ?_ (IsS87.ge HI0.out)) | exact HB.out)); rintro e w9 ⟨rfl, hi, hb, hk⟩; have n0_ := Aside0.mk (KeepBut.trans (by repeat (first | (with_reducible first | exact HK.out | apply KeepBut.set_ | apply keep_drewN | apply keep_drew | apply keep_alloc) | exact HK.out)) hk (.inl rfl)); have n1_ := Aside0.mk (hb); have n2_ := Aside0.mk (hi); clear HK; clear HB; clear HI0; have HK := n0_; have HB := n1_; have HI0 := n2_; clear n0_ n1_ n2_; (try clear hb); (try clear hb2); (try clear hk); (try clear hi))))
          go_roundg k1
          case measure => have := HK1.out; omega
          case rel => exact ⟨(t218), (t219), (t220), (by first | rfl | (simp; done) | (simp [*]; done)), H', ⟨by have := HK1.out; omega⟩, ⟨by repeat (first | (with_reducible first | exact HI0.out | apply IsS87.alloc | apply IsS87.drewN | apply IsS87.drew | apply IsS87.set_0 | apply IsS87.set_1) | exact HI0.out)⟩, ⟨by repeat (first | (with_reducible first | exact HK.out | apply KeepBut.set_ | apply keep_drewN | apply keep_drew | apply keep_alloc) | exact HK.out)⟩, ⟨by repeat (first | (with_reducible first | exact HB.out | apply below_alloc | apply pw_below_drewN | apply below_drew1 | refine below_set ?_ (IsS87.ge HI0.out)) | exact HB.out)⟩⟩
        · rw [if_neg c6] at H
          have c6b0 : decide (x4_1 ≤ 122) = false := decide_eq_false c6
          clear c6
          by_cases c10 : x4_1 ≥ 65
          · rw [if_pos c10] at H
            have c10b0 : decide (65 ≤ x4_1) = true := decide_eq_true c10
            clear c10
            by_cases c11 : x4_1 ≤ 90
            · rw [if_pos c11] at H
              have c11b0 : decide (x4_1 ≤ 90) = true := decide_eq_true c11
              clear c11
              replace H := Option.bind_eq_some_iff.mp H
              obtain ⟨⟨t221, t222, t223⟩, A120, H⟩ := H
              replace H : (term_reader_word.l0 k1 s0_1 t221 t222 t223 s0_2) = some (r1, r2, r3) := H
              have A12 := Aside0.mk A120
              clear A120
              have H' := Aside0.mk H
              clear H
              obtain ⟨ASz13_2, cSz13_2, HGz13, hgz13, HSz13_2⟩ := HI0.out
              have hcz13_0 := cellS81_0 HGz13
              have hcz13_1 := cellS81_1 HGz13
              have hcz13_2 := cellS81_2 HGz13
              have hfz13_0 := blk_frozen HGz13 0
              have hfz13_1 := blk_frozen HGz13 1
              clear HGz13 hgz13
              go_wp2_with (first | (go_at_call 77; (with_reducible refine (term_reader_next.calls g x1000_1 (wrap64 (x1001_1 + 1)) s0_2 t221 t222 t223 w0 _ ?side1 ?side2 A12.out).mono ?_); (case side1 => repeat (first | (with_reducible first | exact HI0.out | apply IsS87.alloc | apply IsS87.drewN | apply IsS87.drew | apply IsS87.set_0 | apply IsS87.set_1) | exact HI0.out)); (case side2 => repeat (first | (with_reducible first | exact HB.out | apply below_alloc | apply pw_below_drewN | apply below_drew1 | refine below_set ?_ (IsS87.ge HI0.out)) | exact HB.out)); rintro e w14 ⟨rfl, hi, hb, hk⟩; have n0_ := Aside0.mk (KeepBut.trans (by repeat (first | (with_reducible first | exact HK.out | apply KeepBut.set_ | apply keep_drewN | apply keep_drew | apply keep_alloc) | exact HK.out)) hk (.inl rfl)); have n1_ := Aside0.mk (hb); have n2_ := Aside0.mk (hi); clear HK; clear HB; clear HI0; have HK := n0_; have HB := n1_; have HI0 := n2_; clear n0_ n1_ n2_; (try clear hb); (try clear hb2); (try clear hk); (try clear hi)))
              repeat (go_quiet (first | (go_at_call 77; (with_reducible refine (term_reader_next.calls g x1000_1 (wrap64 (x1001_1 + 1)) s0_2 t221 t222 t223 w0 _ ?side1 ?side2 A12.out).mono ?_); (case side1 => repeat (first | (with_reducible first | exact HI0.out | apply IsS87.alloc | apply IsS87.drewN | apply IsS87.drew | apply IsS87.set_0 | apply IsS87.set_1) | exact HI0.out)); (case side2 => repeat (first | (with_reducible first | exact HB.out | apply below_alloc | apply pw_below_drewN | apply below_drew1 | refine below_set ?_ (IsS87.ge HI0.out)) | exact HB.out)); rintro e w14 ⟨rfl, hi, hb, hk⟩; have n0_ := Aside0.mk (KeepBut.trans (by repeat (first | (with_reducible first | exact HK.out | apply KeepBut.set_ | apply keep_drewN | apply keep_drew | apply keep_alloc) | exact HK.out)) hk (.inl rfl)); have n1_ := Aside0.mk (hb); have n2_ := Aside0.mk (hi); clear HK; clear HB; clear HI0; have HK := n0_; have HB := n1_; have HI0 := n2_; clear n0_ n1_ n2_; (try clear hb); (try clear hb2); (try clear hk); (try clear hi))); try go_wp2_with (first | (go_at_call 77; (with_reducible refine (term_reader_next.calls g x1000_1 (wrap64 (x1001_1 + 1)) s0_2 t221 t222 t223 w0 _ ?side1 ?side2 A12.out).mono ?_); (case side1 => repeat (first | (with_reducible first | exact HI0.out | apply IsS87.alloc | apply IsS87.drewN | apply IsS87.drew | apply IsS87.set_0 | apply IsS87.set_1) | exact HI0.out)); (case side2 => repeat (first | (with_reducible first | exact HB.out | apply below_alloc | apply pw_below_drewN | apply below_drew1 | refine below_set ?_ (IsS87.ge HI0.out)) | exact HB.out)); rintro e w14 ⟨rfl, hi, hb, hk⟩; have n0_ := Aside0.mk (KeepBut.trans (by repeat (first | (with_reducible first | exact HK.out | apply KeepBut.set_ | apply keep_drewN | apply keep_drew | apply keep_alloc) | exact HK.out)) hk (.inl rfl)); have n1_ := Aside0.mk (hb); have n2_ := Aside0.mk (hi); clear HK; clear HB; clear HI0; have HK := n0_; have HB := n1_; have HI0 := n2_; clear n0_ n1_ n2_; (try clear hb); (try clear hb2); (try clear hk); (try clear hi))))
              go_roundg k1
              case measure => have := HK1.out; omega
              case rel => exact ⟨(t221), (t222), (t223), (by first | rfl | (simp; done) | (simp [*]; done)), H', ⟨by have := HK1.out; omega⟩, ⟨by repeat (first | (with_reducible first | exact HI0.out | apply IsS87.alloc | apply IsS87.drewN | apply IsS87.drew | apply IsS87.set_0 | apply IsS87.set_1) | exact HI0.out)⟩, ⟨by repeat (first | (with_reducible first | exact HK.out | apply KeepBut.set_ | apply keep_drewN | apply keep_drew | apply keep_alloc) | exact HK.out)⟩, ⟨by repeat (first | (with_reducible first | exact HB.out | apply below_alloc | apply pw_below_drewN | apply below_drew1 | refine below_set ?_ (IsS87.ge HI0.out)) | exact HB.out)⟩⟩
            · rw [if_neg c11] at H
              have c11b0 : decide (x4_1 ≤ 90) = false := decide_eq_false c11
              clear c11
              by_cases c15 : x4_1 ≥ 48
              · rw [if_pos c15] at H
                have c15b0 : decide (48 ≤ x4_1) = true := decide_eq_true c15
                clear c15
                by_cases c16 : x4_1 ≤ 57
                · rw [if_pos c16] at H
                  have c16b0 : decide (x4_1 ≤ 57) = true := decide_eq_true c16
                  clear c16
                  replace H := Option.bind_eq_some_iff.mp H
                  obtain ⟨⟨t224, t225, t226⟩, A170, H⟩ := H
                  replace H : (term_reader_word.l0 k1 s0_1 t224 t225 t226 s0_2) = some (r1, r2, r3) := H
                  have A17 := Aside0.mk A170
                  clear A170
                  have H' := Aside0.mk H
                  clear H
                  obtain ⟨ASz18_2, cSz18_2, HGz18, hgz18, HSz18_2⟩ := HI0.out
                  have hcz18_0 := cellS81_0 HGz18
                  have hcz18_1 := cellS81_1 HGz18
                  have hcz18_2 := cellS81_2 HGz18
                  have hfz18_0 := blk_frozen HGz18 0
                  have hfz18_1 := blk_frozen HGz18 1
                  clear HGz18 hgz18
                  go_wp2_with (first | (go_at_call 77; (with_reducible refine (term_reader_next.calls g x1000_1 (wrap64 (x1001_1 + 1)) s0_2 t224 t225 t226 w0 _ ?side1 ?side2 A17.out).mono ?_); (case side1 => repeat (first | (with_reducible first | exact HI0.out | apply IsS87.alloc | apply IsS87.drewN | apply IsS87.drew | apply IsS87.set_0 | apply IsS87.set_1) | exact HI0.out)); (case side2 => repeat (first | (with_reducible first | exact HB.out | apply below_alloc | apply pw_below_drewN | apply below_drew1 | refine below_set ?_ (IsS87.ge HI0.out)) | exact HB.out)); rintro e w19 ⟨rfl, hi, hb, hk⟩; have n0_ := Aside0.mk (KeepBut.trans (by repeat (first | (with_reducible first | exact HK.out | apply KeepBut.set_ | apply keep_drewN | apply keep_drew | apply keep_alloc) | exact HK.out)) hk (.inl rfl)); have n1_ := Aside0.mk (hb); have n2_ := Aside0.mk (hi); clear HK; clear HB; clear HI0; have HK := n0_; have HB := n1_; have HI0 := n2_; clear n0_ n1_ n2_; (try clear hb); (try clear hb2); (try clear hk); (try clear hi)))
                  repeat (go_quiet (first | (go_at_call 77; (with_reducible refine (term_reader_next.calls g x1000_1 (wrap64 (x1001_1 + 1)) s0_2 t224 t225 t226 w0 _ ?side1 ?side2 A17.out).mono ?_); (case side1 => repeat (first | (with_reducible first | exact HI0.out | apply IsS87.alloc | apply IsS87.drewN | apply IsS87.drew | apply IsS87.set_0 | apply IsS87.set_1) | exact HI0.out)); (case side2 => repeat (first | (with_reducible first | exact HB.out | apply below_alloc | apply pw_below_drewN | apply below_drew1 | refine below_set ?_ (IsS87.ge HI0.out)) | exact HB.out)); rintro e w19 ⟨rfl, hi, hb, hk⟩; have n0_ := Aside0.mk (KeepBut.trans (by repeat (first | (with_reducible first | exact HK.out | apply KeepBut.set_ | apply keep_drewN | apply keep_drew | apply keep_alloc) | exact HK.out)) hk (.inl rfl)); have n1_ := Aside0.mk (hb); have n2_ := Aside0.mk (hi); clear HK; clear HB; clear HI0; have HK := n0_; have HB := n1_; have HI0 := n2_; clear n0_ n1_ n2_; (try clear hb); (try clear hb2); (try clear hk); (try clear hi))); try go_wp2_with (first | (go_at_call 77; (with_reducible refine (term_reader_next.calls g x1000_1 (wrap64 (x1001_1 + 1)) s0_2 t224 t225 t226 w0 _ ?side1 ?side2 A17.out).mono ?_); (case side1 => repeat (first | (with_reducible first | exact HI0.out | apply IsS87.alloc | apply IsS87.drewN | apply IsS87.drew | apply IsS87.set_0 | apply IsS87.set_1) | exact HI0.out)); (case side2 => repeat (first | (with_reducible first | exact HB.out | apply below_alloc | apply pw_below_drewN | apply below_drew1 | refine below_set ?_ (IsS87.ge HI0.out)) | exact HB.out)); rintro e w19 ⟨rfl, hi, hb, hk⟩; have n0_ := Aside0.mk (KeepBut.trans (by repeat (first | (with_reducible first | exact HK.out | apply KeepBut.set_ | apply keep_drewN | apply keep_drew | apply keep_alloc) | exact HK.out)) hk (.inl rfl)); have n1_ := Aside0.mk (hb); have n2_ := Aside0.mk (hi); clear HK; clear HB; clear HI0; have HK := n0_; have HB := n1_; have HI0 := n2_; clear n0_ n1_ n2_; (try clear hb); (try clear hb2); (try clear hk); (try clear hi))))
                  go_roundg k1
                  case measure => have := HK1.out; omega
                  case rel => exact ⟨(t224), (t225), (t226), (by first | rfl | (simp; done) | (simp [*]; done)), H', ⟨by have := HK1.out; omega⟩, ⟨by repeat (first | (with_reducible first | exact HI0.out | apply IsS87.alloc | apply IsS87.drewN | apply IsS87.drew | apply IsS87.set_0 | apply IsS87.set_1) | exact HI0.out)⟩, ⟨by repeat (first | (with_reducible first | exact HK.out | apply KeepBut.set_ | apply keep_drewN | apply keep_drew | apply keep_alloc) | exact HK.out)⟩, ⟨by repeat (first | (with_reducible first | exact HB.out | apply below_alloc | apply pw_below_drewN | apply below_drew1 | refine below_set ?_ (IsS87.ge HI0.out)) | exact HB.out)⟩⟩
                · rw [if_neg c16] at H
                  have c16b0 : decide (x4_1 ≤ 57) = false := decide_eq_false c16
                  clear c16
                  by_cases c20 : 0 ≤ s0_1
                  · rw [if_pos c20] at H
                    have c20b0 := eq_true c20
                    have c20b1 : decide (0 ≤ s0_1) = true := decide_eq_true c20
                    clear c20
                    by_cases c21 : s0_1 ≤ x1001_1
                    · rw [if_pos c21] at H
                      have c21b0 := eq_true c21
                      have c21b1 : decide (s0_1 ≤ x1001_1) = true := decide_eq_true c21
                      clear c21
                      by_cases c22 : x1001_1 ≤ (x1000_1.size : Int)
                      · rw [if_pos c22] at H
                        have c22b0 := eq_true c22
                        have c22b1 : decide (x1001_1 ≤ (x1000_1.size : Int)) = true := decide_eq_true c22
                        clear c22
                        simp only [Option.some.injEq, Prod.mk.injEq] at H
                        obtain ⟨rfl, rfl, rfl⟩ := H
                        obtain ⟨ASz23_2, cSz23_2, HGz23, hgz23, HSz23_2⟩ := HI0.out
                        have hcz23_0 := cellS81_0 HGz23
                        have hcz23_1 := cellS81_1 HGz23
                        have hcz23_2 := cellS81_2 HGz23
                        have hfz23_0 := blk_frozen HGz23 0
                        have hfz23_1 := blk_frozen HGz23 1
                        clear HGz23 hgz23
                        go_wp2
                        repeat (go_quiet (fail); try go_wp2)
                        go_ret
                        exact ⟨by first | rfl | (simp [errW_none, errW_some] <;> rfl) | (simp [*, errW_none, errW_some] <;> rfl), by repeat (first | (with_reducible first | exact HI0.out | apply IsS87.alloc | apply IsS87.drewN | apply IsS87.drew | apply IsS87.set_0 | apply IsS87.set_1) | exact HI0.out), by repeat (first | (with_reducible first | exact HB.out | apply below_alloc | apply pw_below_drewN | apply below_drew1 | refine below_set ?_ (IsS87.ge HI0.out)) | exact HB.out), by repeat (first | (with_reducible first | exact HK.out | apply KeepBut.set_ | apply keep_drewN | apply keep_drew | apply keep_alloc) | exact HK.out)⟩
                      · rw [if_neg c22] at H
                        exact absurd H (by simp)
                    · rw [if_neg c21] at H
                      exact absurd H (by simp)
                  · rw [if_neg c20] at H
                    exact absurd H (by simp)
              · rw [if_neg c15] at H
                have c15b0 : decide (48 ≤ x4_1) = false := decide_eq_false c15
                clear c15
                by_cases c24 : 0 ≤ s0_1
                · rw [if_pos c24] at H
                  have c24b0 := eq_true c24
                  have c24b1 : decide (0 ≤ s0_1) = true := decide_eq_true c24
                  clear c24
                  by_cases c25 : s0_1 ≤ x1001_1
                  · rw [if_pos c25] at H
                    have c25b0 := eq_true c25
                    have c25b1 : decide (s0_1 ≤ x1001_1) = true := decide_eq_true c25
                    clear c25
                    by_cases c26 : x1001_1 ≤ (x1000_1.size : Int)
                    · rw [if_pos c26] at H
                      have c26b0 := eq_true c26
                      have c26b1 : decide (x1001_1 ≤ (x1000_1.size : Int)) = true := decide_eq_true c26
                      clear c26
                      simp only [Option.some.injEq, Prod.mk.injEq] at H
                      obtain ⟨rfl, rfl, rfl⟩ := H
                      obtain ⟨ASz27_2, cSz27_2, HGz27, hgz27, HSz27_2⟩ := HI0.out
                      have hcz27_0 := cellS81_0 HGz27
                      have hcz27_1 := cellS81_1 HGz27
                      have hcz27_2 := cellS81_2 HGz27
                      have hfz27_0 := blk_frozen HGz27 0
                      have hfz27_1 := blk_frozen HGz27 1
                      clear HGz27 hgz27
                      go_wp2
                      repeat (go_quiet (fail); try go_wp2)
                      go_ret
                      exact ⟨by first | rfl | (simp [errW_none, errW_some] <;> rfl) | (simp [*, errW_none, errW_some] <;> rfl), by repeat (first | (with_reducible first | exact HI0.out | apply IsS87.alloc | apply IsS87.drewN | apply IsS87.drew | apply IsS87.set_0 | apply IsS87.set_1) | exact HI0.out), by repeat (first | (with_reducible first | exact HB.out | apply below_alloc | apply pw_below_drewN | apply below_drew1 | refine below_set ?_ (IsS87.ge HI0.out)) | exact HB.out), by repeat (first | (with_reducible first | exact HK.out | apply KeepBut.set_ | apply keep_drewN | apply keep_drew | apply keep_alloc) | exact HK.out)⟩
                    · rw [if_neg c26] at H
                      exact absurd H (by simp)
                  · rw [if_neg c25] at H
                    exact absurd H (by simp)
                · rw [if_neg c24] at H
                  exact absurd H (by simp)
          · rw [if_neg c10] at H
            have c10b0 : decide (65 ≤ x4_1) = false := decide_eq_false c10
            clear c10
            by_cases c28 : x4_1 ≥ 48
            · rw [if_pos c28] at H
              have c28b0 : decide (48 ≤ x4_1) = true := decide_eq_true c28
              clear c28
              by_cases c29 : x4_1 ≤ 57
              · rw [if_pos c29] at H
                have c29b0 : decide (x4_1 ≤ 57) = true := decide_eq_true c29
                clear c29
                replace H := Option.bind_eq_some_iff.mp H
                obtain ⟨⟨t227, t228, t229⟩, A300, H⟩ := H
                replace H : (term_reader_word.l0 k1 s0_1 t227 t228 t229 s0_2) = some (r1, r2, r3) := H
                have A30 := Aside0.mk A300
                clear A300
                have H' := Aside0.mk H
                clear H
                obtain ⟨ASz31_2, cSz31_2, HGz31, hgz31, HSz31_2⟩ := HI0.out
                have hcz31_0 := cellS81_0 HGz31
                have hcz31_1 := cellS81_1 HGz31
                have hcz31_2 := cellS81_2 HGz31
                have hfz31_0 := blk_frozen HGz31 0
                have hfz31_1 := blk_frozen HGz31 1
                clear HGz31 hgz31
                go_wp2_with (first | (go_at_call 77; (with_reducible refine (term_reader_next.calls g x1000_1 (wrap64 (x1001_1 + 1)) s0_2 t227 t228 t229 w0 _ ?side1 ?side2 A30.out).mono ?_); (case side1 => repeat (first | (with_reducible first | exact HI0.out | apply IsS87.alloc | apply IsS87.drewN | apply IsS87.drew | apply IsS87.set_0 | apply IsS87.set_1) | exact HI0.out)); (case side2 => repeat (first | (with_reducible first | exact HB.out | apply below_alloc | apply pw_below_drewN | apply below_drew1 | refine below_set ?_ (IsS87.ge HI0.out)) | exact HB.out)); rintro e w32 ⟨rfl, hi, hb, hk⟩; have n0_ := Aside0.mk (KeepBut.trans (by repeat (first | (with_reducible first | exact HK.out | apply KeepBut.set_ | apply keep_drewN | apply keep_drew | apply keep_alloc) | exact HK.out)) hk (.inl rfl)); have n1_ := Aside0.mk (hb); have n2_ := Aside0.mk (hi); clear HK; clear HB; clear HI0; have HK := n0_; have HB := n1_; have HI0 := n2_; clear n0_ n1_ n2_; (try clear hb); (try clear hb2); (try clear hk); (try clear hi)))
                repeat (go_quiet (first | (go_at_call 77; (with_reducible refine (term_reader_next.calls g x1000_1 (wrap64 (x1001_1 + 1)) s0_2 t227 t228 t229 w0 _ ?side1 ?side2 A30.out).mono ?_); (case side1 => repeat (first | (with_reducible first | exact HI0.out | apply IsS87.alloc | apply IsS87.drewN | apply IsS87.drew | apply IsS87.set_0 | apply IsS87.set_1) | exact HI0.out)); (case side2 => repeat (first | (with_reducible first | exact HB.out | apply below_alloc | apply pw_below_drewN | apply below_drew1 | refine below_set ?_ (IsS87.ge HI0.out)) | exact HB.out)); rintro e w32 ⟨rfl, hi, hb, hk⟩; have n0_ := Aside0.mk (KeepBut.trans (by repeat (first | (with_reducible first | exact HK.out | apply KeepBut.set_ | apply keep_drewN | apply keep_drew | apply keep_alloc) | exact HK.out)) hk (.inl rfl)); have n1_ := Aside0.mk (hb); have n2_ := Aside0.mk (hi); clear HK; clear HB; clear HI0; have HK := n0_; have HB := n1_; have HI0 := n2_; clear n0_ n1_ n2_; (try clear hb); (try clear hb2); (try clear hk); (try clear hi))); try go_wp2_with (first | (go_at_call 77; (with_reducible refine (term_reader_next.calls g x1000_1 (wrap64 (x1001_1 + 1)) s0_2 t227 t228 t229 w0 _ ?side1 ?side2 A30.out).mono ?_); (case side1 => repeat (first | (with_reducible first | exact HI0.out | apply IsS87.alloc | apply IsS87.drewN | apply IsS87.drew | apply IsS87.set_0 | apply IsS87.set_1) | exact HI0.out)); (case side2 => repeat (first | (with_reducible first | exact HB.out | apply below_alloc | apply pw_below_drewN | apply below_drew1 | refine below_set ?_ (IsS87.ge HI0.out)) | exact HB.out)); rintro e w32 ⟨rfl, hi, hb, hk⟩; have n0_ := Aside0.mk (KeepBut.trans (by repeat (first | (with_reducible first | exact HK.out | apply KeepBut.set_ | apply keep_drewN | apply keep_drew | apply keep_alloc) | exact HK.out)) hk (.inl rfl)); have n1_ := Aside0.mk (hb); have n2_ := Aside0.mk (hi); clear HK; clear HB; clear HI0; have HK := n0_; have HB := n1_; have HI0 := n2_; clear n0_ n1_ n2_; (try clear hb); (try clear hb2); (try clear hk); (try clear hi))))
                go_roundg k1
                case measure => have := HK1.out; omega
                case rel => exact ⟨(t227), (t228), (t229), (by first | rfl | (simp; done) | (simp [*]; done)), H', ⟨by have := HK1.out; omega⟩, ⟨by repeat (first | (with_reducible first | exact HI0.out | apply IsS87.alloc | apply IsS87.drewN | apply IsS87.drew | apply IsS87.set_0 | apply IsS87.set_1) | exact HI0.out)⟩, ⟨by repeat (first | (with_reducible first | exact HK.out | apply KeepBut.set_ | apply keep_drewN | apply keep_drew | apply keep_alloc) | exact HK.out)⟩, ⟨by repeat (first | (with_reducible first | exact HB.out | apply below_alloc | apply pw_below_drewN | apply below_drew1 | refine below_set ?_ (IsS87.ge HI0.out)) | exact HB.out)⟩⟩
              · rw [if_neg c29] at H
                have c29b0 : decide (x4_1 ≤ 57) = false := decide_eq_false c29
                clear c29
                by_cases c33 : 0 ≤ s0_1
                · rw [if_pos c33] at H
                  have c33b0 := eq_true c33
                  have c33b1 : decide (0 ≤ s0_1) = true := decide_eq_true c33
                  clear c33
                  by_cases c34 : s0_1 ≤ x1001_1
                  · rw [if_pos c34] at H
                    have c34b0 := eq_true c34
                    have c34b1 : decide (s0_1 ≤ x1001_1) = true := decide_eq_true c34
                    clear c34
                    by_cases c35 : x1001_1 ≤ (x1000_1.size : Int)
                    · rw [if_pos c35] at H
                      have c35b0 := eq_true c35
                      have c35b1 : decide (x1001_1 ≤ (x1000_1.size : Int)) = true := decide_eq_true c35
                      clear c35
                      simp only [Option.some.injEq, Prod.mk.injEq] at H
                      obtain ⟨rfl, rfl, rfl⟩ := H
                      obtain ⟨ASz36_2, cSz36_2, HGz36, hgz36, HSz36_2⟩ := HI0.out
                      have hcz36_0 := cellS81_0 HGz36
                      have hcz36_1 := cellS81_1 HGz36
                      have hcz36_2 := cellS81_2 HGz36
                      have hfz36_0 := blk_frozen HGz36 0
                      have hfz36_1 := blk_frozen HGz36 1
                      clear HGz36 hgz36
                      go_wp2
                      repeat (go_quiet (fail); try go_wp2)
                      go_ret
                      exact ⟨by first | rfl | (simp [errW_none, errW_some] <;> rfl) | (simp [*, errW_none, errW_some] <;> rfl), by repeat (first | (with_reducible first | exact HI0.out | apply IsS87.alloc | apply IsS87.drewN | apply IsS87.drew | apply IsS87.set_0 | apply IsS87.set_1) | exact HI0.out), by repeat (first | (with_reducible first | exact HB.out | apply below_alloc | apply pw_below_drewN | apply below_drew1 | refine below_set ?_ (IsS87.ge HI0.out)) | exact HB.out), by repeat (first | (with_reducible first | exact HK.out | apply KeepBut.set_ | apply keep_drewN | apply keep_drew | apply keep_alloc) | exact HK.out)⟩
                    · rw [if_neg c35] at H
                      exact absurd H (by simp)
                  · rw [if_neg c34] at H
                    exact absurd H (by simp)
                · rw [if_neg c33] at H
                  exact absurd H (by simp)
            · rw [if_neg c28] at H
              have c28b0 : decide (48 ≤ x4_1) = false := decide_eq_false c28
              clear c28
              by_cases c37 : 0 ≤ s0_1
              · rw [if_pos c37] at H
                have c37b0 := eq_true c37
                have c37b1 : decide (0 ≤ s0_1) = true := decide_eq_true c37
                clear c37
                by_cases c38 : s0_1 ≤ x1001_1
                · rw [if_pos c38] at H
                  have c38b0 := eq_true c38
                  have c38b1 : decide (s0_1 ≤ x1001_1) = true := decide_eq_true c38
                  clear c38
                  by_cases c39 : x1001_1 ≤ (x1000_1.size : Int)
                  · rw [if_pos c39] at H
                    have c39b0 := eq_true c39
                    have c39b1 : decide (x1001_1 ≤ (x1000_1.size : Int)) = true := decide_eq_true c39
                    clear c39
                    simp only [Option.some.injEq, Prod.mk.injEq] at H
                    obtain ⟨rfl, rfl, rfl⟩ := H
                    obtain ⟨ASz40_2, cSz40_2, HGz40, hgz40, HSz40_2⟩ := HI0.out
                    have hcz40_0 := cellS81_0 HGz40
                    have hcz40_1 := cellS81_1 HGz40
                    have hcz40_2 := cellS81_2 HGz40
                    have hfz40_0 := blk_frozen HGz40 0
                    have hfz40_1 := blk_frozen HGz40 1
                    clear HGz40 hgz40
                    go_wp2
                    repeat (go_quiet (fail); try go_wp2)
                    go_ret
                    exact ⟨by first | rfl | (simp [errW_none, errW_some] <;> rfl) | (simp [*, errW_none, errW_some] <;> rfl), by repeat (first | (with_reducible first | exact HI0.out | apply IsS87.alloc | apply IsS87.drewN | apply IsS87.drew | apply IsS87.set_0 | apply IsS87.set_1) | exact HI0.out), by repeat (first | (with_reducible first | exact HB.out | apply below_alloc | apply pw_below_drewN | apply below_drew1 | refine below_set ?_ (IsS87.ge HI0.out)) | exact HB.out), by repeat (first | (with_reducible first | exact HK.out | apply KeepBut.set_ | apply keep_drewN | apply keep_drew | apply keep_alloc) | exact HK.out)⟩
                  · rw [if_neg c39] at H
                    exact absurd H (by simp)
                · rw [if_neg c38] at H
                  exact absurd H (by simp)
              · rw [if_neg c37] at H
                exact absurd H (by simp)
      · rw [if_neg c5] at H
        have c5b0 : decide (97 ≤ x4_1) = false := decide_eq_false c5
        clear c5
        by_cases c41 : x4_1 ≥ 65
        · rw [if_pos c41] at H
          have c41b0 : decide (65 ≤ x4_1) = true := decide_eq_true c41
          clear c41
          by_cases c42 : x4_1 ≤ 90
          · rw [if_pos c42] at H
            have c42b0 : decide (x4_1 ≤ 90) = true := decide_eq_true c42
            clear c42
            replace H := Option.bind_eq_some_iff.mp H
            obtain ⟨⟨t230, t231, t232⟩, A430, H⟩ := H
            replace H : (term_reader_word.l0 k1 s0_1 t230 t231 t232 s0_2) = some (r1, r2, r3) := H
            have A43 := Aside0.mk A430
            clear A430
            have H' := Aside0.mk H
            clear H
            obtain ⟨ASz44_2, cSz44_2, HGz44, hgz44, HSz44_2⟩ := HI0.out
            have hcz44_0 := cellS81_0 HGz44
            have hcz44_1 := cellS81_1 HGz44
            have hcz44_2 := cellS81_2 HGz44
            have hfz44_0 := blk_frozen HGz44 0
            have hfz44_1 := blk_frozen HGz44 1
            clear HGz44 hgz44
            go_wp2_with (first | (go_at_call 77; (with_reducible refine (term_reader_next.calls g x1000_1 (wrap64 (x1001_1 + 1)) s0_2 t230 t231 t232 w0 _ ?side1 ?side2 A43.out).mono ?_); (case side1 => repeat (first | (with_reducible first | exact HI0.out | apply IsS87.alloc | apply IsS87.drewN | apply IsS87.drew | apply IsS87.set_0 | apply IsS87.set_1) | exact HI0.out)); (case side2 => repeat (first | (with_reducible first | exact HB.out | apply below_alloc | apply pw_below_drewN | apply below_drew1 | refine below_set ?_ (IsS87.ge HI0.out)) | exact HB.out)); rintro e w45 ⟨rfl, hi, hb, hk⟩; have n0_ := Aside0.mk (KeepBut.trans (by repeat (first | (with_reducible first | exact HK.out | apply KeepBut.set_ | apply keep_drewN | apply keep_drew | apply keep_alloc) | exact HK.out)) hk (.inl rfl)); have n1_ := Aside0.mk (hb); have n2_ := Aside0.mk (hi); clear HK; clear HB; clear HI0; have HK := n0_; have HB := n1_; have HI0 := n2_; clear n0_ n1_ n2_; (try clear hb); (try clear hb2); (try clear hk); (try clear hi)))
            repeat (go_quiet (first | (go_at_call 77; (with_reducible refine (term_reader_next.calls g x1000_1 (wrap64 (x1001_1 + 1)) s0_2 t230 t231 t232 w0 _ ?side1 ?side2 A43.out).mono ?_); (case side1 => repeat (first | (with_reducible first | exact HI0.out | apply IsS87.alloc | apply IsS87.drewN | apply IsS87.drew | apply IsS87.set_0 | apply IsS87.set_1) | exact HI0.out)); (case side2 => repeat (first | (with_reducible first | exact HB.out | apply below_alloc | apply pw_below_drewN | apply below_drew1 | refine below_set ?_ (IsS87.ge HI0.out)) | exact HB.out)); rintro e w45 ⟨rfl, hi, hb, hk⟩; have n0_ := Aside0.mk (KeepBut.trans (by repeat (first | (with_reducible first | exact HK.out | apply KeepBut.set_ | apply keep_drewN | apply keep_drew | apply keep_alloc) | exact HK.out)) hk (.inl rfl)); have n1_ := Aside0.mk (hb); have n2_ := Aside0.mk (hi); clear HK; clear HB; clear HI0; have HK := n0_; have HB := n1_; have HI0 := n2_; clear n0_ n1_ n2_; (try clear hb); (try clear hb2); (try clear hk); (try clear hi))); try go_wp2_with (first | (go_at_call 77; (with_reducible refine (term_reader_next.calls g x1000_1 (wrap64 (x1001_1 + 1)) s0_2 t230 t231 t232 w0 _ ?side1 ?side2 A43.out).mono ?_); (case side1 => repeat (first | (with_reducible first | exact HI0.out | apply IsS87.alloc | apply IsS87.drewN | apply IsS87.drew | apply IsS87.set_0 | apply IsS87.set_1) | exact HI0.out)); (case side2 => repeat (first | (with_reducible first | exact HB.out | apply below_alloc | apply pw_below_drewN | apply below_drew1 | refine below_set ?_ (IsS87.ge HI0.out)) | exact HB.out)); rintro e w45 ⟨rfl, hi, hb, hk⟩; have n0_ := Aside0.mk (KeepBut.trans (by repeat (first | (with_reducible first | exact HK.out | apply KeepBut.set_ | apply keep_drewN | apply keep_drew | apply keep_alloc) | exact HK.out)) hk (.inl rfl)); have n1_ := Aside0.mk (hb); have n2_ := Aside0.mk (hi); clear HK; clear HB; clear HI0; have HK := n0_; have HB := n1_; have HI0 := n2_; clear n0_ n1_ n2_; (try clear hb); (try clear hb2); (try clear hk); (try clear hi))))
            go_roundg k1
            case measure => have := HK1.out; omega
            case rel => exact ⟨(t230), (t231), (t232), (by first | rfl | (simp; done) | (simp [*]; done)), H', ⟨by have := HK1.out; omega⟩, ⟨by repeat (first | (with_reducible first | exact HI0.out | apply IsS87.alloc | apply IsS87.drewN | apply IsS87.drew | apply IsS87.set_0 | apply IsS87.set_1) | exact HI0.out)⟩, ⟨by repeat (first | (with_reducible first | exact HK.out | apply KeepBut.set_ | apply keep_drewN | apply keep_drew | apply keep_alloc) | exact HK.out)⟩, ⟨by repeat (first | (with_reducible first | exact HB.out | apply below_alloc | apply pw_below_drewN | apply below_drew1 | refine below_set ?_ (IsS87.ge HI0.out)) | exact HB.out)⟩⟩
          · rw [if_neg c42] at H
            have c42b0 : decide (x4_1 ≤ 90) = false := decide_eq_false c42
            clear c42
            by_cases c46 : x4_1 ≥ 48
            · rw [if_pos c46] at H
              have c46b0 : decide (48 ≤ x4_1) = true := decide_eq_true c46
              clear c46
              by_cases c47 : x4_1 ≤ 57
              · rw [if_pos c47] at H
                have c47b0 : decide (x4_1 ≤ 57) = true := decide_eq_true c47
                clear c47
                replace H := Option.bind_eq_some_iff.mp H
                obtain ⟨⟨t233, t234, t235⟩, A480, H⟩ := H
                replace H : (term_reader_word.l0 k1 s0_1 t233 t234 t235 s0_2) = some (r1, r2, r3) := H
                have A48 := Aside0.mk A480
                clear A480
                have H' := Aside0.mk H
                clear H
                obtain ⟨ASz49_2, cSz49_2, HGz49, hgz49, HSz49_2⟩ := HI0.out
                have hcz49_0 := cellS81_0 HGz49
                have hcz49_1 := cellS81_1 HGz49
                have hcz49_2 := cellS81_2 HGz49
                have hfz49_0 := blk_frozen HGz49 0
                have hfz49_1 := blk_frozen HGz49 1
                clear HGz49 hgz49
                go_wp2_with (first | (go_at_call 77; (with_reducible refine (term_reader_next.calls g x1000_1 (wrap64 (x1001_1 + 1)) s0_2 t233 t234 t235 w0 _ ?side1 ?side2 A48.out).mono ?_); (case side1 => repeat (first | (with_reducible first | exact HI0.out | apply IsS87.alloc | apply IsS87.drewN | apply IsS87.drew | apply IsS87.set_0 | apply IsS87.set_1) | exact HI0.out)); (case side2 => repeat (first | (with_reducible first | exact HB.out | apply below_alloc | apply pw_below_drewN | apply below_drew1 | refine below_set ?_ (IsS87.ge HI0.out)) | exact HB.out)); rintro e w50 ⟨rfl, hi, hb, hk⟩; have n0_ := Aside0.mk (KeepBut.trans (by repeat (first | (with_reducible first | exact HK.out | apply KeepBut.set_ | apply keep_drewN | apply keep_drew | apply keep_alloc) | exact HK.out)) hk (.inl rfl)); have n1_ := Aside0.mk (hb); have n2_ := Aside0.mk (hi); clear HK; clear HB; clear HI0; have HK := n0_; have HB := n1_; have HI0 := n2_; clear n0_ n1_ n2_; (try clear hb); (try clear hb2); (try clear hk); (try clear hi)))
                repeat (go_quiet (first | (go_at_call 77; (with_reducible refine (term_reader_next.calls g x1000_1 (wrap64 (x1001_1 + 1)) s0_2 t233 t234 t235 w0 _ ?side1 ?side2 A48.out).mono ?_); (case side1 => repeat (first | (with_reducible first | exact HI0.out | apply IsS87.alloc | apply IsS87.drewN | apply IsS87.drew | apply IsS87.set_0 | apply IsS87.set_1) | exact HI0.out)); (case side2 => repeat (first | (with_reducible first | exact HB.out | apply below_alloc | apply pw_below_drewN | apply below_drew1 | refine below_set ?_ (IsS87.ge HI0.out)) | exact HB.out)); rintro e w50 ⟨rfl, hi, hb, hk⟩; have n0_ := Aside0.mk (KeepBut.trans (by repeat (first | (with_reducible first | exact HK.out | apply KeepBut.set_ | apply keep_drewN | apply keep_drew | apply keep_alloc) | exact HK.out)) hk (.inl rfl)); have n1_ := Aside0.mk (hb); have n2_ := Aside0.mk (hi); clear HK; clear HB; clear HI0; have HK := n0_; have HB := n1_; have HI0 := n2_; clear n0_ n1_ n2_; (try clear hb); (try clear hb2); (try clear hk); (try clear hi))); try go_wp2_with (first | (go_at_call 77; (with_reducible refine (term_reader_next.calls g x1000_1 (wrap64 (x1001_1 + 1)) s0_2 t233 t234 t235 w0 _ ?side1 ?side2 A48.out).mono ?_); (case side1 => repeat (first | (with_reducible first | exact HI0.out | apply IsS87.alloc | apply IsS87.drewN | apply IsS87.drew | apply IsS87.set_0 | apply IsS87.set_1) | exact HI0.out)); (case side2 => repeat (first | (with_reducible first | exact HB.out | apply below_alloc | apply pw_below_drewN | apply below_drew1 | refine below_set ?_ (IsS87.ge HI0.out)) | exact HB.out)); rintro e w50 ⟨rfl, hi, hb, hk⟩; have n0_ := Aside0.mk (KeepBut.trans (by repeat (first | (with_reducible first | exact HK.out | apply KeepBut.set_ | apply keep_drewN | apply keep_drew | apply keep_alloc) | exact HK.out)) hk (.inl rfl)); have n1_ := Aside0.mk (hb); have n2_ := Aside0.mk (hi); clear HK; clear HB; clear HI0; have HK := n0_; have HB := n1_; have HI0 := n2_; clear n0_ n1_ n2_; (try clear hb); (try clear hb2); (try clear hk); (try clear hi))))
                go_roundg k1
                case measure => have := HK1.out; omega
                case rel => exact ⟨(t233), (t234), (t235), (by first | rfl | (simp; done) | (simp [*]; done)), H', ⟨by have := HK1.out; omega⟩, ⟨by repeat (first | (with_reducible first | exact HI0.out | apply IsS87.alloc | apply IsS87.drewN | apply IsS87.drew | apply IsS87.set_0 | apply IsS87.set_1) | exact HI0.out)⟩, ⟨by repeat (first | (with_reducible first | exact HK.out | apply KeepBut.set_ | apply keep_drewN | apply keep_drew | apply keep_alloc) | exact HK.out)⟩, ⟨by repeat (first | (with_reducible first | exact HB.out | apply below_alloc | apply pw_below_drewN | apply below_drew1 | refine below_set ?_ (IsS87.ge HI0.out)) | exact HB.out)⟩⟩
              · rw [if_neg c47] at H
                have c47b0 : decide (x4_1 ≤ 57) = false := decide_eq_false c47
                clear c47
                by_cases c51 : 0 ≤ s0_1
                · rw [if_pos c51] at H
                  have c51b0 := eq_true c51
                  have c51b1 : decide (0 ≤ s0_1) = true := decide_eq_true c51
                  clear c51
                  by_cases c52 : s0_1 ≤ x1001_1
                  · rw [if_pos c52] at H
                    have c52b0 := eq_true c52
                    have c52b1 : decide (s0_1 ≤ x1001_1) = true := decide_eq_true c52
                    clear c52
                    by_cases c53 : x1001_1 ≤ (x1000_1.size : Int)
                    · rw [if_pos c53] at H
                      have c53b0 := eq_true c53
                      have c53b1 : decide (x1001_1 ≤ (x1000_1.size : Int)) = true := decide_eq_true c53
                      clear c53
                      simp only [Option.some.injEq, Prod.mk.injEq] at H
                      obtain ⟨rfl, rfl, rfl⟩ := H
                      obtain ⟨ASz54_2, cSz54_2, HGz54, hgz54, HSz54_2⟩ := HI0.out
                      have hcz54_0 := cellS81_0 HGz54
                      have hcz54_1 := cellS81_1 HGz54
                      have hcz54_2 := cellS81_2 HGz54
                      have hfz54_0 := blk_frozen HGz54 0
                      have hfz54_1 := blk_frozen HGz54 1
                      clear HGz54 hgz54
                      go_wp2
                      repeat (go_quiet (fail); try go_wp2)
                      go_ret
                      exact ⟨by first | rfl | (simp [errW_none, errW_some] <;> rfl) | (simp [*, errW_none, errW_some] <;> rfl), by repeat (first | (with_reducible first | exact HI0.out | apply IsS87.alloc | apply IsS87.drewN | apply IsS87.drew | apply IsS87.set_0 | apply IsS87.set_1) | exact HI0.out), by repeat (first | (with_reducible first | exact HB.out | apply below_alloc | apply pw_below_drewN | apply below_drew1 | refine below_set ?_ (IsS87.ge HI0.out)) | exact HB.out), by repeat (first | (with_reducible first | exact HK.out | apply KeepBut.set_ | apply keep_drewN | apply keep_drew | apply keep_alloc) | exact HK.out)⟩
                    · rw [if_neg c53] at H
                      exact absurd H (by simp)
                  · rw [if_neg c52] at H
                    exact absurd H (by simp)
                · rw [if_neg c51] at H
                  exact absurd H (by simp)
            · rw [if_neg c46] at H
              have c46b0 : decide (48 ≤ x4_1) = false := decide_eq_false c46
              clear c46
              by_cases c55 : 0 ≤ s0_1
              · rw [if_pos c55] at H
                have c55b0 := eq_true c55
                have c55b1 : decide (0 ≤ s0_1) = true := decide_eq_true c55
                clear c55
                by_cases c56 : s0_1 ≤ x1001_1
                · rw [if_pos c56] at H
                  have c56b0 := eq_true c56
                  have c56b1 : decide (s0_1 ≤ x1001_1) = true := decide_eq_true c56
                  clear c56
                  by_cases c57 : x1001_1 ≤ (x1000_1.size : Int)
                  · rw [if_pos c57] at H
                    have c57b0 := eq_true c57
                    have c57b1 : decide (x1001_1 ≤ (x1000_1.size : Int)) = true := decide_eq_true c57
                    clear c57
                    simp only [Option.some.injEq, Prod.mk.injEq] at H
                    obtain ⟨rfl, rfl, rfl⟩ := H
                    obtain ⟨ASz58_2, cSz58_2, HGz58, hgz58, HSz58_2⟩ := HI0.out
                    have hcz58_0 := cellS81_0 HGz58
                    have hcz58_1 := cellS81_1 HGz58
                    have hcz58_2 := cellS81_2 HGz58
                    have hfz58_0 := blk_frozen HGz58 0
                    have hfz58_1 := blk_frozen HGz58 1
                    clear HGz58 hgz58
                    go_wp2
                    repeat (go_quiet (fail); try go_wp2)
                    go_ret
                    exact ⟨by first | rfl | (simp [errW_none, errW_some] <;> rfl) | (simp [*, errW_none, errW_some] <;> rfl), by repeat (first | (with_reducible first | exact HI0.out | apply IsS87.alloc | apply IsS87.drewN | apply IsS87.drew | apply IsS87.set_0 | apply IsS87.set_1) | exact HI0.out), by repeat (first | (with_reducible first | exact HB.out | apply below_alloc | apply pw_below_drewN | apply below_drew1 | refine below_set ?_ (IsS87.ge HI0.out)) | exact HB.out), by repeat (first | (with_reducible first | exact HK.out | apply KeepBut.set_ | apply keep_drewN | apply keep_drew | apply keep_alloc) | exact HK.out)⟩
                  · rw [if_neg c57] at H
                    exact absurd H (by simp)
                · rw [if_neg c56] at H
                  exact absurd H (by simp)
              · rw [if_neg c55] at H
                exact absurd H (by simp)
        · rw [if_neg c41] at H
          have c41b0 : decide (65 ≤ x4_1) = false := decide_eq_false c41
          clear c41
          by_cases c59 : x4_1 ≥ 48
          · rw [if_pos c59] at H
            have c59b0 : decide (48 ≤ x4_1) = true := decide_eq_true c59
            clear c59
            by_cases c60 : x4_1 ≤ 57
            · rw [if_pos c60] at H
              have c60b0 : decide (x4_1 ≤ 57) = true := decide_eq_true c60
              clear c60
              replace H := Option.bind_eq_some_iff.mp H
              obtain ⟨⟨t236, t237, t238⟩, A610, H⟩ := H
              replace H : (term_reader_word.l0 k1 s0_1 t236 t237 t238 s0_2) = some (r1, r2, r3) := H
              have A61 := Aside0.mk A610
              clear A610
              have H' := Aside0.mk H
              clear H
              obtain ⟨ASz62_2, cSz62_2, HGz62, hgz62, HSz62_2⟩ := HI0.out
              have hcz62_0 := cellS81_0 HGz62
              have hcz62_1 := cellS81_1 HGz62
              have hcz62_2 := cellS81_2 HGz62
              have hfz62_0 := blk_frozen HGz62 0
              have hfz62_1 := blk_frozen HGz62 1
              clear HGz62 hgz62
              go_wp2_with (first | (go_at_call 77; (with_reducible refine (term_reader_next.calls g x1000_1 (wrap64 (x1001_1 + 1)) s0_2 t236 t237 t238 w0 _ ?side1 ?side2 A61.out).mono ?_); (case side1 => repeat (first | (with_reducible first | exact HI0.out | apply IsS87.alloc | apply IsS87.drewN | apply IsS87.drew | apply IsS87.set_0 | apply IsS87.set_1) | exact HI0.out)); (case side2 => repeat (first | (with_reducible first | exact HB.out | apply below_alloc | apply pw_below_drewN | apply below_drew1 | refine below_set ?_ (IsS87.ge HI0.out)) | exact HB.out)); rintro e w63 ⟨rfl, hi, hb, hk⟩; have n0_ := Aside0.mk (KeepBut.trans (by repeat (first | (with_reducible first | exact HK.out | apply KeepBut.set_ | apply keep_drewN | apply keep_drew | apply keep_alloc) | exact HK.out)) hk (.inl rfl)); have n1_ := Aside0.mk (hb); have n2_ := Aside0.mk (hi); clear HK; clear HB; clear HI0; have HK := n0_; have HB := n1_; have HI0 := n2_; clear n0_ n1_ n2_; (try clear hb); (try clear hb2); (try clear hk); (try clear hi)))
              repeat (go_quiet (first | (go_at_call 77; (with_reducible refine (term_reader_next.calls g x1000_1 (wrap64 (x1001_1 + 1)) s0_2 t236 t237 t238 w0 _ ?side1 ?side2 A61.out).mono ?_); (case side1 => repeat (first | (with_reducible first | exact HI0.out | apply IsS87.alloc | apply IsS87.drewN | apply IsS87.drew | apply IsS87.set_0 | apply IsS87.set_1) | exact HI0.out)); (case side2 => repeat (first | (with_reducible first | exact HB.out | apply below_alloc | apply pw_below_drewN | apply below_drew1 | refine below_set ?_ (IsS87.ge HI0.out)) | exact HB.out)); rintro e w63 ⟨rfl, hi, hb, hk⟩; have n0_ := Aside0.mk (KeepBut.trans (by repeat (first | (with_reducible first | exact HK.out | apply KeepBut.set_ | apply keep_drewN | apply keep_drew | apply keep_alloc) | exact HK.out)) hk (.inl rfl)); have n1_ := Aside0.mk (hb); have n2_ := Aside0.mk (hi); clear HK; clear HB; clear HI0; have HK := n0_; have HB := n1_; have HI0 := n2_; clear n0_ n1_ n2_; (try clear hb); (try clear hb2); (try clear hk); (try clear hi))); try go_wp2_with (first | (go_at_call 77; (with_reducible refine (term_reader_next.calls g x1000_1 (wrap64 (x1001_1 + 1)) s0_2 t236 t237 t238 w0 _ ?side1 ?side2 A61.out).mono ?_); (case side1 => repeat (first | (with_reducible first | exact HI0.out | apply IsS87.alloc | apply IsS87.drewN | apply IsS87.drew | apply IsS87.set_0 | apply IsS87.set_1) | exact HI0.out)); (case side2 => repeat (first | (with_reducible first | exact HB.out | apply below_alloc | apply pw_below_drewN | apply below_drew1 | refine below_set ?_ (IsS87.ge HI0.out)) | exact HB.out)); rintro e w63 ⟨rfl, hi, hb, hk⟩; have n0_ := Aside0.mk (KeepBut.trans (by repeat (first | (with_reducible first | exact HK.out | apply KeepBut.set_ | apply keep_drewN | apply keep_drew | apply keep_alloc) | exact HK.out)) hk (.inl rfl)); have n1_ := Aside0.mk (hb); have n2_ := Aside0.mk (hi); clear HK; clear HB; clear HI0; have HK := n0_; have HB := n1_; have HI0 := n2_; clear n0_ n1_ n2_; (try clear hb); (try clear hb2); (try clear hk); (try clear hi))))
              go_roundg k1
              case measure => have := HK1.out; omega
              case rel => exact ⟨(t236), (t237), (t238), (by first | rfl | (simp; done) | (simp [*]; done)), H', ⟨by have := HK1.out; omega⟩, ⟨by repeat (first | (with_reducible first | exact HI0.out | apply IsS87.alloc | apply IsS87.drewN | apply IsS87.drew | apply IsS87.set_0 | apply IsS87.set_1) | exact HI0.out)⟩, ⟨by repeat (first | (with_reducible first | exact HK.out | apply KeepBut.set_ | apply keep_drewN | apply keep_drew | apply keep_alloc) | exact HK.out)⟩, ⟨by repeat (first | (with_reducible first | exact HB.out | apply below_alloc | apply pw_below_drewN | apply below_drew1 | refine below_set ?_ (IsS87.ge HI0.out)) | exact HB.out)⟩⟩
            · rw [if_neg c60] at H
              have c60b0 : decide (x4_1 ≤ 57) = false := decide_eq_false c60
              clear c60
              by_cases c64 : 0 ≤ s0_1
              · rw [if_pos c64] at H
                have c64b0 := eq_true c64
                have c64b1 : decide (0 ≤ s0_1) = true := decide_eq_true c64
                clear c64
                by_cases c65 : s0_1 ≤ x1001_1
                · rw [if_pos c65] at H
                  have c65b0 := eq_true c65
                  have c65b1 : decide (s0_1 ≤ x1001_1) = true := decide_eq_true c65
                  clear c65
                  by_cases c66 : x1001_1 ≤ (x1000_1.size : Int)
                  · rw [if_pos c66] at H
                    have c66b0 := eq_true c66
                    have c66b1 : decide (x1001_1 ≤ (x1000_1.size : Int)) = true := decide_eq_true c66
                    clear c66
                    simp only [Option.some.injEq, Prod.mk.injEq] at H
                    obtain ⟨rfl, rfl, rfl⟩ := H
                    obtain ⟨ASz67_2, cSz67_2, HGz67, hgz67, HSz67_2⟩ := HI0.out
                    have hcz67_0 := cellS81_0 HGz67
                    have hcz67_1 := cellS81_1 HGz67
                    have hcz67_2 := cellS81_2 HGz67
                    have hfz67_0 := blk_frozen HGz67 0
                    have hfz67_1 := blk_frozen HGz67 1
                    clear HGz67 hgz67
                    go_wp2
                    repeat (go_quiet (fail); try go_wp2)
                    go_ret
                    exact ⟨by first | rfl | (simp [errW_none, errW_some] <;> rfl) | (simp [*, errW_none, errW_some] <;> rfl), by repeat (first | (with_reducible first | exact HI0.out | apply IsS87.alloc | apply IsS87.drewN | apply IsS87.drew | apply IsS87.set_0 | apply IsS87.set_1) | exact HI0.out), by repeat (first | (with_reducible first | exact HB.out | apply below_alloc | apply pw_below_drewN | apply below_drew1 | refine below_set ?_ (IsS87.ge HI0.out)) | exact HB.out), by repeat (first | (with_reducible first | exact HK.out | apply KeepBut.set_ | apply keep_drewN | apply keep_drew | apply keep_alloc) | exact HK.out)⟩
                  · rw [if_neg c66] at H
                    exact absurd H (by simp)
                · rw [if_neg c65] at H
                  exact absurd H (by simp)
              · rw [if_neg c64] at H
                exact absurd H (by simp)
          · rw [if_neg c59] at H
            have c59b0 : decide (48 ≤ x4_1) = false := decide_eq_false c59
            clear c59
            by_cases c68 : 0 ≤ s0_1
            · rw [if_pos c68] at H
              have c68b0 := eq_true c68
              have c68b1 : decide (0 ≤ s0_1) = true := decide_eq_true c68
              clear c68
              by_cases c69 : s0_1 ≤ x1001_1
              · rw [if_pos c69] at H
                have c69b0 := eq_true c69
                have c69b1 : decide (s0_1 ≤ x1001_1) = true := decide_eq_true c69
                clear c69
                by_cases c70 : x1001_1 ≤ (x1000_1.size : Int)
                · rw [if_pos c70] at H
                  have c70b0 := eq_true c70
                  have c70b1 : decide (x1001_1 ≤ (x1000_1.size : Int)) = true := decide_eq_true c70
                  clear c70
                  simp only [Option.some.injEq, Prod.mk.injEq] at H
                  obtain ⟨rfl, rfl, rfl⟩ := H
                  obtain ⟨ASz71_2, cSz71_2, HGz71, hgz71, HSz71_2⟩ := HI0.out
                  have hcz71_0 := cellS81_0 HGz71
                  have hcz71_1 := cellS81_1 HGz71
                  have hcz71_2 := cellS81_2 HGz71
                  have hfz71_0 := blk_frozen HGz71 0
                  have hfz71_1 := blk_frozen HGz71 1
                  clear HGz71 hgz71
                  go_wp2
                  repeat (go_quiet (fail); try go_wp2)
                  go_ret
                  exact ⟨by first | rfl | (simp [errW_none, errW_some] <;> rfl) | (simp [*, errW_none, errW_some] <;> rfl), by repeat (first | (with_reducible first | exact HI0.out | apply IsS87.alloc | apply IsS87.drewN | apply IsS87.drew | apply IsS87.set_0 | apply IsS87.set_1) | exact HI0.out), by repeat (first | (with_reducible first | exact HB.out | apply below_alloc | apply pw_below_drewN | apply below_drew1 | refine below_set ?_ (IsS87.ge HI0.out)) | exact HB.out), by repeat (first | (with_reducible first | exact HK.out | apply KeepBut.set_ | apply keep_drewN | apply keep_drew | apply keep_alloc) | exact HK.out)⟩
                · rw [if_neg c70] at H
                  exact absurd H (by simp)
              · rw [if_neg c69] at H
                exact absurd H (by simp)
            · rw [if_neg c68] at H
              exact absurd H (by simp)


end Go.Proofs.YtnkpcnnbeaomnaaDoor.C.RW
end
