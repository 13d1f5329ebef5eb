/- slices.Clone at api.Term (function 36): a copy in new memory, nil kept nil. Conditions: the row is shorter than the bound at which an append would outgrow memory. -/
import Derived.Test.YtnkpcnnbeaomnaaC0
import Derived.Lib.SliceRun
namespace Go.Proofs.Ytnkpcnnbeaomnaa.C
open Go.RowKit Go.Proofs.YtnkpcnnbeaomnaaW.PrintWords Go.Proofs.YtnkpcnnbeaomnaaW.PrintLast Go.Proofs.YtnkpcnnbeaomnaaW.PrintMore
set_option linter.unusedVariables false
set_option linter.unusedSimpArgs false

def clone_Term.f (l0 : List (S28)) : Option ((List (S28))) := if l0.length < 5864062014805 then (some l0) else (none)

theorem R_lit_nil {α : Type} (d : Kd α) (e : Nat) (W : World) (base : Nat) (hb : base ≤ W.heap.size) : d.R e (W.alloc (.cells #[] e)) base (fun _ => True) (.slice (some ⟨W.heap.size, 0, none⟩) 0 0) [] :=
  ⟨fun _ _ => trivial, OwnRow.lit (ps := ([] : List α)) W base (inner := []) (Reps.none _ _) hb (by simp)⟩

theorem C_none_nil {α : Type} {d : Kd α} {w : World} {n : Nat} {xs : List α} (h : Kd.C d w none n xs) : xs = [] := by
  rcases Nat.eq_zero_or_pos n with h0 | h0
  · exact List.eq_nil_of_length_eq_zero (by rw [h.1]; exact h0)
  · obtain ⟨ad, h, _⟩ := h.2.2 h0
    cases h

set_option maxHeartbeats 400000 in
theorem clone_Term.nil (c0 : Nat) (w : World) :
    Calls Try.prog 36 #[.slice none 0 c0] w fun e w' => e = .returned (.slice none 0 0) ∧ w' = w := by
  have heq := fun (W : World) => Lib.run_eql_slice_nil (P := Try.prog) W 23 28 none 0 c0 0 0 Try.underlying23
  go_enter Try.func36, Try.ntmps36
  go_wp2
  go_ret
  exact ⟨rfl, rfl⟩

set_option maxHeartbeats 400000 in
theorem clone_Term.calls (A0 : Option Addr) (c0 : Nat) (l0 : List (S28)) (r : List (S28)) (w : World) (hr0 : Kd.C k28 w A0 l0.length l0) (hc0 : l0.length ≤ c0) (h : clone_Term.f l0 = some r) :
    Calls Try.prog 36 #[.slice A0 l0.length c0] w fun e w' => ∃ v0_ : Value, e = .returned (v0_) ∧ Kd.R k28 28 w' w.heap.size (fun _ => True) v0_ r ∧ Below w.heap.size w w' := by
  have hlen : l0.length < 5864062014805 := by
    unfold clone_Term.f at h; split at h
    · assumption
    · cases h
  obtain rfl : r = l0 := by unfold clone_Term.f at h; rw [if_pos hlen] at h; exact (Option.some.inj h).symm
  clear h
  rcases A0 with _ | ad
  · obtain rfl := C_none_nil hr0
    refine (clone_Term.nil c0 w).mono ?_
    rintro e w' ⟨rfl, rfl⟩
    exact ⟨_, rfl, Kd.R_nil _ _ _ _ _, Below.refl _ _⟩
  · have heq := fun (W : World) => Lib.run_eql_slice_nil (P := Try.prog) W 23 28 (some ad) r.length c0 0 0 Try.underlying23
    have HR0 := Aside0.mk hr0
    have HC0 := Aside0.mk hc0
    clear hr0 hc0
    have HB := Aside0.mk (Below.refl w.heap.size w)
    have LM := Aside0.mk hlen
    clear hlen
    go_enter Try.func36, Try.ntmps36
    go_wp2_with (first | (at_builtin; refine Kd.R_append_rows k28 (w0 := w) w.heap.size rfl (.tmp 5) (.tmp 6) 23 28 (.agg #[(.string ⟨#[]⟩), (.int .i64 0)]) 24 rfl Try.underlying23 info28 rfl (by decide) (by omega) (.slice (some ⟨w.heap.size, 0, none⟩) 0 0) ([] : List (S28)) r _ _ _ (fun _ => True) (fun _ => False) rfl rfl ?aO ?aR (fun _ _ h => h) (fun _ h => h.elim) (fun _ _ => trivial) ?aB ?aS ?aL ?_; (case aR => exact Kd.C_alloc HR0.out _); (case aB => exact below_alloc HB.out _); (case aO => exact R_lit_nil _ _ _ _ (Nat.le_refl _)); (case aS => exact below_size (below_alloc HB.out _)); (case aL => have := LM.out; simp; omega); intro v138 w3 ho hb hg hat; have n0_ := Aside0.mk (hb); have n1_ := Aside0.mk (ho); clear HB; have HB := n0_; have HO139 := n1_; clear n0_ n1_; clear ho hb hg hat))
    go_ret
    exact ⟨_, rfl, by simpa using HO139.out, HB.out⟩

end Go.Proofs.Ytnkpcnnbeaomnaa.C
