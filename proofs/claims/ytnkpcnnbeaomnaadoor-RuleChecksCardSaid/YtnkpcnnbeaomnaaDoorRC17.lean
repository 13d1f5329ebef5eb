import Derived.Test.YtnkpcnnbeaomnaaDoorRC2
import Derived.Deep.Slices
import Derived.ChangeSame
import Derived.SizedLaws
import Derived.Test.YtnkpcnnbeaomnaaDoorRows
import Derived.ProofKit
import Derived.LaidMore
import Derived.Test.YtnkpcnnbeaomnaaDoorCards
import Derived.Test.YtnkpcnnbeaomnaaDoorTie
import Derived.Test.YtnkpcnnbeaomnaaDoorRC15
import Derived.Test.YtnkpcnnbeaomnaaDoorRC16
import Derived.SevenTiedAt
import Derived.WalkKit
import Derived.OpenShut
import Derived.ShutString
import Derived.ChangeOld
import Derived.Below
import Derived.Carry

section
/- An argument that can be read as data reads as a plain Lean value of its kind (strings, whole numbers, structs of two, slices of these), with the form's own bounds on its parts. -/
namespace Go.Proofs.YtnkpcnnbeaomnaaDoor.C
open Go.RowKit Go.ChangeShapes Go.WideShapes Go.Deep Go.Proofs.YtnkpcnnbeaomnaaDoorW.PrintWords
set_option linter.unusedVariables false
set_option linter.unusedSimpArgs false

section
variable {H : Type} {enc : TypeId × Value → H} {P : Program} {w : World} {base : Nat} {spare : Nat → Bool} {held : Bool}

/-- What reads as data of type T is of kind d, and B holds of it. -/
def Opens (enc : TypeId × Value → H) (P : Program) (w : World) (base : Nat) (spare : Nat → Bool) (held : Bool) {α : Type} (d : Kd α) (T : TypeId) (B : α → Prop) : Prop :=
  ∀ fuel cs x, DataW.trod enc P w base spare held fuel T cs = some x → (∀ n ∈ x.1.weights P T, n ≤ reachBytes) → ∃ y, d.K w y cs ∧ B y

theorem opens_string {T : TypeId} (h : P.underlying T = some .string) : Opens enc P w base spare held Kd.string T (fun s => s.size ≤ reachBytes) := by
  intro fuel cs x hx hw
  obtain ⟨s, rfl, rfl, hs⟩ := DataW.trod_string h hx
  refine ⟨s, rfl, ?_⟩
  have := hw s.data.toList.length (by simp [DataW.weights])
  rwa [data_length] at this
theorem opens_int {T : TypeId} {k : IntKind} (h : P.underlying T = some (.int k)) : Opens enc P w base spare held (Kd.int k) T (fun n => (Lit.int k n).wf = true) := by
  intro fuel cs x hx hw
  obtain ⟨n, rfl, rfl, hs⟩ := DataW.trod_int h hx
  exact ⟨n, rfl, hs⟩
theorem opens_pair {α β : Type} {T : TypeId} {a : Kd α} {b : Kd β} {A : α → Prop} {B : β → Prop} {f0 f1 : Field} (h : P.underlying T = some (.struct #[f0, f1])) (hT : P.cellsOf T = P.cellsOf f0.type + P.cellsOf f1.type) (h0 : f0.offset = 0) (h1 : f1.offset = P.cellsOf f0.type)
    (ha : Opens enc P w base spare held a f0.type A) (hb : Opens enc P w base spare held b f1.type B) : Opens enc P w base spare held (Kd.pair a b) T (fun x => A x.1 ∧ B x.2) := by
  intro fuel cs x hx hw
  obtain ⟨y0, y1, n, rfl, hl, hy0, hy1⟩ := trod_struct2 h hx
  simp only [DataW.weights, h, List.map_cons, List.map_nil, DataW.weightsEach, List.append_nil, List.mem_append] at hw
  obtain ⟨z0, hz0, hA⟩ := ha _ _ _ hy0 (fun n hn => hw n (.inl hn))
  obtain ⟨z1, hz1, hB⟩ := hb _ _ _ hy1 (fun n hn => hw n (.inr hn))
  refine ⟨(z0, z1), ⟨_, _, ?_, hz0, hz1⟩, hA, hB⟩
  rw [h0, h1, List.drop_zero]
  have : (cs.drop (P.cellsOf f0.type)).take (P.cellsOf f1.type) = cs.drop (P.cellsOf f0.type) := List.take_of_length_le (by rw [List.length_drop]; omega)
  rw [this, List.take_append_drop]
theorem opens_iso {α β : Type} {T : TypeId} {d : Kd α} {A : α → Prop} (f : β → α) (g : α → β) (hfg : ∀ x, f (g x) = x) (h : Opens enc P w base spare held d T A) : Opens enc P w base spare held (Kd.iso d f) T (fun x => A (f x)) := by
  intro fuel cs x hx hw
  obtain ⟨y, hy, hA⟩ := h _ _ _ hx hw
  exact ⟨g y, by show d.K w (f (g y)) cs; rw [hfg]; exact hy, by show A (f (g y)); rw [hfg]; exact hA⟩

theorem mem_weightsAll {e : TypeId} : ∀ (l : List (DataW H)) (d : DataW H), d ∈ l → ∀ n ∈ d.weights P e, n ∈ DataW.weightsAll P e l
  | c :: r, d, hd, n, hn => by
    simp only [DataW.weightsAll, List.mem_append]
    rcases List.mem_cons.1 hd with rfl | hd
    · exact .inl hn
    · exact .inr (mem_weightsAll r d hd n hn)

theorem list_of {α : Type} {n : Nat} {p : Nat → α → Prop} (h : ∀ i, i < n → ∃ x, p i x) : ∃ l : List α, l.length = n ∧ ∀ i x, l[i]? = some x → p i x := by
  induction n with
  | zero => exact ⟨[], rfl, fun i x hx => by simp at hx⟩
  | succ n ih =>
    obtain ⟨l, hl, hp⟩ := ih (fun i hi => h i (by omega))
    obtain ⟨x, hx⟩ := h n (by omega)
    refine ⟨l ++ [x], by simp [hl], fun i y hy => ?_⟩
    by_cases hi : i < n
    · rw [List.getElem?_append_left (by omega)] at hy
      exact hp i y hy
    · have hi' : i = n := by
        have := (List.getElem?_eq_some_iff.1 hy).1
        simp at this
        omega
      subst hi'
      rw [List.getElem?_append_right (by omega), hl] at hy
      simp at hy
      subst hy
      exact hx

theorem opens_slice {α : Type} {T e : TypeId} {d : Kd α} {B : α → Prop} {bytes : Nat} (h : P.underlying T = some (.slice e)) (hsz : d.sz = P.cellsOf e) (hby : P.bytesOf e = bytes) (hd : Opens enc P w base spare held d e B) :
    Opens enc P w base spare held (Kd.slice e d) T (fun l => l.length * bytes ≤ reachBytes ∧ ∀ x ∈ l, B x) := by
  intro fuel cs x hx hw
  rcases open_slice h hx with ⟨rfl, rfl⟩ | ⟨a, len, cap, m, n, D, Pl, rfl, hb, hl, hm, hmm, rfl, hi⟩
  · exact ⟨[], ⟨none, 0, rfl, Nat.le_refl _, rfl, by simp, fun h => absurd h (by simp)⟩, by simp, fun x hx => by cases hx⟩
  · have hlm : len ≤ m := by rw [hmm]; split <;> omega
    simp only [DataW.weights, h, List.mem_cons, List.mem_append] at hw
    have hall : ∀ i, i < len → ∃ y, (∃ cs', w.cells? base (a.add (i * P.cellsOf e)) (P.cellsOf e) = some cs' ∧ d.K w y cs') ∧ B y := by
      intro i hil
      obtain ⟨cs', hc, ht⟩ := hi i (by omega)
      obtain ⟨y, hy, hB⟩ := hd _ _ _ ht (fun n hn => hw n (.inr (.inl (mem_weightsAll _ (D i) (List.mem_map.2 ⟨i, List.mem_range.2 hil, rfl⟩) n hn))))
      exact ⟨y, ⟨cs', hc, hy⟩, hB⟩
    obtain ⟨l, hll, hp⟩ := list_of hall
    have hlen : len * bytes ≤ reachBytes := by
      have := hw _ (.inl rfl)
      rw [hby] at this
      simp only [List.length_map, List.length_range] at this
      exact Nat.le_trans (Nat.mul_le_mul_right _ (by omega)) this
    refine ⟨l, ⟨some a, cap, by rw [hll], by omega, rfl, by simp only [maxLen] at hm; omega, fun _ => ⟨a, rfl, fun j p hj => ?_⟩⟩, by rw [hll]; exact hlen, fun x hx => ?_⟩
    · obtain ⟨⟨cs', hc, hK⟩, _⟩ := hp j p hj
      obtain ⟨_, hcl, hat⟩ := World.cells?_some hc
      refine ⟨cs', by rw [hsz]; exact hcl, hK, fun i u hu => ?_⟩
      have hil : i < P.cellsOf e := by
        have := (List.getElem?_eq_some_iff.1 hu).1
        omega
      rw [hsz, ← Go.Deep.add_add, hat i hil, hu]
    · obtain ⟨i, hi, rfl⟩ := List.getElem_of_mem hx
      exact (hp i _ (List.getElem?_eq_getElem hi)).2
end

section
variable {H : Type} {enc : TypeId × Value → H} {w : World} {base : Nat} {spare : Nat → Bool} {held : Bool}
theorem cells9 : Tryd.prog.cellsOf 9 = 1 := by kernel_rfl
theorem cells3 : Tryd.prog.cellsOf 3 = 1 := by kernel_rfl
theorem cells33 : Tryd.prog.cellsOf 33 = 2 := by kernel_rfl
theorem cells23 : Tryd.prog.cellsOf 23 = 1 := by kernel_rfl
theorem bytes33 : Tryd.prog.bytesOf 33 = 24 := by kernel_rfl
def Bd28 (c : S33) : Prop := c.f0.size ≤ reachBytes ∧ (Lit.int .i64 c.f1).wf = true
def BdT (t : List S33) : Prop := t.length * 24 ≤ reachBytes ∧ ∀ c ∈ t, Bd28 c
theorem opens33 : Opens enc Tryd.prog w base spare held k33 33 Bd28 :=
  opens_iso (fun x : S33 => (x.f0, x.f1)) (fun x => ⟨x.1, x.2⟩) (fun _ => rfl) (opens_pair Tryd.underlying33 (by rw [cells33, cells9, cells3]) rfl (by rw [cells9]) (opens_string Tryd.underlying9) (opens_int Tryd.underlying3))
theorem opens23 : Opens enc Tryd.prog w base spare held (Kd.slice 33 k33) 23 BdT := opens_slice Tryd.underlying23 (by rw [cells33]; rfl) bytes33 opens33

end
end Go.Proofs.YtnkpcnnbeaomnaaDoor.C
end

section
/- The rows' door: a rule as an argument reads as a number and two terms; a world in which the listed variables are laid. -/
namespace Go.Proofs.YtnkpcnnbeaomnaaDoor.C
open Go.RowKit Go.ChangeShapes Go.WideShapes Go.Deep Go.Proofs.YtnkpcnnbeaomnaaDoorW.PrintWords
set_option linter.unusedVariables false
set_option linter.unusedSimpArgs false
variable {H : Type} {enc : TypeId × Value → H} {w : World} {base : Nat} {spare : Nat → Bool} {held : Bool}
theorem cells25 : Tryd.prog.cellsOf 25 = 3 := by kernel_rfl
theorem trod_struct3 {P : Program} {t : TypeId} {f0 f1 f2 : Field} {fuel : Nat} {cs : List Value} {x : DataW H × List MemPlace} (ht : P.underlying t = some (.struct #[f0, f1, f2])) (h : DataW.trod enc P w base spare held fuel t cs = some x) :
    ∃ y0 y1 y2 n, x = (.agg [y0.1, y1.1, y2.1], y0.2 ++ y1.2 ++ y2.2) ∧ cs.length = P.cellsOf t ∧ DataW.trod enc P w base spare held n f0.type ((cs.drop f0.offset).take (P.cellsOf f0.type)) = some y0 ∧
      DataW.trod enc P w base spare held n f1.type ((cs.drop f1.offset).take (P.cellsOf f1.type)) = some y1 ∧ DataW.trod enc P w base spare held n f2.type ((cs.drop f2.offset).take (P.cellsOf f2.type)) = some y2 := by
  obtain ⟨xs, n, _, rfl, hl, hlen, hf⟩ := DataW.trod_struct ht h
  match xs, hlen with
  | [y0, y1, y2], _ => exact ⟨y0, y1, y2, n, by simp, hl, by simpa using hf 0 f0 rfl, by simpa using hf 1 f1 rfl, by simpa using hf 2 f2 rfl⟩
set_option maxRecDepth 100000 in
theorem open_rule {v : Value} {x : DataW H} {ps : List MemPlace} {ts : List TypeId} {ds : List (DataW H)} {j : Nat} {W : World} {bs : Nat}
    (hv : Value.okWide Tryd.prog W .any bs 25 v) (hsz : (DataW.weightsEach Tryd.prog ts ds).all (· ≤ reachBytes) = true) (ht : ts[j]? = some 25) (hd : ds[j]? = some x) (h : DataW.Trod enc Tryd.prog w base spare held 25 v x ps) :
    ∃ (id : Int) (A : Option Addr) (c : Nat) (l : List S33) (B : Option Addr) (d : Nat) (r : List S33), v = .agg #[.int .i64 id, .slice A l.length c, .slice B r.length d] ∧ Kd.C k33 w A l.length l ∧ l.length ≤ c ∧ Kd.C k33 w B r.length r ∧ r.length ≤ d ∧ BdT l ∧ BdT r := by
  obtain ⟨⟨cs⟩, rfl, hcs⟩ := okWide_struct Tryd.underlying25 hv
  obtain ⟨fuel, hf⟩ := h
  have hw : ∀ n ∈ x.weights Tryd.prog 25, n ≤ reachBytes := fun n hn => by
    have := List.all_eq_true.1 hsz _ (DataW.weights_mem_each ht hd n hn)
    simpa using this
  obtain ⟨y0, y1, y2, n, hx, hl, h0, h1, h2⟩ := trod_struct3 Tryd.underlying25 hf
  obtain ⟨rfl, rfl⟩ := Prod.mk.inj hx
  simp only [DataW.weights, Tryd.underlying25, List.map_cons, List.map_nil, DataW.weightsEach, List.append_nil, List.mem_append] at hw
  rw [cells25] at hl
  match cs, hl with
  | [u0, u1, u2], _ =>
    simp only [Value.cells, List.drop_zero, List.drop_succ_cons, cells3, cells23, List.take_succ_cons, List.take_zero] at h0 h1 h2
    obtain ⟨id, e0, _, _⟩ := DataW.trod_int Tryd.underlying3 h0
    obtain ⟨l, ⟨A, c, e1, hc, hC⟩, hB⟩ := opens23 _ _ _ h1 (fun n hn => hw n (.inr (.inl hn)))
    obtain ⟨r, ⟨B, d, e2, hd', hD⟩, hB2⟩ := opens23 _ _ _ h2 (fun n hn => hw n (.inr (.inr hn)))
    simp only [List.cons.injEq, and_true] at e0 e1 e2
    subst e0 e1 e2
    exact ⟨id, A, c, l, B, d, r, rfl, hC, hc, hD, hd', hB, hB2⟩

def laid3 : List (String × DataW Unit) := [("math/bits.deBruijn32tab", Rows.laid_math_bits_deBruijn32tab), ("math/bits.deBruijn64tab", Rows.laid_math_bits_deBruijn64tab), ("internal/strconv.uint64pow10", Rows.laid_internal_strconv_uint64pow10)]
theorem own : ownKnob Tryd.prog.godebug = none := by kernel_rfl
theorem laidOut : laidOutB Tryd.prog = true := by kernel_rfl
/-- The door's own heap meets the condition. -/
theorem door_met (os : Os) (args : Array Value) : laidMetH Tryd.prog laid3 ((World.doorLaid Tryd.prog 4000 os).forCall (fun _ _ => 0) ⟨#[], args, []⟩).memory :=
  laidMetH_of_parts3 (fuel := 8) (laidMet_of_run' 8 (by kernel_rfl) (by kernel_rfl)) (by kernel_rfl) (by kernel_rfl)
theorem door_shaped (os : Os) (args : Array Value) : ((World.doorLaid Tryd.prog 4000 os).forCall (fun _ _ => 0) ⟨#[], args, []⟩).Shaped Tryd.prog := World.shaped_of_RefB (by kernel_rfl) (by kernel_rfl)
end Go.Proofs.YtnkpcnnbeaomnaaDoor.C
end

section
/- The row RuleChecks and its card, out of its walk (C29), its plain law and the way its argument reads (HDoor). -/
namespace Go.Proofs.YtnkpcnnbeaomnaaDoor.ruleChecks
open Go.ChangeShapes Go.WideShapes Go.ChangeAt Go.RowKit
set_option linter.unusedVariables false
set_option maxRecDepth 100000 in
theorem lifted (os : Os) (started : os.Started) (H : Type) (enc : TypeId × Value → H) :
    ReturnsInHanded {} Tryd.checked os 3 .any (fun w args => (Rows.ruleChecksSpec.pre enc Tryd.prog Tryd.f3 [] false w args ∧ laidMetH Tryd.prog C.laid3 w) ∧ sizedMet enc Tryd.prog Tryd.f3 (OpenSpec.ofChange Rows.ruleChecksSpec) false w args)
      (Rows.ruleChecksSpec.post enc Tryd.prog Tryd.f3 false true false false) := by
  refine returnsInHanded_of_change_and (C := Tryd.checked) (X := fun w _ => laidMetH Tryd.prog C.laid3 w) (fun _ _ _ hh h => h.of_heap hh) C.own started (by kernel_rfl) Tryd.func3
    (ChangeSpec.witness_shaped (enc := enc) (C := Tryd.checked) (os := os) (X := fun w _ => laidMetH Tryd.prog C.laid3 w) false (World.doorLaid Tryd.prog 4000 os) #[.agg #[.int .i64 0, .slice none 0 0, .slice none 0 0]] 8 rfl (C.door_shaped os _) (by kernel_rfl) (by kernel_rfl) (by kernel_rfl) (C.door_met os _)) ?_
  intro W base args ds gs before hval0 hW _ hsz0 hL _
  have hsz : (DataW.weightsEach Tryd.prog (Tryd.f3.params.toList ++ Rows.ruleChecksSpec.plain.varTypes Tryd.prog) (ds ++ gs)).all (· ≤ reachBytes) = true := hsz0
  have hval : ∀ (j : Nat) t v, Tryd.f3.params[j]? = some t → args[j]? = some v → Value.okWide Tryd.prog W .any base t v := hval0
  have hW' := hW
  obtain ⟨p, q, hA0, hV, rfl, hfz, hnd⟩ := hW
  have hA : DataW.TrodAll enc Tryd.prog W 0 (fun _ => true) true Tryd.f3.params.toList args.toList ds p := hA0
  rw [Tryd.params3] at hA hval hsz
  obtain ⟨v0, d0, rfl, rfl, h0⟩ := trodAll_one hA
  obtain ⟨rfl, rfl⟩ := trodVars_none hV
  obtain ⟨id, A, c, l, B, d, r, rfl, hl, hc, hr, hd, hB1, hB2⟩ := C.open_rule (hval 0 25 v0 rfl rfl) hsz (j := 0) rfl rfl h0
  have lt0 : ∀ x ∈ p, x.block < W.heap.size := by
    obtain ⟨m, hm⟩ := h0
    exact DataW.trod_lt m _ _ _ hm
  have hb1 : l.length < 5864062014805 := by
    have := hB1.1
    simp only [reachBytes] at this
    omega
  have hb2 : r.length < 5864062014805 := by
    have := hB2.1
    simp only [reachBytes] at this
    omega
  clear hA0 hval0 hsz0 hsz
  obtain ⟨k, hk⟩ := Pure.RuleChecks id l r hb1 hb2
  refine (C.aumbrylaw06_RuleChecks.calls k id A c l B d r true W hl hc hr hd hk).mono fun e W' ⟨he, bel⟩ => ?_
  subst he
  have y0 := Below.trod C.laidOut (by kernel_rfl) (of_decide_eq_true (by kernel_rfl)) h0 bel lt0
  exact ⟨_, rfl, _, _, _, [], _, [], hW', trodAll_mk1 (shut_bool Tryd.underlying4 _), trodAll_mk1 y0, rfl, bel.frame _, fun h => by cases h⟩
theorem row : Rows.RuleChecksSaid :=
  OpenClaim.holds_of_wide 3 Tryd.f3 rfl rfl rfl rfl rfl rfl rfl ⟨rfl, rfl, rfl, rfl, rfl⟩ rfl rfl rfl rfl rfl (by kernel_rfl) Tryd.func3 (by kernel_rfl)
    (of_decide_eq_true (by kernel_rfl)) (by unfold Func.isWrapper; first | (rw [if_pos (by decide +kernel)]; kernel_rfl) | (rw [if_neg (by decide +kernel)]; exact ⟨rfl, rfl⟩))
    (fun os started H enc _ => lifted os started H enc)
theorem proved : Rows.RuleChecksCardSaid :=
  Claim7.holds_tied_plain_at .later [] [.data, .data, .data] true (true, "d7d3729d2d58240f662ab746c0667e5a7bf5c879bdf9c037e04c36a243ffaedc") true
    row (fun _ h => by cases h) (by kernel_rfl) (fun _ h => by cases h) ruleChecks_row_tie rfl ⟨rfl, rfl⟩ (by kernel_rfl) rfl
    (fun f fn hf hfn => by
      obtain rfl : f = 3 := Option.some.inj ((show Tryd.prog.funcNamed "aumbry/aumbrylaw06.RuleChecks" = some 3 by kernel_rfl).symm.trans hf) |>.symm
      obtain rfl : fn = Tryd.f3 := (Option.some.inj (Tryd.func3.symm.trans hfn)).symm
      exact ⟨by kernel_rfl, fun j t ht => by
        rw [Tryd.params3] at ht
        have hm : t ∈ [25] := by simpa using Array.mem_of_getElem? ht
        have hall : ([25].all fun u => !Tryd.prog.wantsStandIn u) = true := by kernel_rfl
        exact (show Tryd.prog.wantsStandIn t = false by simpa using List.all_eq_true.1 hall t hm)⟩)
    (by kernel_rfl)
#print axioms proved
end Go.Proofs.YtnkpcnnbeaomnaaDoor.ruleChecks
namespace Go.Proofs.YtnkpcnnbeaomnaaDoor
/-- The card, under a short name, for the claim. -/
theorem ruleChecks_card : Rows.RuleChecksCardSaid := ruleChecks.proved
end Go.Proofs.YtnkpcnnbeaomnaaDoor
end
