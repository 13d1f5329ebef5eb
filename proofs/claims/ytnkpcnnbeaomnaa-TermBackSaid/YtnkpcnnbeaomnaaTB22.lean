import Derived.Test.YtnkpcnnbeaomnaaTB12
import Derived.Test.YtnkpcnnbeaomnaaTB21
import Derived.Test.YtnkpcnnbeaomnaaTB6
import Derived.Deep.Slices
import Derived.ChangeSame
import Derived.SizedLaws
import Derived.Test.YtnkpcnnbeaomnaaRows
import Derived.WalkKit
import Derived.ProofKit
import Derived.OpenShut
import Derived.ShutString
import Derived.ChangeOld
import Derived.Below
import Derived.Carry

section
/- What is written is read as it was, and what is read is written as it was: the law's plain statement. -/
namespace Go.Proofs.Ytnkpcnnbeaomnaa.Pure
open Go.RowKit Go.Proofs.Ytnkpcnnbeaomnaa.C Go.Proofs.YtnkpcnnbeaomnaaW.PrintWords Go.Proofs.YtnkpcnnbeaomnaaW.PrintLast
set_option linter.unusedVariables false
set_option linter.unusedSimpArgs false

theorem copy_ev {t : List S28} (h : t.length < 5864062014805) : Ev (fun _ => aumbryref04_Copy.f t) t := ⟨0, fun k _ => by dsimp only; unfold aumbryref04_Copy.f; rw [if_pos (by simpa using h)]; rfl⟩
theorem part2 (s : ByteArray) : Ev (fun k => aumbrylaw04_TermBack.j0 k s) true := by
  obtain ⟨t, a, e, h1, h2, h3⟩ := parse_back s
  refine Ev.step (f := fun k => (term_Parse.f k s).bind fun bt295 => (if bt295.2.2 = 0 then ((term_Print.f k bt295.1).bind fun bt300 => (if bt300.2 = 0 then (some (bt300.1.toList == s.toList)) else (some false))) else (if (bt295.1.length : Int) = 0 then (if bt295.2.1 ≥ 0 then (some (decide (bt295.2.1 ≤ (s.size : Int)))) else (some false)) else (some false)))) (fun k => ?_) (Ev.bind h1 ?_)
  · simp only [aumbrylaw04_TermBack.j0]
  dsimp only
  by_cases he : e = 0
  · obtain ⟨T, rfl, hf, hl, rfl⟩ := h2 he
    simp only [if_pos he]
    refine Ev.bind (print_ok T hf hl) ?_
    simp only [if_true, beq_self_eq_true]
    exact Ev.now true
  · obtain ⟨rfl, ha, hb⟩ := h3 he
    simp only [if_neg he]
    refine Ev.congr (f := fun _ => some true) (fun k => ?_) (Ev.now _)
    rw [if_pos (by rfl), if_pos ha, decide_eq_true hb]
theorem TermBack (t : List S28) (s : ByteArray) (h : t.length < 5864062014805) : ∃ k, aumbrylaw04_TermBack.f k t s = some true := by
  refine Ev.rounds (r := true) ?_
  refine Ev.bind wakes_ev ?_
  simp only [if_true]
  refine Ev.bind (copy_ev h) ?_
  by_cases hc : chk t = 0
  · obtain ⟨T, rfl, hf, hl⟩ := tree_of_chk t hc
    refine Ev.bind (print_ok T hf hl) ?_
    simp only [if_true]
    refine Ev.bind (parse_of_tree T hf hl) ?_
    simp only [if_true]
    refine Ev.bind (same_ev _ (by omega)) ?_
    simp only [if_true]
    exact part2 s
  · refine Ev.bind (print_bad t hc) ?_
    simp only [if_neg hc]
    exact part2 s

end Go.Proofs.Ytnkpcnnbeaomnaa.Pure
end

section
/- An argument that can be read as data reads as a plain Lean value of its kind (strings, whole numbers, structs of two, slices of these), with the form's own bounds on its parts. -/
namespace Go.Proofs.Ytnkpcnnbeaomnaa.C
open Go.RowKit Go.ChangeShapes Go.WideShapes Go.Deep Go.Proofs.YtnkpcnnbeaomnaaW.PrintWords
set_option linter.unusedVariables false
set_option linter.unusedSimpArgs false

section
variable {H : Type} {enc : TypeId × Value → H} {P : Program} {w : World} {base : Nat} {spare : Nat → Bool} {held : Bool}

/-- What reads as data of type T is of kind d, and B holds of it. -/
def Opens (enc : TypeId × Value → H) (P : Program) (w : World) (base : Nat) (spare : Nat → Bool) (held : Bool) {α : Type} (d : Kd α) (T : TypeId) (B : α → Prop) : Prop :=
  ∀ fuel cs x, DataW.trod enc P w base spare held fuel T cs = some x → (∀ n ∈ x.1.weights P T, n ≤ reachBytes) → ∃ y, d.K w y cs ∧ B y

theorem opens_string {T : TypeId} (h : P.underlying T = some .string) : Opens enc P w base spare held Kd.string T (fun s => s.size ≤ reachBytes) := by
  intro fuel cs x hx hw
  obtain ⟨s, rfl, rfl, hs⟩ := DataW.trod_string h hx
  refine ⟨s, rfl, ?_⟩
  have := hw s.data.toList.length (by simp [DataW.weights])
  rwa [data_length] at this
theorem opens_int {T : TypeId} {k : IntKind} (h : P.underlying T = some (.int k)) : Opens enc P w base spare held (Kd.int k) T (fun n => (Lit.int k n).wf = true) := by
  intro fuel cs x hx hw
  obtain ⟨n, rfl, rfl, hs⟩ := DataW.trod_int h hx
  exact ⟨n, rfl, hs⟩
theorem opens_pair {α β : Type} {T : TypeId} {a : Kd α} {b : Kd β} {A : α → Prop} {B : β → Prop} {f0 f1 : Field} (h : P.underlying T = some (.struct #[f0, f1])) (hT : P.cellsOf T = P.cellsOf f0.type + P.cellsOf f1.type) (h0 : f0.offset = 0) (h1 : f1.offset = P.cellsOf f0.type)
    (ha : Opens enc P w base spare held a f0.type A) (hb : Opens enc P w base spare held b f1.type B) : Opens enc P w base spare held (Kd.pair a b) T (fun x => A x.1 ∧ B x.2) := by
  intro fuel cs x hx hw
  obtain ⟨y0, y1, n, rfl, hl, hy0, hy1⟩ := trod_struct2 h hx
  simp only [DataW.weights, h, List.map_cons, List.map_nil, DataW.weightsEach, List.append_nil, List.mem_append] at hw
  obtain ⟨z0, hz0, hA⟩ := ha _ _ _ hy0 (fun n hn => hw n (.inl hn))
  obtain ⟨z1, hz1, hB⟩ := hb _ _ _ hy1 (fun n hn => hw n (.inr hn))
  refine ⟨(z0, z1), ⟨_, _, ?_, hz0, hz1⟩, hA, hB⟩
  rw [h0, h1, List.drop_zero]
  have : (cs.drop (P.cellsOf f0.type)).take (P.cellsOf f1.type) = cs.drop (P.cellsOf f0.type) := List.take_of_length_le (by rw [List.length_drop]; omega)
  rw [this, List.take_append_drop]
theorem opens_iso {α β : Type} {T : TypeId} {d : Kd α} {A : α → Prop} (f : β → α) (g : α → β) (hfg : ∀ x, f (g x) = x) (h : Opens enc P w base spare held d T A) : Opens enc P w base spare held (Kd.iso d f) T (fun x => A (f x)) := by
  intro fuel cs x hx hw
  obtain ⟨y, hy, hA⟩ := h _ _ _ hx hw
  exact ⟨g y, by show d.K w (f (g y)) cs; rw [hfg]; exact hy, by show A (f (g y)); rw [hfg]; exact hA⟩

theorem mem_weightsAll {e : TypeId} : ∀ (l : List (DataW H)) (d : DataW H), d ∈ l → ∀ n ∈ d.weights P e, n ∈ DataW.weightsAll P e l
  | c :: r, d, hd, n, hn => by
    simp only [DataW.weightsAll, List.mem_append]
    rcases List.mem_cons.1 hd with rfl | hd
    · exact .inl hn
    · exact .inr (mem_weightsAll r d hd n hn)

theorem list_of {α : Type} {n : Nat} {p : Nat → α → Prop} (h : ∀ i, i < n → ∃ x, p i x) : ∃ l : List α, l.length = n ∧ ∀ i x, l[i]? = some x → p i x := by
  induction n with
  | zero => exact ⟨[], rfl, fun i x hx => by simp at hx⟩
  | succ n ih =>
    obtain ⟨l, hl, hp⟩ := ih (fun i hi => h i (by omega))
    obtain ⟨x, hx⟩ := h n (by omega)
    refine ⟨l ++ [x], by simp [hl], fun i y hy => ?_⟩
    by_cases hi : i < n
    · rw [List.getElem?_append_left (by omega)] at hy
      exact hp i y hy
    · have hi' : i = n := by
        have := (List.getElem?_eq_some_iff.1 hy).1
        simp at this
        omega
      subst hi'
      rw [List.getElem?_append_right (by omega), hl] at hy
      simp at hy
      subst hy
      exact hx

theorem opens_slice {α : Type} {T e : TypeId} {d : Kd α} {B : α → Prop} {bytes : Nat} (h : P.underlying T = some (.slice e)) (hsz : d.sz = P.cellsOf e) (hby : P.bytesOf e = bytes) (hd : Opens enc P w base spare held d e B) :
    Opens enc P w base spare held (Kd.slice e d) T (fun l => l.length * bytes ≤ reachBytes ∧ ∀ x ∈ l, B x) := by
  intro fuel cs x hx hw
  rcases open_slice h hx with ⟨rfl, rfl⟩ | ⟨a, len, cap, m, n, D, Pl, rfl, hb, hl, hm, hmm, rfl, hi⟩
  · exact ⟨[], ⟨none, 0, rfl, Nat.le_refl _, rfl, by simp, fun h => absurd h (by simp)⟩, by simp, fun x hx => by cases hx⟩
  · have hlm : len ≤ m := by rw [hmm]; split <;> omega
    simp only [DataW.weights, h, List.mem_cons, List.mem_append] at hw
    have hall : ∀ i, i < len → ∃ y, (∃ cs', w.cells? base (a.add (i * P.cellsOf e)) (P.cellsOf e) = some cs' ∧ d.K w y cs') ∧ B y := by
      intro i hil
      obtain ⟨cs', hc, ht⟩ := hi i (by omega)
      obtain ⟨y, hy, hB⟩ := hd _ _ _ ht (fun n hn => hw n (.inr (.inl (mem_weightsAll _ (D i) (List.mem_map.2 ⟨i, List.mem_range.2 hil, rfl⟩) n hn))))
      exact ⟨y, ⟨cs', hc, hy⟩, hB⟩
    obtain ⟨l, hll, hp⟩ := list_of hall
    have hlen : len * bytes ≤ reachBytes := by
      have := hw _ (.inl rfl)
      rw [hby] at this
      simp only [List.length_map, List.length_range] at this
      exact Nat.le_trans (Nat.mul_le_mul_right _ (by omega)) this
    refine ⟨l, ⟨some a, cap, by rw [hll], by omega, rfl, by simp only [maxLen] at hm; omega, fun _ => ⟨a, rfl, fun j p hj => ?_⟩⟩, by rw [hll]; exact hlen, fun x hx => ?_⟩
    · obtain ⟨⟨cs', hc, hK⟩, _⟩ := hp j p hj
      obtain ⟨_, hcl, hat⟩ := World.cells?_some hc
      refine ⟨cs', by rw [hsz]; exact hcl, hK, fun i u hu => ?_⟩
      have hil : i < P.cellsOf e := by
        have := (List.getElem?_eq_some_iff.1 hu).1
        omega
      rw [hsz, ← Go.Deep.add_add, hat i hil, hu]
    · obtain ⟨i, hi, rfl⟩ := List.getElem_of_mem hx
      exact (hp i _ (List.getElem?_eq_getElem hi)).2
end

section
variable {H : Type} {enc : TypeId × Value → H} {w : World} {base : Nat} {spare : Nat → Bool} {held : Bool}
theorem cells9 : Try.prog.cellsOf 9 = 1 := by kernel_rfl
theorem cells3 : Try.prog.cellsOf 3 = 1 := by kernel_rfl
theorem cells28 : Try.prog.cellsOf 28 = 2 := by kernel_rfl
theorem cells23 : Try.prog.cellsOf 23 = 1 := by kernel_rfl
theorem bytes28 : Try.prog.bytesOf 28 = 24 := by kernel_rfl
theorem bytes23 : Try.prog.bytesOf 23 = 24 := by kernel_rfl
def Bd28 (c : S28) : Prop := c.f0.size ≤ reachBytes ∧ (Lit.int .i64 c.f1).wf = true
def BdT (t : List S28) : Prop := t.length * 24 ≤ reachBytes ∧ ∀ c ∈ t, Bd28 c
def BdL (l : List (List S28)) : Prop := l.length * 24 ≤ reachBytes ∧ ∀ t ∈ l, BdT t
theorem opens28 : Opens enc Try.prog w base spare held k28 28 Bd28 :=
  opens_iso (fun x : S28 => (x.f0, x.f1)) (fun x => ⟨x.1, x.2⟩) (fun _ => rfl) (opens_pair Try.underlying28 (by rw [cells28, cells9, cells3]) rfl (by rw [cells9]) (opens_string Try.underlying9) (opens_int Try.underlying3))
theorem opens23 : Opens enc Try.prog w base spare held (Kd.slice 28 k28) 23 BdT := opens_slice Try.underlying23 (by rw [cells28]; rfl) bytes28 opens28
theorem opens48 : Opens enc Try.prog w base spare held (Kd.slice 23 (Kd.slice 28 k28)) 48 BdL := opens_slice Try.underlying48 (by rw [cells23]; rfl) bytes23 opens23

theorem open_any {α : Type} {d : Kd α} {T e : TypeId} {B : List α → Prop} {A : Option Addr} {n c : Nat} {x : DataW H} {ps : List MemPlace} {ts : List TypeId} {ds : List (DataW H)} {j : Nat} (ho : Opens enc Try.prog w base spare held (Kd.slice e d) T B)
    (hsz : (DataW.weightsEach Try.prog ts ds).all (· ≤ reachBytes) = true) (ht : ts[j]? = some T) (hd : ds[j]? = some x) (h : DataW.Trod enc Try.prog w base spare held T (.slice A n c) x ps) :
    ∃ l : List α, l.length = n ∧ n ≤ c ∧ d.C w A n l ∧ B l := by
  obtain ⟨fuel, hf⟩ := h
  obtain ⟨l, ⟨A', c', hv, hl, hC⟩, hB⟩ := ho _ _ _ hf (fun n hn => by
    have := List.all_eq_true.1 hsz _ (DataW.weights_mem_each ht hd n hn)
    simpa using this)
  simp [Value.cells] at hv
  obtain ⟨rfl, rfl, rfl⟩ := hv
  exact ⟨l, rfl, hl, hC, hB⟩
end
end Go.Proofs.Ytnkpcnnbeaomnaa.C
end

section
/- The row TermBack, out of its walk (C48), its plain law and the way an argument reads (HOpen). -/
namespace Go.Proofs.Ytnkpcnnbeaomnaa.termBack
open Go.ChangeShapes Go.WideShapes Go.ChangeAt Go.RowKit
open Go.ChangeMaps (open_string shut_string)
set_option linter.unusedVariables false
theorem own : ownKnob Try.prog.godebug = none := by kernel_rfl
theorem laidOut : laidOutB Try.prog = true := by kernel_rfl
set_option maxRecDepth 100000 in
theorem lifted (os : Os) (started : os.Started) (H : Type) (enc : TypeId × Value → H) :
    ReturnsInHanded {} Try.checked os 5 .any (Rows.termBackSpec.pre6 enc Try.prog Try.f5 Rows.termBackRow.domain false) (Rows.termBackSpec.post enc Try.prog Try.f5 false true false false) := by
  refine returnsInHanded_of_change_sized (C := Try.checked) own started (by kernel_rfl) Try.func5
    (ChangeSpec.witness6 (enc := enc) (C := Try.checked) false ⟨#[], #[.slice none 0 0, .string ByteArray.empty], []⟩ 8 (by kernel_rfl) (by kernel_rfl) (by kernel_rfl) (by kernel_rfl)) ?_
  intro W base args ds gs before hval0 hW hcnd hsz0 _
  have hsz : (DataW.weightsEach Try.prog (Try.f5.params.toList ++ Rows.termBackSpec.plain.varTypes Try.prog) (ds ++ gs)).all (· ≤ reachBytes) = true := hsz0
  have hval : ∀ (j : Nat) t v, Try.f5.params[j]? = some t → args[j]? = some v → Value.okWide Try.prog W .any base t v := hval0
  have hW' := hW
  obtain ⟨p, q, hA0, hV, rfl, hfz, hnd⟩ := hW
  have hA : DataW.TrodAll enc Try.prog W 0 (fun _ => true) true Try.f5.params.toList args.toList ds p := hA0
  rw [Try.params5] at hA hval hsz
  obtain ⟨v0, vs0, d0, ds0, p0, q0, hargs, rfl, rfl, h0, r0⟩ := trodAll_cons hA
  obtain ⟨v1, vs1, d1, ds1, p1, q1, rfl, rfl, rfl, h1, r1⟩ := trodAll_cons r0
  obtain ⟨rfl, rfl, rfl⟩ := trodAll_nil r1
  obtain rfl : args = #[v0, v1] := by cases args; simp_all
  obtain ⟨rfl, rfl⟩ := trodVars_none hV
  obtain ⟨A0, n0, c0, rfl⟩ := okWide_slice Try.underlying23 (hval 0 23 v0 rfl rfl)
  obtain ⟨a1, rfl, rfl, rfl, y1⟩ := open_string Try.underlying9 (hval 1 9 v1 rfl rfl) h1
  obtain ⟨l0, rfl, hc0, hr0, hB0⟩ := C.open_any C.opens23 hsz (j := 0) rfl rfl h0
  have lt0 : ∀ x ∈ p0, x.block < W.heap.size := by
    obtain ⟨m, hm⟩ := h0
    exact DataW.trod_lt m _ _ _ hm
  have hb : l0.length < 5864062014805 := by
    have := hB0.1
    simp only [reachBytes] at this
    omega
  clear hA0 hval0 hsz0 hsz
  obtain ⟨k, hk⟩ := Pure.TermBack l0 a1 hb
  refine (C.aumbrylaw04_TermBack.calls k A0 c0 l0 a1 true W hr0 hc0 hk).mono fun e W' ⟨he, bel⟩ => ?_
  subst he
  have y0 := Below.trod laidOut (by kernel_rfl) (of_decide_eq_true (by kernel_rfl)) h0 bel lt0
  exact ⟨_, rfl, _, _, _, [], _, [], hW', trodAll_mk1 (shut_bool Try.underlying4 _), (trodAll_cons_mk y0 (trodAll_cons_mk (shut_string Try.underlying9 y1) trodAll_mk0)), rfl, bel.frame _, fun h => by cases h⟩
theorem over : Rows.termBackRow.holds Try.pinned (OpenSpec.ofChange Rows.termBackSpec) :=
  OpenClaim.holds_of_wide 5 Try.f5 rfl rfl rfl rfl rfl rfl rfl ⟨rfl, rfl, rfl, rfl, rfl⟩ rfl rfl rfl rfl rfl (by kernel_rfl) Try.func5 (by kernel_rfl)
    (of_decide_eq_true (by kernel_rfl)) (by unfold Func.isWrapper; first | (rw [if_pos (by decide +kernel)]; kernel_rfl) | (rw [if_neg (by decide +kernel)]; exact ⟨rfl, rfl⟩))
    (fun os started H enc _ => lifted os started H enc)
theorem proved : Rows.TermBackSaid := over
#print axioms proved
end Go.Proofs.Ytnkpcnnbeaomnaa.termBack
namespace Go.Proofs.Ytnkpcnnbeaomnaa
/-- The row, under a short name, for the claim. -/
theorem termBack_holds : Rows.TermBackSaid := termBack.proved
end Go.Proofs.Ytnkpcnnbeaomnaa
end
