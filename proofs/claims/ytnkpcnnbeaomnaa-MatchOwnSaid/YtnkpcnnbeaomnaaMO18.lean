import Derived.Test.YtnkpcnnbeaomnaaMO14
import Derived.Test.YtnkpcnnbeaomnaaMO17
import Derived.Test.YtnkpcnnbeaomnaaMO6
import Derived.Deep.Slices
import Derived.ChangeSame
import Derived.SizedLaws
import Derived.Test.YtnkpcnnbeaomnaaRows
import Derived.WalkKit
import Derived.ProofKit
import Derived.OpenShut
import Derived.ShutString
import Derived.ChangeOld
import Derived.Below
import Derived.Carry

section
/- What is handed to match.Match and match.Fill stays, what is answered is new memory: the law's plain statement. -/
namespace Go.Proofs.Ytnkpcnnbeaomnaa.Pure
open Go.RowKit Go.Proofs.Ytnkpcnnbeaomnaa.C Go.Proofs.YtnkpcnnbeaomnaaW.PrintWords Go.Proofs.YtnkpcnnbeaomnaaW.PrintLast
set_option linter.unusedVariables false
set_option linter.unusedSimpArgs false

theorem seg_mid (pre x post : List S28) (a b : Int) (ha : a = pre.length) (hb : b = ((pre.length + x.length : Nat) : Int)) : ((pre ++ x ++ post).take b.toNat).drop a.toNat = x := by
  subst ha hb
  simp only [Int.toNat_natCast]
  rw [List.append_assoc, List.take_length_add_append, List.drop_append]
  simp
theorem firstErr_split {a b : List S28} (h : firstErr (a ++ b) = 0) : firstErr a = 0 ∧ firstErr b = 0 := by
  rw [firstErr_append] at h
  split at h
  · rename_i h0; exact ⟨h0, h⟩
  · rename_i h0; exact absurd h h0
theorem sameT_l0 (a : List S28) (hb : a.length ≤ 4611686018427387904) : ∀ d i : Nat, i + d = a.length → Ev (fun k => aumbryref04_Same.l0 k a a (a.length : Int) (i : Int)) true
  | 0, i, h => Ev.nxt 0 (fun k _ => by simp only [aumbryref04_Same.l0]; rw [if_neg (by omega)])
  | d + 1, i, h => by
    have hw : wrap64 ((i : Int) + 1) = ((i + 1 : Nat) : Int) := by unfold wrap64; omega
    refine Ev.step (f := fun k => aumbryref04_Same.l0 k a a (a.length : Int) ((i + 1 : Nat) : Int)) (fun k => ?_) (sameT_l0 a hb d (i + 1) (by omega))
    simp only [aumbryref04_Same.l0]
    rw [if_pos (by omega), if_pos (by omega), if_pos (by omega), if_pos (by omega), if_neg (by simp), hw]
theorem sameT_ev (a : List S28) (hb : a.length ≤ 4611686018427387904) : Ev (fun k => aumbryref04_Same.f k a a) true :=
  Ev.congr (fun k => by unfold aumbryref04_Same.f; rw [if_pos rfl]; rfl) (sameT_l0 a hb a.length 0 (by omega))
theorem wrap_up5 (n : Nat) (h : n ≤ 4611686018427387904) : wrap64 ((n : Int) + 1) = ((n + 1 : Nat) : Int) := by unfold wrap64; omega
theorem wakes5_at : aumbrylaw05_wakes.f 40 = some true := by kernel_rfl
theorem wakes5_ev : Ev (fun k => aumbrylaw05_wakes.f k) true := Ev.of (g := fun k => aumbrylaw05_wakes.f k) (fun k => aumbrylaw05_wakes.mono k) wakes5_at
theorem copy5 {t : List S28} (h : t.length < 5864062014805) : aumbryref04_Copy.f t = some t := by
  unfold aumbryref04_Copy.f; rw [if_pos (by simpa using h)]; rfl
theorem own5 {t : List S28} (h : t.length < 5864062014805) : aumbrylaw05_own.f t = some t := by
  unfold aumbrylaw05_own.f; rw [copy5 h]; rfl
theorem mem_T36 (l : List S36) (i : Nat) (h : i < l.length) : rd_T36 l i ∈ l := by
  unfold rd_T36
  rw [Int.toNat_natCast, List.getD_eq_getElem?_getD, List.getElem?_eq_getElem h]
  exact List.getElem_mem h
theorem take_T36 (l : List S36) (i : Nat) (h : i < l.length) : l.take (i + 1) = l.take i ++ [rd_T36 l i] := by
  rw [List.take_add_one]
  congr 1
  unfold rd_T36
  rw [Int.toNat_natCast, List.getD_eq_getElem?_getD, List.getElem?_eq_getElem h]
  rfl

theorem copyB (l : List S36) (hl : l.length < 3518437208883) (hq : ∀ x ∈ l, x.f1.length < 5864062014805) : ∀ (d i : Nat), i + d = l.length → Ev (fun k => aumbryref05_Copy.l0 k l (l.take i) (l.length : Int) (i : Int)) l
  | 0, i, h => by
    refine Ev.nxt 0 (fun k hk => ?_)
    simp only [aumbryref05_Copy.l0]
    rw [if_neg (by omega), List.take_of_length_le (by omega)]
  | d + 1, i, h => by
    have hm := hq _ (mem_T36 l i (by omega))
    obtain ⟨K2, ih⟩ := copyB l hl hq d (i + 1) (by omega)
    dsimp only at ih
    refine Ev.nxt K2 (fun k hk => ?_)
    simp only [aumbryref05_Copy.l0]
    rw [if_pos (by omega), if_pos (by omega), if_pos (by omega), copy5 hm, Option.bind_some, if_pos (by rw [List.length_take]; omega), wrap_up5 i (by omega)]
    have := ih k hk
    rw [take_T36 l i (by omega)] at this
    exact this
theorem sameB (l : List S36) (hl : l.length < 3518437208883) (hq : ∀ x ∈ l, x.f1.length < 5864062014805) : ∀ (d i : Nat), i + d = l.length → Ev (fun k => aumbryref05_Same.l0 k l l (l.length : Int) (i : Int)) true
  | 0, i, h => by
    refine Ev.nxt 0 (fun k hk => ?_)
    simp only [aumbryref05_Same.l0]
    rw [if_neg (by omega)]
  | d + 1, i, h => by
    have hm := hq _ (mem_T36 l i (by omega))
    obtain ⟨K1, hs⟩ := sameT_ev (rd_T36 l i).f1 (by omega)
    obtain ⟨K2, ih⟩ := sameB l hl hq d (i + 1) (by omega)
    dsimp only at ih hs
    refine Ev.nxt (max K1 K2) (fun k hk => ?_)
    simp only [aumbryref05_Same.l0]
    rw [if_pos (by omega), if_pos (by omega), if_pos (by omega), if_pos (by omega), if_pos trivial, hs k (by omega), Option.bind_some, if_pos rfl, wrap_up5 i (by omega)]
    exact ih k (by omega)
theorem sameB_ev (l : List S36) (hl : l.length < 3518437208883) (hq : ∀ x ∈ l, x.f1.length < 5864062014805) : Ev (fun k => aumbryref05_Same.f k l l) true :=
  Ev.congr (fun k => by unfold aumbryref05_Same.f; rw [if_pos rfl]; rfl) (sameB l hl hq l.length 0 (by omega))

/-! ### match.Match -/
theorem var_ev (n : ByteArray) (a : Int) : Ev (fun k => match_variable.f k n a) (kindOf n == 2) := by
  obtain ⟨K, h⟩ := kind_ev n
  dsimp only at h
  exact ⟨K, fun k hk => by dsimp only; unfold match_variable.f; rw [h k hk]; rfl⟩

mutual
theorem end_tree : ∀ (T : Tr) (pre post : List S28) (n : Nat) (r : Int), (pre ++ flat T ++ post).length ≤ 1000000 → tame (flat T) → n + (flat T).length ≤ 1000000 →
    Ev (fun k => match_end.l0 k (pre ++ flat T ++ post) ((pre.length + (flat T).length : Nat) : Int) (n : Int)) r → Ev (fun k => match_end.l0 k (pre ++ flat T ++ post) (pre.length : Int) ((n + 1 : Nat) : Int)) r
  | .node nm ks, pre, post, n, r, hl, ht, hn, h => by
    have e1 : pre ++ flat (.node nm ks) ++ post = (pre ++ [(⟨nm, ks.length⟩ : S28)]) ++ flatL ks ++ post := by simp [flat]
    have hc := ht (⟨nm, ks.length⟩ : S28) (by simp [flat])
    have hk : ks.length ≤ 4 := by have := hc.2; simp at this; omega
    have hlen : (flat (.node nm ks)).length = 1 + (flatL ks).length := by simp [flat]; omega
    have hl2 : ((pre ++ [(⟨nm, ks.length⟩ : S28)]) ++ flatL ks ++ post).length ≤ 1000000 := by rw [← e1]; exact hl
    have h2 := end_forest ks (pre ++ [(⟨nm, ks.length⟩ : S28)]) post n r hl2 (fun c hc => ht c (by simp [flat, hc])) (by omega) (by
      rw [← e1]
      rw [hlen] at h
      have e2 : (pre ++ [(⟨nm, ks.length⟩ : S28)]).length + (flatL ks).length = pre.length + (1 + (flatL ks).length) := by simp; omega
      rw [e2]; exact h)
    rw [← e1] at h2
    obtain ⟨K, h2⟩ := h2
    dsimp only at h2
    refine Ev.nxt K (fun k hk2 => ?_)
    have hr : rd_T28 (pre ++ flat (.node nm ks) ++ post) (pre.length : Int) = ⟨nm, ks.length⟩ := by
      have := rd_mid pre (flatL ks ++ post) ⟨nm, ks.length⟩
      rw [show pre ++ flat (.node nm ks) ++ post = pre ++ ⟨nm, ks.length⟩ :: (flatL ks ++ post) by simp [flat]]
      exact this
    simp only [match_end.l0]
    have hl3 : pre.length < (pre ++ flat (.node nm ks) ++ post).length := by simp [flat]
    rw [if_pos (by omega), if_pos (by omega), if_pos (by omega), hr]
    have := h2 k hk2
    have e3 : (pre ++ [(⟨nm, ks.length⟩ : S28)]).length = pre.length + 1 := by simp
    rw [e3] at this
    have e4 : wrap64 ((pre.length : Int) + 1) = ((pre.length + 1 : Nat) : Int) := wrap_up5 _ (by simp at hl; omega)
    have e5 : wrap64 (((n + 1 : Nat) : Int) + wrap64 ((ks.length : Int) - 1)) = ((n + ks.length : Nat) : Int) := by
      have : wrap64 ((ks.length : Int) - 1) = (ks.length : Int) - 1 := by unfold wrap64; omega
      rw [this]
      unfold wrap64; omega
    show match_end.l0 k _ (wrap64 ((pre.length : Int) + 1)) (wrap64 (((n + 1 : Nat) : Int) + wrap64 ((ks.length : Int) - 1))) = some r
    rw [e4, e5]
    exact this
theorem end_forest : ∀ (ks : List Tr) (pre post : List S28) (n : Nat) (r : Int), (pre ++ flatL ks ++ post).length ≤ 1000000 → tame (flatL ks) → n + (flatL ks).length ≤ 1000000 →
    Ev (fun k => match_end.l0 k (pre ++ flatL ks ++ post) ((pre.length + (flatL ks).length : Nat) : Int) (n : Int)) r → Ev (fun k => match_end.l0 k (pre ++ flatL ks ++ post) (pre.length : Int) ((n + ks.length : Nat) : Int)) r
  | [], pre, post, n, r, hl, ht, hn, h => by simpa [flatL] using h
  | T :: ks, pre, post, n, r, hl, ht, hn, h => by
    have hk := flatL_len ks
    have e1 : pre ++ flatL (T :: ks) ++ post = pre ++ flat T ++ (flatL ks ++ post) := by simp [flatL]
    have e2 : pre ++ flatL (T :: ks) ++ post = (pre ++ flat T) ++ flatL ks ++ post := by simp [flatL]
    have h3 := end_forest ks (pre ++ flat T) post n r (by rw [← e2]; exact hl) (fun c hc => ht c (by simp [flatL, hc])) (by simp [flatL] at hn; omega) (by
      rw [← e2]
      have e3 : (pre ++ flat T).length + (flatL ks).length = pre.length + (flatL (T :: ks)).length := by simp [flatL]; omega
      rw [e3]; exact h)
    have h4 := end_tree T pre (flatL ks ++ post) (n + ks.length) r (by rw [← e1]; exact hl) (fun c hc => ht c (by simp [flatL, hc])) (by simp [flatL] at hn; omega) (by
      rw [← e1, e2]
      have e3 : (pre ++ flat T).length = pre.length + (flat T).length := by simp
      rw [← e3]; exact h3)
    rw [← e1] at h4
    exact h4
end
theorem end_ev (T : Tr) (pre post : List S28) (hl : (pre ++ flat T ++ post).length ≤ 1000000) (ht : tame (flat T)) : Ev (fun k => match_end.f k (pre ++ flat T ++ post) (pre.length : Int)) ((pre.length + (flat T).length : Nat) : Int) :=
  end_tree T pre post 0 _ hl ht (by simp at hl; omega) (Ev.nxt 0 (fun k hk => by simp only [match_end.l0]; rw [if_neg (by omega)]))

theorem eqT_some (a b : List S28) (ha : a.length ≤ 1000000) (hab : a.length = b.length) : ∀ (d i : Nat), i + d = a.length → ∃ r, Ev (fun k => api_Cell_37.l0 k a b (a.length : Int) (i : Int)) r
  | 0, i, h => ⟨true, Ev.nxt 0 (fun k hk => by simp only [api_Cell_37.l0]; rw [if_neg (by omega)])⟩
  | d + 1, i, h => by
    by_cases c : (!((((rd_T28 a i).f0).toList) == (((rd_T28 b i).f0).toList)) || (!(((rd_T28 a i).f1) == ((rd_T28 b i).f1)))) = true
    · exact ⟨false, Ev.nxt 0 (fun k hk => by simp only [api_Cell_37.l0]; rw [if_pos (by omega), if_pos (by omega), if_pos (by omega), if_pos (by omega), if_pos c])⟩
    · obtain ⟨r, K, ih⟩ := eqT_some a b ha hab d (i + 1) (by omega)
      dsimp only at ih
      exact ⟨r, Ev.nxt K (fun k hk => by simp only [api_Cell_37.l0]; rw [if_pos (by omega), if_pos (by omega), if_pos (by omega), if_pos (by omega), if_neg c, wrap_up5 i (by omega)]; exact ih k hk)⟩
theorem eqT_ev (a b : List S28) (ha : a.length ≤ 1000000) : ∃ r, Ev (fun k => api_Cell_37.f k a b) r := by
  by_cases c : (a.length : Int) = (b.length : Int)
  · obtain ⟨r, K, h⟩ := eqT_some a b ha (by omega) a.length 0 (by omega)
    exact ⟨r, K, fun k hk => by dsimp only; unfold api_Cell_37.f; rw [if_pos c]; exact h k hk⟩
  · exact ⟨false, 0, fun k hk => by dsimp only; unfold api_Cell_37.f; rw [if_neg c]⟩

theorem size8 {n : ByteArray} (h : kindOf n ≠ 0) : n.size ≤ 8 := (name_signs n h).2.1

/-- What Match answers: binds, at most 64, each of at most 64 cells. -/
def Small (r : List S36 × Bool × Int) : Prop := r.1.length ≤ 64 ∧ ∀ b ∈ r.1, b.f1.length ≤ 64
theorem small_nil (b : Bool) (e : Int) : Small ([], b, e) := ⟨by simp, by simp⟩

theorem match_l0 : ∀ (d : Nat) (P T : List Tr) (pp pt : List S28) (out : List S36), (flatL P).length = d → P.length = T.length → fineL P → tame (flatL T) → (pp ++ flatL P).length ≤ 64 → (pt ++ flatL T).length ≤ 64 →
    out.length ≤ pp.length → (∀ b ∈ out, b.f1.length ≤ 64) →
    ∃ r, Ev (fun k => match_Match.l0 k (pt ++ flatL T) out (pt.length : Int) (pp ++ flatL P) ((pp ++ flatL P).length : Int) (pp.length : Int)) r ∧ Small r := by
  intro d
  induction d using Nat.strongRecOn with
  | _ d ih =>
    intro P T pp pt out hd hPT hf ht hlp hlt ho hob
    cases P with
    | nil =>
      refine ⟨(out, true, 0), Ev.nxt 0 (fun k hk => ?_), by dsimp only; rw [List.length_append] at hlp; omega, hob⟩
      simp only [match_Match.l0]
      rw [if_neg (by simp [flatL])]
    | cons p P =>
      cases T with
      | nil => simp at hPT
      | cons t T =>
        cases p with
        | node nm ks =>
        have hfp := hf.1
        have hfr := hf.2
        have hk0 := hfp.1
        have e1 : pp ++ flatL (.node nm ks :: P) = pp ++ ⟨nm, ks.length⟩ :: (flatL ks ++ flatL P) := by simp [flatL, flat]
        have hrp : rd_T28 (pp ++ flatL (.node nm ks :: P)) (pp.length : Int) = ⟨nm, ks.length⟩ := by rw [e1]; exact rd_mid pp _ _
        have hpos : (pp.length : Int) < ((pp ++ flatL (.node nm ks :: P)).length : Int) := by rw [e1]; simp; omega
        obtain ⟨Kv, hv⟩ := var_ev nm (ks.length : Int)
        dsimp only at hv
        have hfl : (flat t).length + (flatL T).length + pt.length ≤ 64 := by simp [flatL] at hlt; omega
        have htpos := flat_pos t
        have hppl : pp.length + 1 + (flatL ks).length + (flatL P).length ≤ 64 := by rw [e1] at hlp; simp at hlp; omega
        by_cases c2 : kindOf nm = 2
        · have hks := hfp.2.2.1 c2
          subst hks
          have tt : tame (flat t) := fun c hc => ht c (by simp [flatL, hc])
          have e2 : pt ++ flatL (t :: T) = pt ++ flat t ++ flatL T := by simp [flatL]
          obtain ⟨Ke, he⟩ := end_ev t pt (flatL T) (by simp; omega) tt
          dsimp only at he
          rw [← e2] at he
          have hcut : ((pt ++ flatL (t :: T)).take (((pt.length + (flat t).length : Nat) : Int)).toNat).drop ((pt.length : Int)).toNat = flat t := by
            rw [e2]; exact seg_mid pt (flat t) (flatL T) _ _ rfl rfl
          have e3 : pp ++ flatL (.node nm [] :: P) = (pp ++ [(⟨nm, 0⟩ : S28)]) ++ flatL P := by simp [flatL, flat]
          have e4 : pt ++ flatL (t :: T) = (pt ++ flat t) ++ flatL T := by simp [flatL]
          have hw : wrap64 ((pt.length : Int) + ((flat t).length : Int)) = (((pt ++ flat t).length : Nat) : Int) := by
            rw [List.length_append]; unfold wrap64; omega
          have hw2 : wrap64 ((pp.length : Int) + 1) = (((pp ++ [(⟨nm, 0⟩ : S28)]).length : Nat) : Int) := by
            rw [List.length_append]; simp; exact wrap_up5 _ (by omega)
          have next : ∀ out2 : List S36, out2.length ≤ pp.length + 1 → (∀ b ∈ out2, b.f1.length ≤ 64) →
              ∃ r, Ev (fun k => match_Match.l0 k (pt ++ flatL (t :: T)) out2 (wrap64 ((pt.length : Int) + ((flat t).length : Int))) (pp ++ flatL (.node nm [] :: P)) ((pp ++ flatL (.node nm [] :: P)).length : Int) (wrap64 ((pp.length : Int) + 1))) r ∧ Small r := by
            intro out2 h1 h2
            rw [hw, hw2, e3, e4]
            exact ih (flatL P).length (by rw [← hd]; simp [flatL, flat]) P T (pp ++ [(⟨nm, 0⟩ : S28)]) (pt ++ flat t) out2 rfl (by simpa using hPT) hfr (fun c hc => ht c (by simp [flatL, hc])) (by simp; omega) (by simp; omega) (by simpa using h1) h2
          by_cases c3 : bhas out nm = true
          · have hbf := bfind_lt c3
            obtain ⟨b, Kb, hb⟩ := eqT_ev (rd_T36 out (bfind out nm)).f1 (flat t) (by
              have hm := hob (rd_T36 out (bfind out nm)) (by
                have := mem_T36 out (bfind out nm).toNat (by omega)
                rwa [Int.toNat_of_nonneg hbf.1] at this)
              omega)
            dsimp only at hb
            obtain ⟨r, ⟨Kn, hn⟩, hs⟩ := next out (by omega) hob
            dsimp only at hn
            have first : ∀ k, max (max Kv Ke) Kb ≤ k → match_Match.l0 (k + 1) (pt ++ flatL (t :: T)) out (pt.length : Int) (pp ++ flatL (.node nm [] :: P)) ((pp ++ flatL (.node nm [] :: P)).length : Int) (pp.length : Int)
                = if b = true then match_Match.l0 k (pt ++ flatL (t :: T)) out (wrap64 ((pt.length : Int) + ((flat t).length : Int))) (pp ++ flatL (.node nm [] :: P)) ((pp ++ flatL (.node nm [] :: P)).length : Int) (wrap64 ((pp.length : Int) + 1)) else some ([], false, 0) := by
              intro k hk
              simp only [match_Match.l0]
              rw [if_pos hpos, if_pos (by omega), if_pos hpos, hrp]
              dsimp only
              rw [show ((([] : List Tr).length : Nat) : Int) = (([] : List Tr).length : Int) from rfl, hv k (by omega), Option.bind_some, if_pos (by rw [c2]; rfl), he k (by omega), Option.bind_some, if_pos (by omega), if_pos (by omega), if_pos (by rw [e2]; simp; omega), hcut, Option.bind_some, if_pos (size8 hk0), if_pos c3, if_pos hbf.1, if_pos hbf.2, hb k (by omega), Option.bind_some]
            cases b with
            | true => exact ⟨r, Ev.nxt (max (max (max Kv Ke) Kb) Kn) (fun k hk => by rw [first k (by omega), if_pos rfl]; exact hn k (by omega)), hs⟩
            | false => exact ⟨_, Ev.nxt (max (max Kv Ke) Kb) (fun k hk => by rw [first k (by omega), if_neg (by simp)]), small_nil _ _⟩
          · obtain ⟨r, ⟨Kn, hn⟩, hs⟩ := next (out ++ [⟨nm, flat t⟩]) (by simp; omega) (by
              intro b hb
              rcases List.mem_append.1 hb with hb | hb
              · exact hob b hb
              · rw [List.mem_singleton.1 hb]; dsimp only; omega)
            dsimp only at hn
            refine ⟨r, Ev.nxt (max (max Kv Ke) Kn) (fun k hk => ?_), hs⟩
            simp only [match_Match.l0]
            rw [if_pos hpos, if_pos (by omega), if_pos hpos, hrp]
            dsimp only
            rw [hv k (by omega), Option.bind_some, if_pos (by rw [c2]; rfl), he k (by omega), Option.bind_some, if_pos (by omega), if_pos (by omega), if_pos (by rw [e2]; simp; omega), hcut, Option.bind_some, if_pos (size8 hk0), if_neg c3, if_pos (by omega)]
            unfold clone_Term.f
            rw [if_pos (by omega), Option.bind_some]
            exact hn k (by omega)
        · cases t with
          | node nt kt =>
          have e2 : pt ++ flatL (.node nt kt :: T) = pt ++ ⟨nt, kt.length⟩ :: (flatL kt ++ flatL T) := by simp [flatL, flat]
          have hrt : rd_T28 (pt ++ flatL (.node nt kt :: T)) (pt.length : Int) = ⟨nt, kt.length⟩ := by rw [e2]; exact rd_mid pt _ _
          have hpt : (pt.length : Int) < ((pt ++ flatL (.node nt kt :: T)).length : Int) := by rw [e2]; simp; omega
          have first : ∀ k, Kv ≤ k → match_Match.l0 (k + 1) (pt ++ flatL (.node nt kt :: T)) out (pt.length : Int) (pp ++ flatL (.node nm ks :: P)) ((pp ++ flatL (.node nm ks :: P)).length : Int) (pp.length : Int)
              = if (!((nt.toList) == (nm.toList)) || (!((kt.length : Int) == (ks.length : Int)))) = true then some ([], false, 0) else match_Match.l0 k (pt ++ flatL (.node nt kt :: T)) out (wrap64 ((pt.length : Int) + 1)) (pp ++ flatL (.node nm ks :: P)) ((pp ++ flatL (.node nm ks :: P)).length : Int) (wrap64 ((pp.length : Int) + 1)) := by
            intro k hk
            simp only [match_Match.l0]
            rw [if_pos hpos, if_pos (by omega), if_pos hpos, hrp]
            dsimp only
            rw [hv k (by omega), Option.bind_some, if_neg (by simpa using c2), if_pos (by omega), if_pos hpt, hrt]
          by_cases c : (!((nt.toList) == (nm.toList)) || (!((kt.length : Int) == (ks.length : Int)))) = true
          · exact ⟨_, Ev.nxt Kv (fun k hk => by rw [first k hk, if_pos c]), small_nil _ _⟩
          · have hlen : kt.length = ks.length := by
              simp at c
              omega
            have e3 : pp ++ flatL (.node nm ks :: P) = (pp ++ [(⟨nm, ks.length⟩ : S28)]) ++ flatL (ks ++ P) := by simp [flatL, flat, flatL_append]
            have e4 : pt ++ flatL (.node nt kt :: T) = (pt ++ [(⟨nt, kt.length⟩ : S28)]) ++ flatL (kt ++ T) := by simp [flatL, flat, flatL_append]
            have fa : ∀ (a b : List Tr), fineL a → fineL b → fineL (a ++ b) := by
              intro a
              induction a with
              | nil => intro b _ hb; simpa using hb
              | cons x a iha => intro b ha hb; exact ⟨ha.1, iha b ha.2 hb⟩
            obtain ⟨r, ⟨Kn, hn⟩, hs⟩ := ih (flatL (ks ++ P)).length (by rw [← hd, flatL_append]; simp [flatL, flat]) (ks ++ P) (kt ++ T) (pp ++ [(⟨nm, ks.length⟩ : S28)]) (pt ++ [(⟨nt, kt.length⟩ : S28)]) out rfl (by simp at hPT ⊢; omega) (fa _ _ hfp.2.2.2 hfr)
              (fun c hc => ht c (by rw [flatL_append] at hc; simp [flatL, flat] at hc ⊢; rcases hc with hc | hc <;> simp [hc])) (by rw [← e3]; exact hlp) (by rw [← e4]; exact hlt) (by simp; omega) hob
            dsimp only at hn
            refine ⟨r, Ev.nxt (max Kv Kn) (fun k hk => ?_), hs⟩
            rw [first k (by omega), if_neg c, wrap_up5 _ (by omega), wrap_up5 _ (by omega), e3, e4]
            have := hn k (by omega)
            rw [show (pp ++ [(⟨nm, ks.length⟩ : S28)]).length = pp.length + 1 by simp, show (pt ++ [(⟨nt, kt.length⟩ : S28)]).length = pt.length + 1 by simp] at this
            exact this

theorem match_ev (p t : List S28) : ∃ r, Ev (fun k => match_Match.f k p t) r ∧ Small r := by
  obtain ⟨K1, h1⟩ := check_ev p
  obtain ⟨K2, h2⟩ := check_ev t
  dsimp only at h1 h2
  by_cases c1 : chk p = 0
  · by_cases c2 : chk t = 0
    · obtain ⟨P, rfl, hf, hl⟩ := tree_of_chk p c1
      obtain ⟨T, rfl, hg, hm⟩ := tree_of_chk t c2
      obtain ⟨r, ⟨K3, h3⟩, hs⟩ := match_l0 (flatL [P]).length [P] [T] [] [] [] rfl rfl ⟨hf, trivial⟩ (by simpa [flatL] using tame_flat _ (fine_to T hg)) (by simpa [flatL] using hl) (by simpa [flatL] using hm) (by simp) (by simp)
      simp only [flatL, List.nil_append, List.append_nil, List.length_nil] at h3
      refine ⟨r, ⟨max (max K1 K2) K3, fun k hk => ?_⟩, hs⟩
      dsimp only
      unfold match_Match.f
      rw [h1 k (by omega), Option.bind_some, if_pos c1, h2 k (by omega), Option.bind_some, if_pos c2]
      exact h3 k (by omega)
    · refine ⟨_, ⟨max K1 K2, fun k hk => ?_⟩, small_nil false (chk t)⟩
      dsimp only
      unfold match_Match.f
      rw [h1 k (by omega), Option.bind_some, if_pos c1, h2 k (by omega), Option.bind_some, if_neg c2]
  · refine ⟨_, ⟨K1, fun k hk => ?_⟩, small_nil false (chk p)⟩
    dsimp only
    unfold match_Match.f
    rw [h1 k (by omega), Option.bind_some, if_neg c1]

/-! ### match.Fill -/
theorem firstErr_rd : ∀ (t : List S28), firstErr t = 0 → ∀ i, i < t.length → kindOf (rd_T28 t i).f0 ≠ 0 := by
  intro t h i hi
  have h1 : firstErr (t.take i ++ rd_T28 t i :: t.drop (i + 1)) = 0 := by
    rw [← drop_rd t i hi, List.take_append_drop]; exact h
  have h2 := (firstErr_split h1).2
  have h3 := (firstErr_split (a := [rd_T28 t i]) (b := t.drop (i + 1)) (by simpa using h2)).1
  have h4 : cellErr ⟨(rd_T28 t i).f0, (rd_T28 t i).f1⟩ = 0 := by
    have h5 : firstErr [rd_T28 t i] = cellErr (rd_T28 t i) := by
      unfold firstErr
      split <;> simp_all [firstErr]
    rw [h5] at h3
    exact h3
  intro h0
  unfold cellErr at h4
  rw [if_pos h0] at h4
  cases h4
theorem chk_first {t : List S28} (h : chk t = 0) : firstErr t = 0 ∧ t.length ≤ 64 := by
  obtain ⟨T, rfl, hf, hl⟩ := tree_of_chk t h
  exact ⟨fine_to T hf, hl⟩

theorem fill_l1 (p : List S28) (l : List S36) (hp : firstErr p = 0) (hp64 : p.length ≤ 64) (hq : ∀ b ∈ l, b.f1.length ≤ 64) : ∀ (d i : Nat) (out : List S28), i + d = p.length → out.length ≤ 64 * i →
    ∃ r : List S28 × Int, Ev (fun k => match_Fill.l1 k l out p (p.length : Int) (i : Int)) r ∧ r.1.length ≤ 64
  | 0, i, out, h, ho => by
    by_cases c : (out.length : Int) > 64
    · exact ⟨([], 6), Ev.nxt 0 (fun k hk => by simp only [match_Fill.l1]; rw [if_neg (by omega), if_pos c]), by simp⟩
    · exact ⟨(out, 0), Ev.nxt 0 (fun k hk => by simp only [match_Fill.l1]; rw [if_neg (by omega), if_neg c]), by dsimp only; omega⟩
  | d + 1, i, out, h, ho => by
    have hk0 := firstErr_rd p hp i (by omega)
    obtain ⟨Kv, hv⟩ := var_ev (rd_T28 p i).f0 (rd_T28 p i).f1
    dsimp only at hv
    by_cases c2 : kindOf (rd_T28 p i).f0 = 2
    · by_cases c3 : bhas l (rd_T28 p i).f0 = true
      · have hbf := bfind_lt c3
        have hm := hq (rd_T36 l (bfind l (rd_T28 p i).f0)) (by
          have := mem_T36 l (bfind l (rd_T28 p i).f0).toNat (by omega)
          rwa [Int.toNat_of_nonneg hbf.1] at this)
        obtain ⟨r, ⟨K, ih⟩, hr⟩ := fill_l1 p l hp hp64 hq d (i + 1) (out ++ (rd_T36 l (bfind l (rd_T28 p i).f0)).f1) (by omega) (by rw [List.length_append]; omega)
        dsimp only at ih
        refine ⟨r, Ev.nxt (max Kv K) (fun k hk => ?_), hr⟩
        simp only [match_Fill.l1]
        rw [if_pos (by omega), if_pos (by omega), if_pos (by omega), if_pos (size8 hk0), hv k (by omega), Option.bind_some, if_pos (by rw [c2]; rfl), if_pos c3, if_pos hbf.1, if_pos hbf.2, if_pos (by omega), wrap_up5 i (by omega)]
        exact ih k (by omega)
      · refine ⟨([], 7), Ev.nxt Kv (fun k hk => ?_), by simp⟩
        simp only [match_Fill.l1]
        rw [if_pos (by omega), if_pos (by omega), if_pos (by omega), if_pos (size8 hk0), hv k (by omega), Option.bind_some, if_pos (by rw [c2]; rfl), if_neg c3]
    · obtain ⟨r, ⟨K, ih⟩, hr⟩ := fill_l1 p l hp hp64 hq d (i + 1) (out ++ [(⟨(rd_T28 p i).f0, (rd_T28 p i).f1⟩ : S28)]) (by omega) (by rw [List.length_append]; simp; omega)
      dsimp only at ih
      refine ⟨r, Ev.nxt (max Kv K) (fun k hk => ?_), hr⟩
      simp only [match_Fill.l1]
      rw [if_pos (by omega), if_pos (by omega), if_pos (by omega), if_pos (size8 hk0), hv k (by omega), Option.bind_some, if_neg (by simpa using c2), if_pos (by omega), wrap_up5 i (by omega)]
      exact ih k (by omega)

theorem fill_l0 (p : List S28) (l : List S36) (hp : firstErr p = 0) (hp64 : p.length ≤ 64) (hl : l.length < 3518437208800) : ∀ (d i : Nat), i + d = l.length → (∀ b ∈ l.take i, b.f1.length ≤ 64) →
    ∃ r : List S28 × Int, Ev (fun k => match_Fill.l0 k p l l (l.length : Int) (i : Int)) r ∧ r.1.length ≤ 64
  | 0, i, h, hq => by
    rw [List.take_of_length_le (by omega)] at hq
    obtain ⟨r, ⟨K, ih⟩, hr⟩ := fill_l1 p l hp hp64 hq p.length 0 [] (by omega) (by simp)
    dsimp only at ih
    refine ⟨r, Ev.nxt K (fun k hk => ?_), hr⟩
    simp only [match_Fill.l0]
    rw [if_neg (by omega)]
    exact ih k (by omega)
  | d + 1, i, h, hq => by
    obtain ⟨Kn, hn⟩ := kind_ev (rd_T36 l i).f0
    obtain ⟨Kc, hc⟩ := check_ev (rd_T36 l i).f1
    dsimp only at hn hc
    by_cases c2 : kindOf (rd_T36 l i).f0 = 2
    · have hs8 := size8 (n := (rd_T36 l i).f0) (by omega)
      by_cases c3 : bhas (List.take (Int.toNat (i : Int)) l) (rd_T36 l i).f0 = true
      · refine ⟨([], 9), Ev.nxt Kn (fun k hk => ?_), by simp⟩
        simp only [match_Fill.l0]
        rw [if_pos (by omega), if_pos (by omega), if_pos (by omega), hn k (by omega), Option.bind_some, if_pos c2, if_pos hs8, if_pos c3]
      · by_cases c4 : chk (rd_T36 l i).f1 = 0
        · obtain ⟨r, ⟨K, ih⟩, hr⟩ := fill_l0 p l hp hp64 hl d (i + 1) (by omega) (by
            intro b hb
            rw [take_T36 l i (by omega)] at hb
            rcases List.mem_append.1 hb with hb | hb
            · exact hq b hb
            · rw [List.mem_singleton.1 hb]; exact (chk_first c4).2)
          dsimp only at ih
          refine ⟨r, Ev.nxt (max (max Kn Kc) K) (fun k hk => ?_), hr⟩
          simp only [match_Fill.l0]
          rw [if_pos (by omega), if_pos (by omega), if_pos (by omega), hn k (by omega), Option.bind_some, if_pos c2, if_pos hs8, if_neg c3, hc k (by omega), Option.bind_some, if_pos c4, if_pos (by omega), wrap_up5 i (by omega)]
          exact ih k (by omega)
        · refine ⟨([], chk (rd_T36 l i).f1), Ev.nxt (max Kn Kc) (fun k hk => ?_), by simp⟩
          simp only [match_Fill.l0]
          rw [if_pos (by omega), if_pos (by omega), if_pos (by omega), hn k (by omega), Option.bind_some, if_pos c2, if_pos hs8, if_neg c3, hc k (by omega), Option.bind_some, if_neg c4]
    · refine ⟨([], 4), Ev.nxt Kn (fun k hk => ?_), by simp⟩
      simp only [match_Fill.l0]
      rw [if_pos (by omega), if_pos (by omega), if_pos (by omega), hn k (by omega), Option.bind_some, if_neg c2]

theorem fill_ev (p : List S28) (l : List S36) (hl : l.length < 3518437208800) : ∃ r : List S28 × Int, Ev (fun k => match_Fill.f k p l) r ∧ r.1.length ≤ 64 := by
  obtain ⟨K1, h1⟩ := check_ev p
  dsimp only at h1
  by_cases c1 : chk p = 0
  · obtain ⟨r, ⟨K, h⟩, hr⟩ := fill_l0 p l (chk_first c1).1 (chk_first c1).2 hl l.length 0 (by omega) (by simp)
    dsimp only at h
    refine ⟨r, ⟨max K1 K, fun k hk => ?_⟩, hr⟩
    dsimp only
    unfold match_Fill.f
    rw [h1 k (by omega), Option.bind_some, if_pos c1]
    exact h k (by omega)
  · refine ⟨([], chk p), ⟨K1, fun k hk => ?_⟩, by simp⟩
    dsimp only
    unfold match_Fill.f
    rw [h1 k (by omega), Option.bind_some, if_neg c1]

/-! ### what stands behind -/
theorem tail5 (p t : List S28) (l : List S36) (hp : p.length < 5864062014805) (ht : t.length < 5864062014805) (hl : l.length < 3518437208800) (hq : ∀ x ∈ l, x.f1.length < 5864062014805) :
    ∀ (n : Nat) (hn : n ≤ 4611686018427387904) (d i : Nat) (x13 : List S28), i + d = n → x13.length = n →
    Ev (fun k => aumbrylaw05_MatchOwn.l2 k p t l (p ++ [(⟨⟨#[107, 101, 101, 112]⟩, 0⟩ : S28)]) (t ++ [(⟨⟨#[107, 101, 101, 112]⟩, 0⟩ : S28)]) l x13 (n : Int) (i : Int)) true
  | n, hn, 0, i, x13, hd, h7 => by
    obtain ⟨K1, hs⟩ := sameT_ev p (by omega)
    obtain ⟨K2, hu⟩ := sameT_ev t (by omega)
    obtain ⟨K3, ha⟩ := sameB_ev l (by omega) hq
    dsimp only at hs hu ha
    refine Ev.nxt (max (max K1 K2) K3) (fun k hk => ?_)
    have e1 : ∀ q : List S28, (q ++ [(⟨⟨#[107, 101, 101, 112]⟩, 0⟩ : S28)]).take ((q.length : Int)).toNat = q := by intro q; simp
    have e2 : ∀ q : List S28, rd_T28 (q ++ [(⟨⟨#[107, 101, 101, 112]⟩, 0⟩ : S28)]) (q.length : Int) = ⟨⟨#[107, 101, 101, 112]⟩, 0⟩ := fun q => rd_mid q [] _
    simp only [aumbrylaw05_MatchOwn.l2]
    rw [if_neg (by omega), if_pos (by omega), if_pos (by simp; omega), e2 p, if_pos (by dsimp only; rw [ByteArray.toList_eq]), if_pos (by omega), if_pos (by simp; omega), e2 t, if_pos (by dsimp only; rw [ByteArray.toList_eq]), if_pos (by simp; omega), e1 p, hs k (by omega), Option.bind_some, if_pos rfl, if_pos (by simp; omega), e1 t, hu k (by omega), Option.bind_some, if_pos rfl, ha k (by omega)]
    rfl
  | n, hn, d + 1, i, x13, hd, h7 => by
    obtain ⟨K, ih⟩ := tail5 p t l hp ht hl hq n hn d (i + 1) (x13.set i ⟨⟨#[120]⟩, (rd_T28 x13 (i : Int)).f1⟩) (by omega) (by rw [List.length_set]; exact h7)
    dsimp only at ih
    refine Ev.nxt K (fun k hk => ?_)
    simp only [aumbrylaw05_MatchOwn.l2]
    rw [if_pos (by omega), if_pos (by omega), if_pos (by omega), wrap_up5 i (by omega), Int.toNat_natCast]
    exact ih k hk

theorem len_set5 (x : List S36) (i j : Nat) (c : S28) (hi : i < x.length) (m : Nat) (hm : (rd_T36 x (i : Int)).f1.length = m) : (rd_T36 (x.set i (⟨(rd_T36 x (i : Int)).f0, (rd_T36 x (i : Int)).f1.set j c⟩ : S36)) (i : Int)).f1.length = m := by
  simp only [rd_T36, Int.toNat_natCast, List.getD_eq_getElem?_getD] at hm ⊢
  rw [List.getElem?_set_self hi]
  simpa using hm
theorem all_set5 (x : List S36) (i j : Nat) (c : S28) (hi : i < x.length) (h : ∀ b ∈ x, b.f1.length ≤ 64) : ∀ b ∈ x.set i (⟨(rd_T36 x (i : Int)).f0, (rd_T36 x (i : Int)).f1.set j c⟩ : S36), b.f1.length ≤ 64 := by
  intro b hb
  rcases List.mem_or_eq_of_mem_set hb with hb | rfl
  · exact h b hb
  · dsimp only
    rw [List.length_set]
    exact h _ (mem_T36 x i hi)

theorem loop1_5 (p t : List S28) (l : List S36) (x7 x8 : List S28) (x9 : List S36) (x13 : List S28) (n : Nat) (i : Nat) (hi : i < n) (hn : n ≤ 4611686018427387904)
    (cont : ∀ x10 : List S36, x10.length = n → (∀ b ∈ x10, b.f1.length ≤ 64) → Ev (fun k => aumbrylaw05_MatchOwn.l0 k p t l x7 x8 x9 x10 x13 (n : Int) ((i + 1 : Nat) : Int)) true) :
    ∀ (d j m : Nat) (x10 : List S36), j + d = m → x10.length = n → (∀ b ∈ x10, b.f1.length ≤ 64) → (rd_T36 x10 (i : Int)).f1.length = m → Ev (fun k => aumbrylaw05_MatchOwn.l1 k p t l x7 x8 x9 x10 x13 (i : Int) (n : Int) (i : Int) (m : Int) (j : Int)) true
  | 0, j, m, x10, hd, h7, hb, hm => by
    obtain ⟨K, hc⟩ := cont x10 h7 hb
    dsimp only at hc
    refine Ev.nxt K (fun k hk => ?_)
    simp only [aumbrylaw05_MatchOwn.l1]
    rw [if_neg (by omega), wrap_up5 i (by omega)]
    exact hc k hk
  | d + 1, j, m, x10, hd, h7, hb, hm => by
    have hmb := hb _ (mem_T36 x10 i (by omega))
    obtain ⟨K, ih⟩ := loop1_5 p t l x7 x8 x9 x13 n i hi hn cont d (j + 1) m (x10.set i (⟨(rd_T36 x10 (i : Int)).f0, (rd_T36 x10 (i : Int)).f1.set j ⟨⟨#[120]⟩, (rd_T28 (rd_T36 x10 (i : Int)).f1 (j : Int)).f1⟩⟩ : S36)) (by omega) (by rw [List.length_set]; exact h7) (all_set5 x10 i j _ (by omega) hb) (len_set5 x10 i j _ (by omega) m hm)
    dsimp only at ih
    refine Ev.nxt K (fun k hk => ?_)
    simp only [aumbrylaw05_MatchOwn.l1]
    rw [if_pos (by omega), if_pos (by omega), if_pos (by omega), if_pos (by omega), if_pos (by omega), wrap_up5 j (by omega), Int.toNat_natCast, Int.toNat_natCast]
    exact ih k hk

theorem loop0_5 (p t : List S28) (l : List S36) (x7 x8 : List S28) (x9 : List S36) (x13 : List S28) (n : Nat) (hn : n ≤ 4611686018427387904)
    (fin : Ev (fun k => aumbrylaw05_MatchOwn.l2 k p t l x7 x8 x9 x13 (x13.length : Int) 0) true) :
    ∀ (d i : Nat) (x10 : List S36), i + d = n → x10.length = n → (∀ b ∈ x10, b.f1.length ≤ 64) → Ev (fun k => aumbrylaw05_MatchOwn.l0 k p t l x7 x8 x9 x10 x13 (n : Int) (i : Int)) true
  | 0, i, x10, hd, h7, hb => by
    obtain ⟨K, hc⟩ := fin
    dsimp only at hc
    refine Ev.nxt K (fun k hk => ?_)
    simp only [aumbrylaw05_MatchOwn.l0]
    rw [if_neg (by omega)]
    exact hc k hk
  | d + 1, i, x10, hd, h7, hb => by
    obtain ⟨K, hc⟩ := loop1_5 p t l x7 x8 x9 x13 n i (by omega) hn (fun y hy hby => loop0_5 p t l x7 x8 x9 x13 n hn fin d (i + 1) y (by omega) hy hby) (rd_T36 x10 (i : Int)).f1.length 0 _ x10 (by omega) h7 hb rfl
    dsimp only at hc
    refine Ev.nxt K (fun k hk => ?_)
    simp only [aumbrylaw05_MatchOwn.l0]
    rw [if_pos (by omega), if_pos (by omega), if_pos (by omega)]
    exact hc k hk

theorem MatchOwn (p t : List S28) (l : List S36) (hp : p.length < 5864062014805) (ht : t.length < 5864062014805) (hl : l.length < 3518437208800) (hq : ∀ x ∈ l, x.f1.length < 5864062014805) : ∃ k, aumbrylaw05_MatchOwn.f k p t l = some true := by
  obtain ⟨K1, h1⟩ := wakes5_ev
  obtain ⟨K2, h2⟩ := (show Ev (fun k => aumbryref05_Copy.f k l) l from Ev.congr (fun k => by unfold aumbryref05_Copy.f; rfl) (copyB l (by omega) hq l.length 0 (by omega)))
  obtain ⟨a, ⟨K3, h3⟩, ha⟩ := match_ev p t
  obtain ⟨u, ⟨K4, h4⟩, hu⟩ := fill_ev p l hl
  obtain ⟨K5, h5⟩ := loop0_5 p t l (p ++ [(⟨⟨#[107, 101, 101, 112]⟩, 0⟩ : S28)]) (t ++ [(⟨⟨#[107, 101, 101, 112]⟩, 0⟩ : S28)]) l u.1 a.1.length (by have := ha.1; omega)
    (tail5 p t l hp ht hl hq u.1.length (by omega) u.1.length 0 u.1 (by omega) rfl) a.1.length 0 a.1 (by omega) rfl ha.2
  dsimp only at h1 h2 h3 h4 h5
  refine ⟨max (max (max K1 K2) (max K3 K4)) K5, ?_⟩
  generalize hk : max (max (max K1 K2) (max K3 K4)) K5 = k
  have e1 : ∀ q : List S28, (q ++ [(⟨⟨#[107, 101, 101, 112]⟩, 0⟩ : S28)]).take ((q.length : Int)).toNat = q := by intro q; simp
  unfold aumbrylaw05_MatchOwn.f
  rw [h1 k (by omega), Option.bind_some, if_pos rfl, own5 hp, Option.bind_some, if_pos hp, Option.bind_some, own5 ht, Option.bind_some, if_pos ht, Option.bind_some, h2 k (by omega), Option.bind_some, if_pos (by omega), if_pos (by simp; omega), if_pos (by omega), if_pos (by simp; omega), e1 p, e1 t, h3 k (by omega), Option.bind_some, h4 k (by omega), Option.bind_some]
  exact h5 k (by omega)
end Go.Proofs.Ytnkpcnnbeaomnaa.Pure
end

section
/- An argument that can be read as data reads as a plain Lean value of its kind (strings, whole numbers, structs of two, slices of these), with the form's own bounds on its parts. -/
namespace Go.Proofs.Ytnkpcnnbeaomnaa.C
open Go.RowKit Go.ChangeShapes Go.WideShapes Go.Deep Go.Proofs.YtnkpcnnbeaomnaaW.PrintWords
set_option linter.unusedVariables false
set_option linter.unusedSimpArgs false

section
variable {H : Type} {enc : TypeId × Value → H} {P : Program} {w : World} {base : Nat} {spare : Nat → Bool} {held : Bool}

/-- What reads as data of type T is of kind d, and B holds of it. -/
def Opens (enc : TypeId × Value → H) (P : Program) (w : World) (base : Nat) (spare : Nat → Bool) (held : Bool) {α : Type} (d : Kd α) (T : TypeId) (B : α → Prop) : Prop :=
  ∀ fuel cs x, DataW.trod enc P w base spare held fuel T cs = some x → (∀ n ∈ x.1.weights P T, n ≤ reachBytes) → ∃ y, d.K w y cs ∧ B y

theorem opens_string {T : TypeId} (h : P.underlying T = some .string) : Opens enc P w base spare held Kd.string T (fun s => s.size ≤ reachBytes) := by
  intro fuel cs x hx hw
  obtain ⟨s, rfl, rfl, hs⟩ := DataW.trod_string h hx
  refine ⟨s, rfl, ?_⟩
  have := hw s.data.toList.length (by simp [DataW.weights])
  rwa [data_length] at this
theorem opens_int {T : TypeId} {k : IntKind} (h : P.underlying T = some (.int k)) : Opens enc P w base spare held (Kd.int k) T (fun n => (Lit.int k n).wf = true) := by
  intro fuel cs x hx hw
  obtain ⟨n, rfl, rfl, hs⟩ := DataW.trod_int h hx
  exact ⟨n, rfl, hs⟩
theorem opens_pair {α β : Type} {T : TypeId} {a : Kd α} {b : Kd β} {A : α → Prop} {B : β → Prop} {f0 f1 : Field} (h : P.underlying T = some (.struct #[f0, f1])) (hT : P.cellsOf T = P.cellsOf f0.type + P.cellsOf f1.type) (h0 : f0.offset = 0) (h1 : f1.offset = P.cellsOf f0.type)
    (ha : Opens enc P w base spare held a f0.type A) (hb : Opens enc P w base spare held b f1.type B) : Opens enc P w base spare held (Kd.pair a b) T (fun x => A x.1 ∧ B x.2) := by
  intro fuel cs x hx hw
  obtain ⟨y0, y1, n, rfl, hl, hy0, hy1⟩ := trod_struct2 h hx
  simp only [DataW.weights, h, List.map_cons, List.map_nil, DataW.weightsEach, List.append_nil, List.mem_append] at hw
  obtain ⟨z0, hz0, hA⟩ := ha _ _ _ hy0 (fun n hn => hw n (.inl hn))
  obtain ⟨z1, hz1, hB⟩ := hb _ _ _ hy1 (fun n hn => hw n (.inr hn))
  refine ⟨(z0, z1), ⟨_, _, ?_, hz0, hz1⟩, hA, hB⟩
  rw [h0, h1, List.drop_zero]
  have : (cs.drop (P.cellsOf f0.type)).take (P.cellsOf f1.type) = cs.drop (P.cellsOf f0.type) := List.take_of_length_le (by rw [List.length_drop]; omega)
  rw [this, List.take_append_drop]
theorem opens_iso {α β : Type} {T : TypeId} {d : Kd α} {A : α → Prop} (f : β → α) (g : α → β) (hfg : ∀ x, f (g x) = x) (h : Opens enc P w base spare held d T A) : Opens enc P w base spare held (Kd.iso d f) T (fun x => A (f x)) := by
  intro fuel cs x hx hw
  obtain ⟨y, hy, hA⟩ := h _ _ _ hx hw
  exact ⟨g y, by show d.K w (f (g y)) cs; rw [hfg]; exact hy, by show A (f (g y)); rw [hfg]; exact hA⟩

theorem mem_weightsAll {e : TypeId} : ∀ (l : List (DataW H)) (d : DataW H), d ∈ l → ∀ n ∈ d.weights P e, n ∈ DataW.weightsAll P e l
  | c :: r, d, hd, n, hn => by
    simp only [DataW.weightsAll, List.mem_append]
    rcases List.mem_cons.1 hd with rfl | hd
    · exact .inl hn
    · exact .inr (mem_weightsAll r d hd n hn)

theorem list_of {α : Type} {n : Nat} {p : Nat → α → Prop} (h : ∀ i, i < n → ∃ x, p i x) : ∃ l : List α, l.length = n ∧ ∀ i x, l[i]? = some x → p i x := by
  induction n with
  | zero => exact ⟨[], rfl, fun i x hx => by simp at hx⟩
  | succ n ih =>
    obtain ⟨l, hl, hp⟩ := ih (fun i hi => h i (by omega))
    obtain ⟨x, hx⟩ := h n (by omega)
    refine ⟨l ++ [x], by simp [hl], fun i y hy => ?_⟩
    by_cases hi : i < n
    · rw [List.getElem?_append_left (by omega)] at hy
      exact hp i y hy
    · have hi' : i = n := by
        have := (List.getElem?_eq_some_iff.1 hy).1
        simp at this
        omega
      subst hi'
      rw [List.getElem?_append_right (by omega), hl] at hy
      simp at hy
      subst hy
      exact hx

theorem opens_slice {α : Type} {T e : TypeId} {d : Kd α} {B : α → Prop} {bytes : Nat} (h : P.underlying T = some (.slice e)) (hsz : d.sz = P.cellsOf e) (hby : P.bytesOf e = bytes) (hd : Opens enc P w base spare held d e B) :
    Opens enc P w base spare held (Kd.slice e d) T (fun l => l.length * bytes ≤ reachBytes ∧ ∀ x ∈ l, B x) := by
  intro fuel cs x hx hw
  rcases open_slice h hx with ⟨rfl, rfl⟩ | ⟨a, len, cap, m, n, D, Pl, rfl, hb, hl, hm, hmm, rfl, hi⟩
  · exact ⟨[], ⟨none, 0, rfl, Nat.le_refl _, rfl, by simp, fun h => absurd h (by simp)⟩, by simp, fun x hx => by cases hx⟩
  · have hlm : len ≤ m := by rw [hmm]; split <;> omega
    simp only [DataW.weights, h, List.mem_cons, List.mem_append] at hw
    have hall : ∀ i, i < len → ∃ y, (∃ cs', w.cells? base (a.add (i * P.cellsOf e)) (P.cellsOf e) = some cs' ∧ d.K w y cs') ∧ B y := by
      intro i hil
      obtain ⟨cs', hc, ht⟩ := hi i (by omega)
      obtain ⟨y, hy, hB⟩ := hd _ _ _ ht (fun n hn => hw n (.inr (.inl (mem_weightsAll _ (D i) (List.mem_map.2 ⟨i, List.mem_range.2 hil, rfl⟩) n hn))))
      exact ⟨y, ⟨cs', hc, hy⟩, hB⟩
    obtain ⟨l, hll, hp⟩ := list_of hall
    have hlen : len * bytes ≤ reachBytes := by
      have := hw _ (.inl rfl)
      rw [hby] at this
      simp only [List.length_map, List.length_range] at this
      exact Nat.le_trans (Nat.mul_le_mul_right _ (by omega)) this
    refine ⟨l, ⟨some a, cap, by rw [hll], by omega, rfl, by simp only [maxLen] at hm; omega, fun _ => ⟨a, rfl, fun j p hj => ?_⟩⟩, by rw [hll]; exact hlen, fun x hx => ?_⟩
    · obtain ⟨⟨cs', hc, hK⟩, _⟩ := hp j p hj
      obtain ⟨_, hcl, hat⟩ := World.cells?_some hc
      refine ⟨cs', by rw [hsz]; exact hcl, hK, fun i u hu => ?_⟩
      have hil : i < P.cellsOf e := by
        have := (List.getElem?_eq_some_iff.1 hu).1
        omega
      rw [hsz, ← Go.Deep.add_add, hat i hil, hu]
    · obtain ⟨i, hi, rfl⟩ := List.getElem_of_mem hx
      exact (hp i _ (List.getElem?_eq_getElem hi)).2
end

section
variable {H : Type} {enc : TypeId × Value → H} {w : World} {base : Nat} {spare : Nat → Bool} {held : Bool}
theorem cells9 : Try.prog.cellsOf 9 = 1 := by kernel_rfl
theorem cells3 : Try.prog.cellsOf 3 = 1 := by kernel_rfl
theorem cells28 : Try.prog.cellsOf 28 = 2 := by kernel_rfl
theorem cells23 : Try.prog.cellsOf 23 = 1 := by kernel_rfl
theorem bytes28 : Try.prog.bytesOf 28 = 24 := by kernel_rfl
theorem bytes23 : Try.prog.bytesOf 23 = 24 := by kernel_rfl
def Bd28 (c : S28) : Prop := c.f0.size ≤ reachBytes ∧ (Lit.int .i64 c.f1).wf = true
def BdT (t : List S28) : Prop := t.length * 24 ≤ reachBytes ∧ ∀ c ∈ t, Bd28 c
def BdL (l : List (List S28)) : Prop := l.length * 24 ≤ reachBytes ∧ ∀ t ∈ l, BdT t
theorem opens28 : Opens enc Try.prog w base spare held k28 28 Bd28 :=
  opens_iso (fun x : S28 => (x.f0, x.f1)) (fun x => ⟨x.1, x.2⟩) (fun _ => rfl) (opens_pair Try.underlying28 (by rw [cells28, cells9, cells3]) rfl (by rw [cells9]) (opens_string Try.underlying9) (opens_int Try.underlying3))
theorem opens23 : Opens enc Try.prog w base spare held (Kd.slice 28 k28) 23 BdT := opens_slice Try.underlying23 (by rw [cells28]; rfl) bytes28 opens28
theorem opens48 : Opens enc Try.prog w base spare held (Kd.slice 23 (Kd.slice 28 k28)) 48 BdL := opens_slice Try.underlying48 (by rw [cells23]; rfl) bytes23 opens23

theorem open_any {α : Type} {d : Kd α} {T e : TypeId} {B : List α → Prop} {A : Option Addr} {n c : Nat} {x : DataW H} {ps : List MemPlace} {ts : List TypeId} {ds : List (DataW H)} {j : Nat} (ho : Opens enc Try.prog w base spare held (Kd.slice e d) T B)
    (hsz : (DataW.weightsEach Try.prog ts ds).all (· ≤ reachBytes) = true) (ht : ts[j]? = some T) (hd : ds[j]? = some x) (h : DataW.Trod enc Try.prog w base spare held T (.slice A n c) x ps) :
    ∃ l : List α, l.length = n ∧ n ≤ c ∧ d.C w A n l ∧ B l := by
  obtain ⟨fuel, hf⟩ := h
  obtain ⟨l, ⟨A', c', hv, hl, hC⟩, hB⟩ := ho _ _ _ hf (fun n hn => by
    have := List.all_eq_true.1 hsz _ (DataW.weights_mem_each ht hd n hn)
    simpa using this)
  simp [Value.cells] at hv
  obtain ⟨rfl, rfl, rfl⟩ := hv
  exact ⟨l, rfl, hl, hC, hB⟩
end
end Go.Proofs.Ytnkpcnnbeaomnaa.C
end

section
/- The row MatchOwn, out of its walk (HMatchOwn), its plain law and the way an argument reads (HOpen). -/
namespace Go.Proofs.Ytnkpcnnbeaomnaa.matchOwn
open Go.ChangeShapes Go.WideShapes Go.ChangeAt Go.RowKit Go.Proofs.YtnkpcnnbeaomnaaW.PrintWords
open Go.ChangeMaps (open_string shut_string)
set_option linter.unusedVariables false
section
variable {H : Type} {enc : TypeId × Value → H} {w : World} {base : Nat} {spare : Nat → Bool} {held : Bool}
theorem cells36 : Try.prog.cellsOf 36 = 2 := by kernel_rfl
theorem bytes36 : Try.prog.bytesOf 36 = 40 := by kernel_rfl
def Bd36 (c : C.S36) : Prop := c.f0.size ≤ reachBytes ∧ C.BdT c.f1
def BdB (t : List C.S36) : Prop := t.length * 40 ≤ reachBytes ∧ ∀ c ∈ t, Bd36 c
theorem opens36 : C.Opens enc Try.prog w base spare held C.k36 36 Bd36 :=
  C.opens_iso (fun x : C.S36 => (x.f0, x.f1)) (fun x => ⟨x.1, x.2⟩) (fun _ => rfl) (C.opens_pair Try.underlying36 (by rw [cells36, C.cells9, C.cells23]) rfl (by rw [C.cells9]) (C.opens_string Try.underlying9) C.opens23)
theorem opens24 : C.Opens enc Try.prog w base spare held (Kd.slice 36 C.k36) 24 BdB := C.opens_slice Try.underlying24 (by rw [cells36]; rfl) bytes36 opens36
end
theorem own : ownKnob Try.prog.godebug = none := by kernel_rfl
theorem laidOut : laidOutB Try.prog = true := by kernel_rfl
set_option maxRecDepth 100000 in
theorem lifted (os : Os) (started : os.Started) (H : Type) (enc : TypeId × Value → H) :
    ReturnsInHanded {} Try.checked os 3 .any (Rows.matchOwnSpec.pre6 enc Try.prog Try.f3 Rows.matchOwnRow.domain false) (Rows.matchOwnSpec.post enc Try.prog Try.f3 false true false false) := by
  refine returnsInHanded_of_change_sized (C := Try.checked) own started (by kernel_rfl) Try.func3
    (ChangeSpec.witness6 (enc := enc) (C := Try.checked) false ⟨#[], #[.slice none 0 0, .slice none 0 0, .slice none 0 0], []⟩ 8 (by kernel_rfl) (by kernel_rfl) (by kernel_rfl) (by kernel_rfl)) ?_
  intro W base args ds gs before hval0 hW hcnd hsz0 _
  have hsz : (DataW.weightsEach Try.prog (Try.f3.params.toList ++ Rows.matchOwnSpec.plain.varTypes Try.prog) (ds ++ gs)).all (· ≤ reachBytes) = true := hsz0
  have hval : ∀ (j : Nat) t v, Try.f3.params[j]? = some t → args[j]? = some v → Value.okWide Try.prog W .any base t v := hval0
  have hW' := hW
  obtain ⟨p, q, hA0, hV, rfl, hfz, hnd⟩ := hW
  have hA : DataW.TrodAll enc Try.prog W 0 (fun _ => true) true Try.f3.params.toList args.toList ds p := hA0
  rw [Try.params3] at hA hval hsz
  obtain ⟨v0, vs0, d0, ds0, p0, q0, hargs, rfl, rfl, h0, r0⟩ := trodAll_cons hA
  obtain ⟨v1, vs1, d1, ds1, p1, q1, rfl, rfl, rfl, h1, r1⟩ := trodAll_cons r0
  obtain ⟨v2, vs2, d2, ds2, p2, q2, rfl, rfl, rfl, h2, r2⟩ := trodAll_cons r1
  obtain ⟨rfl, rfl, rfl⟩ := trodAll_nil r2
  obtain rfl : args = #[v0, v1, v2] := by cases args; simp_all
  obtain ⟨rfl, rfl⟩ := trodVars_none hV
  obtain ⟨A0, n0, c0, rfl⟩ := okWide_slice Try.underlying23 (hval 0 23 v0 rfl rfl)
  obtain ⟨A1, n1, c1, rfl⟩ := okWide_slice Try.underlying23 (hval 1 23 v1 rfl rfl)
  obtain ⟨A2, n2, c2, rfl⟩ := okWide_slice Try.underlying24 (hval 2 24 v2 rfl rfl)
  obtain ⟨l0, rfl, hc0, hr0, hB0⟩ := C.open_any C.opens23 hsz (j := 0) rfl rfl h0
  obtain ⟨l1, rfl, hc1, hr1, hB1⟩ := C.open_any C.opens23 hsz (j := 1) rfl rfl h1
  obtain ⟨l2, rfl, hc2, hr2, hB2⟩ := C.open_any opens24 hsz (j := 2) rfl rfl h2
  have lt0 : ∀ x ∈ p0, x.block < W.heap.size := by
    obtain ⟨m, hm⟩ := h0
    exact DataW.trod_lt m _ _ _ hm
  have lt1 : ∀ x ∈ p1, x.block < W.heap.size := by
    obtain ⟨m, hm⟩ := h1
    exact DataW.trod_lt m _ _ _ hm
  have lt2 : ∀ x ∈ p2, x.block < W.heap.size := by
    obtain ⟨m, hm⟩ := h2
    exact DataW.trod_lt m _ _ _ hm
  have hb0 : l0.length < 5864062014805 := by
    have := hB0.1
    simp only [reachBytes] at this
    omega
  have hb1 : l1.length < 5864062014805 := by
    have := hB1.1
    simp only [reachBytes] at this
    omega
  have hb2 : l2.length < 3518437208800 := by
    have := hB2.1
    simp only [reachBytes] at this
    omega
  have hb3 : ∀ x ∈ l2, x.f1.length < 5864062014805 := fun x hx => by
    have := (hB2.2 x hx).2.1
    simp only [reachBytes] at this
    omega
  clear hA0 hval0 hsz0 hsz
  obtain ⟨k, hk⟩ := Pure.MatchOwn l0 l1 l2 hb0 hb1 hb2 hb3
  refine (C.aumbrylaw05_MatchOwn.calls k A0 c0 l0 A1 c1 l1 A2 c2 l2 true W hr0 hc0 hr1 hc1 hr2 hc2 hk).mono fun e W' ⟨he, bel⟩ => ?_
  subst he
  have y0 := Below.trod laidOut (by kernel_rfl) (of_decide_eq_true (by kernel_rfl)) h0 bel lt0
  have y1 := Below.trod laidOut (by kernel_rfl) (of_decide_eq_true (by kernel_rfl)) h1 bel lt1
  have y2 := Below.trod laidOut (by kernel_rfl) (of_decide_eq_true (by kernel_rfl)) h2 bel lt2
  exact ⟨_, rfl, _, _, _, [], _, [], hW', trodAll_mk1 (shut_bool Try.underlying4 _), (trodAll_cons_mk y0 (trodAll_cons_mk y1 (trodAll_cons_mk y2 trodAll_mk0))), rfl, bel.frame _, fun h => by cases h⟩
theorem over : Rows.matchOwnRow.holds Try.pinned (OpenSpec.ofChange Rows.matchOwnSpec) :=
  OpenClaim.holds_of_wide 3 Try.f3 rfl rfl rfl rfl rfl rfl rfl ⟨rfl, rfl, rfl, rfl, rfl⟩ rfl rfl rfl rfl rfl (by kernel_rfl) Try.func3 (by kernel_rfl)
    (of_decide_eq_true (by kernel_rfl)) (by unfold Func.isWrapper; first | (rw [if_pos (by decide +kernel)]; kernel_rfl) | (rw [if_neg (by decide +kernel)]; exact ⟨rfl, rfl⟩))
    (fun os started H enc _ => lifted os started H enc)
theorem proved : Rows.MatchOwnSaid := over
#print axioms proved
end Go.Proofs.Ytnkpcnnbeaomnaa.matchOwn
namespace Go.Proofs.Ytnkpcnnbeaomnaa
/-- The row, under a short name, for the claim. -/
theorem matchOwn_holds : Rows.MatchOwnSaid := matchOwn.proved
end Go.Proofs.Ytnkpcnnbeaomnaa
end
