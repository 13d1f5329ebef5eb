import Derived.Test.YtnkpcnnbeaomnaaTO18
import Derived.Test.YtnkpcnnbeaomnaaTO10
import Derived.Test.YtnkpcnnbeaomnaaTO6
import Derived.Test.YtnkpcnnbeaomnaaTO12
import Derived.Test.YtnkpcnnbeaomnaaTO15
import Derived.Test.YtnkpcnnbeaomnaaTO16
import Derived.Test.YtnkpcnnbeaomnaaTO19
import Derived.Test.YtnkpcnnbeaomnaaTO20

section
/- What the program's and the reference's functions on terms come to, said of trees: written text, arguments, depth, variables. Plain words, no machine. -/
namespace Go.Proofs.Ytnkpcnnbeaomnaa.C
open Go.RowKit Go.Proofs.YtnkpcnnbeaomnaaW.PrintWords Go.Proofs.YtnkpcnnbeaomnaaW.PrintLast Go.Proofs.YtnkpcnnbeaomnaaW.PrintMore
set_option linter.unusedVariables false
set_option linter.unusedSimpArgs false

/-! ### term.write and term.Print -/
mutual
theorem wrt_tree : ∀ (T : Tr) (pre post : List S28), (pre ++ flat T ++ post).length ≤ 1000000 → Ev (fun k => wrt.f k (pre ++ flat T ++ post) (pre.length : Int)) (txt T, ((pre.length + (flat T).length : Nat) : Int))
  | .node n ks, pre, post, hl => by
    have hw : wrap64 ((pre.length : Int) + 1) = (((pre ++ [(⟨n, ks.length⟩ : S28)]).length : Nat) : Int) := by simp [flat] at hl ⊢; unfold wrap64; omega
    have ht : pre ++ flat (.node n ks) ++ post = (pre ++ [(⟨n, ks.length⟩ : S28)]) ++ flatL ks ++ post := by simp [flat]
    have hrd : rd_T28 (pre ++ flat (.node n ks) ++ post) (pre.length : Int) = ⟨n, ks.length⟩ := by
      rw [show pre ++ flat (.node n ks) ++ post = pre ++ (⟨n, ks.length⟩ : S28) :: (flatL ks ++ post) from by simp [flat]]
      exact rd_mid _ _ _
    have hk := wrt_forest ks (pre ++ [(⟨n, ks.length⟩ : S28)]) post 0 n.data.toList (by rw [← ht]; exact hl) (by have := flatL_len ks; simp [flat] at hl; omega)
    rw [← ht] at hk
    obtain ⟨K, hk⟩ := hk
    dsimp only at hk
    refine Ev.nxt K (fun k hkk => ?_)
    simp only [wrt.f]
    rw [if_pos (by omega), if_pos (by simp [flat]; omega), hrd, hw]
    dsimp only
    have := hk k hkk
    rw [Nat.zero_add, show (((0 : Nat) : Int)) = 0 from rfl] at this
    rw [this, Option.bind_some]
    by_cases h0 : ks.length = 0
    · rw [if_neg (by omega)]
      simp only [txt, flat, h0, decide_true, List.length_append, List.length_singleton, List.length_cons]
      simp
      omega
    · rw [if_pos (by omega)]
      simp only [txt, flat, decide_true, List.length_append, List.length_singleton, List.length_cons]
      rw [if_neg h0]
      simp
      omega
theorem wrt_forest : ∀ (ks : List Tr) (pre post : List S28) (i : Nat) (acc : List UInt8), (pre ++ flatL ks ++ post).length ≤ 1000000 → i + ks.length ≤ 1000000 →
    Ev (fun k => wrt.l k (pre ++ flatL ks ++ post) (pre.length : Int) ((i + ks.length : Nat) : Int) (i : Int) acc) (acc ++ txtK (decide (i = 0)) ks, ((pre.length + (flatL ks).length : Nat) : Int))
  | [], pre, post, i, acc, hl, hi => by
    refine Ev.nxt 0 (fun k hkk => ?_)
    simp only [wrt.l]
    rw [if_neg (by simp)]
    simp [txtK, flatL]
  | T :: r, pre, post, i, acc, hl, hi => by
    have e1 : pre ++ flatL (T :: r) ++ post = pre ++ flat T ++ (flatL r ++ post) := by simp [flatL]
    have e2 : pre ++ flatL (T :: r) ++ post = (pre ++ flat T) ++ flatL r ++ post := by simp [flatL]
    have h1 := wrt_tree T pre (flatL r ++ post) (by rw [← e1]; exact hl)
    have h2 := wrt_forest r (pre ++ flat T) post (i + 1) (acc ++ (if i = 0 then 40 else 44) :: txt T) (by rw [← e2]; exact hl) (by simp at hi; omega)
    rw [← e1] at h1
    rw [← e2] at h2
    obtain ⟨K1, h1⟩ := h1
    obtain ⟨K2, h2⟩ := h2
    dsimp only at h1 h2
    have hw : wrap64 ((i : Int) + 1) = ((i + 1 : Nat) : Int) := by simp at hi; unfold wrap64; omega
    have hn : ((i + (T :: r).length : Nat) : Int) = ((i + 1 + r.length : Nat) : Int) := by simp; omega
    rw [hn]
    have hres : (acc ++ (if i = 0 then 40 else 44) :: txt T) ++ txtK (decide (i + 1 = 0)) r = acc ++ txtK (decide (i = 0)) (T :: r) := by
      by_cases h0 : i = 0 <;> simp [txtK, h0]
    have hend : (((pre ++ flat T).length + (flatL r).length : Nat) : Int) = ((pre.length + (flatL (T :: r)).length : Nat) : Int) := by simp [flatL]; omega
    have hpos : (((pre ++ flat T).length : Nat) : Int) = ((pre.length + (flat T).length : Nat) : Int) := by simp
    rw [hres, hend, hpos] at h2
    refine Ev.nxt (max K1 K2) (fun k hkk => ?_)
    simp only [wrt.l]
    rw [if_pos (by omega), hw, h1 k (by omega)]
    simp only [Option.bind_some]
    by_cases h0 : i = 0
    · have := h2 k (by omega)
      rw [if_pos h0] at this
      rw [if_pos (by omega)]
      exact this
    · have := h2 k (by omega)
      rw [if_neg h0] at this
      rw [if_neg (by omega)]
      by_cases h1' : i = 1
      · rw [if_pos (by omega)]
        exact this
      · rw [if_neg (by omega), if_pos (by omega)]
        exact this
end

def bytes (l : List UInt8) : ByteArray := ⟨l.toArray⟩
theorem print_ok (T : Tr) (hf : fine T) (hl : (flat T).length ≤ 64) : Ev (fun k => term_Print.f k (flat T)) (bytes (txt T), 0) := by
  have h1 := check_ev (flat T)
  rw [chk_of_tree T hf hl] at h1
  have h2 := wrt_tree T [] [] (by simp; omega)
  simp only [List.nil_append, List.append_nil] at h2
  have hlen := txt_len T hf
  obtain ⟨K1, h1⟩ := h1
  obtain ⟨K2, h2⟩ := h2
  dsimp only at h1 h2
  refine ⟨max K1 K2, fun k hk => ?_⟩
  dsimp only
  unfold term_Print.f
  rw [h1 k (by omega), Option.bind_some, if_pos rfl]
  rw [show wrt.f k (flat T) 0 = _ from h2 k (by omega), Option.bind_some, if_pos (by dsimp only; omega)]
  rfl
theorem print_bad (t : List S28) (h : chk t ≠ 0) : Ev (fun k => term_Print.f k t) (⟨#[]⟩, chk t) := by
  obtain ⟨K1, h1⟩ := check_ev t
  dsimp only at h1
  refine ⟨K1, fun k hk => ?_⟩
  dsimp only
  unfold term_Print.f
  rw [h1 k hk, Option.bind_some, if_neg h]

/-! ### arguments -/
theorem seg_mid (pre x post : List S28) (a b : Int) (ha : a = pre.length) (hb : b = ((pre.length + x.length : Nat) : Int)) : ((pre ++ x ++ post).take b.toNat).drop a.toNat = x := by
  subst ha hb
  simp only [Int.toNat_natCast]
  rw [List.append_assoc, List.take_length_add_append, List.drop_append]
  simp
theorem firstErr_split {a b : List S28} (h : firstErr (a ++ b) = 0) : firstErr a = 0 ∧ firstErr b = 0 := by
  rw [firstErr_append] at h
  split at h
  · rename_i h0; exact ⟨h0, h⟩
  · rename_i h0; exact absurd h h0

theorem kids_l0 : ∀ (ks : List Tr) (pre : List S28) (acc : List (List S28)), (pre ++ flatL ks).length ≤ 1000000 → acc.length + ks.length ≤ 1000000 → tame (pre ++ flatL ks) →
    Ev (fun k => term_Kids.l0 k (pre ++ flatL ks) acc (pre.length : Int)) (acc ++ ks.map flat, 0)
  | [], pre, acc, hl, hc, ht => by
    refine Ev.nxt 0 (fun k _ => ?_)
    simp only [term_Kids.l0]
    rw [if_neg (by simp [flatL])]
    simp
  | T :: r, pre, acc, hl, hc, ht => by
    have hp := flat_pos T
    have e1 : pre ++ flatL (T :: r) = pre ++ flat T ++ flatL r := by simp [flatL]
    have hb := behind_ev (pre ++ flatL (T :: r)) ht hl pre.length (by simp)
    rw [e1] at hb
    rw [endOf_flat T pre (flatL r)] at hb
    rw [← e1] at hb
    have ih := kids_l0 r (pre ++ flat T) (acc ++ [flat T]) (by rw [← e1]; exact hl) (by simp at hc ⊢; omega) (by rw [← e1]; exact ht)
    rw [← e1] at ih
    obtain ⟨K1, hb⟩ := hb
    obtain ⟨K2, ih⟩ := ih
    dsimp only at hb ih
    have hseg : ((pre ++ flatL (T :: r)).take (((pre.length + (flat T).length : Nat) : Int)).toNat).drop ((pre.length : Int)).toNat = flat T := by
      rw [e1]
      exact seg_mid pre (flat T) (flatL r) _ _ rfl rfl
    have hfl : (flat T).length ≤ 1000000 := by simp [flatL] at hl; omega
    refine Ev.nxt (max K1 K2) (fun k hkk => ?_)
    simp only [term_Kids.l0]
    rw [if_pos (by simp [flatL]; omega), hb k (by omega), Option.bind_some, if_pos (by omega), if_pos (by omega), if_pos (by simp [flatL]; omega), hseg]
    unfold clone_Term.f
    rw [if_pos (by omega), Option.bind_some, if_pos (by simp at hc; omega)]
    have := ih k (by omega)
    rw [show (((pre ++ flat T).length : Nat) : Int) = ((pre.length + (flat T).length : Nat) : Int) from by simp] at this
    rw [this]
    simp

theorem rkids_l0 : ∀ (ks : List Tr) (pre : List S28) (acc : List (List S28)), (pre ++ flatL ks).length ≤ 1000000 → acc.length + ks.length ≤ 1000000 → tame (pre ++ flatL ks) →
    Ev (fun k => aumbryref04_Kids.l0 k (pre ++ flatL ks) acc (pre.length : Int)) (acc ++ ks.map flat)
  | [], pre, acc, hl, hc, ht => by
    refine Ev.nxt 0 (fun k _ => ?_)
    simp only [aumbryref04_Kids.l0]
    rw [if_neg (by simp [flatL])]
    simp
  | T :: r, pre, acc, hl, hc, ht => by
    have hp := flat_pos T
    have e1 : pre ++ flatL (T :: r) = pre ++ flat T ++ flatL r := by simp [flatL]
    have hb := rbehind_ev (pre ++ flatL (T :: r)) ht hl pre.length (by simp)
    rw [e1] at hb
    rw [endOf_flat T pre (flatL r)] at hb
    rw [← e1] at hb
    have ih := rkids_l0 r (pre ++ flat T) (acc ++ [flat T]) (by rw [← e1]; exact hl) (by simp at hc ⊢; omega) (by rw [← e1]; exact ht)
    rw [← e1] at ih
    obtain ⟨K1, hb⟩ := hb
    obtain ⟨K2, ih⟩ := ih
    dsimp only at hb ih
    have hseg : ((pre ++ flatL (T :: r)).take (((pre.length + (flat T).length : Nat) : Int)).toNat).drop ((pre.length : Int)).toNat = flat T := by
      rw [e1]
      exact seg_mid pre (flat T) (flatL r) _ _ rfl rfl
    have hfl : (flat T).length ≤ 1000000 := by simp [flatL] at hl; omega
    refine Ev.nxt (max K1 K2) (fun k hkk => ?_)
    simp only [aumbryref04_Kids.l0]
    rw [if_pos (by simp [flatL]; omega), hb k (by omega), Option.bind_some, if_pos (by omega), if_pos (by omega), if_pos (by simp [flatL]; omega), hseg]
    unfold aumbryref04_Copy.f
    rw [if_pos (by simp; omega), Option.bind_some, if_pos (by simp at hc; omega), Option.bind_some]
    have := ih k (by omega)
    rw [show (((pre ++ flat T).length : Nat) : Int) = ((pre.length + (flat T).length : Nat) : Int) from by simp] at this
    rw [List.nil_append, this]
    simp

theorem rkids_ev (n : ByteArray) (ks : List Tr) (hl : (flat (.node n ks)).length ≤ 1000000) (ht : tame (flat (.node n ks))) : Ev (fun k => aumbryref04_Kids.f k (flat (.node n ks))) (ks.map flat) := by
  have := flatL_len ks
  have h := rkids_l0 ks [(⟨n, ks.length⟩ : S28)] [] (by simpa [flat] using hl) (by simp [flat] at hl ⊢; omega) (by simpa [flat] using ht)
  simpa [flat, aumbryref04_Kids.f] using h
theorem kids_ok (n : ByteArray) (ks : List Tr) (hf : fine (.node n ks)) (hl : (flat (.node n ks)).length ≤ 64) : Ev (fun k => term_Kids.f k (flat (.node n ks))) (ks.map flat, 0) := by
  have := flatL_len ks
  have ht := tame_of_first _ (fine_to _ hf)
  have h := kids_l0 ks [(⟨n, ks.length⟩ : S28)] [] (by simp [flat] at hl ⊢; omega) (by simp [flat] at hl ⊢; omega) (by simpa [flat] using ht)
  have h1 := check_ev (flat (.node n ks))
  rw [chk_of_tree _ hf hl] at h1
  obtain ⟨K1, h1⟩ := h1
  obtain ⟨K2, h⟩ := h
  dsimp only at h1 h
  refine ⟨max K1 K2, fun k hk => ?_⟩
  dsimp only
  unfold term_Kids.f
  rw [h1 k (by omega), Option.bind_some, if_pos rfl]
  simpa [flat] using h k (by omega)
theorem kids_bad (t : List S28) (h : chk t ≠ 0) : Ev (fun k => term_Kids.f k t) ([], chk t) := by
  obtain ⟨K1, h1⟩ := check_ev t
  dsimp only at h1
  refine ⟨K1, fun k hk => ?_⟩
  dsimp only
  unfold term_Kids.f
  rw [h1 k hk, Option.bind_some, if_neg h]

/-! ### depth -/
mutual
theorem deep_tree : ∀ (T : Tr) (pre post : List S28), (pre ++ flat T ++ post).length ≤ 1000000 → Ev (fun k => term_deep.f k (pre ++ flat T ++ post) (pre.length : Int)) ((dep T : Int), ((pre.length + (flat T).length : Nat) : Int))
  | .node n ks, pre, post, hl => by
    have hw : wrap64 ((pre.length : Int) + 1) = (((pre ++ [(⟨n, ks.length⟩ : S28)]).length : Nat) : Int) := by simp [flat] at hl ⊢; unfold wrap64; omega
    have ht : pre ++ flat (.node n ks) ++ post = (pre ++ [(⟨n, ks.length⟩ : S28)]) ++ flatL ks ++ post := by simp [flat]
    have hrd : rd_T28 (pre ++ flat (.node n ks) ++ post) (pre.length : Int) = ⟨n, ks.length⟩ := by
      rw [show pre ++ flat (.node n ks) ++ post = pre ++ (⟨n, ks.length⟩ : S28) :: (flatL ks ++ post) from by simp [flat]]
      exact rd_mid _ _ _
    have hk := deep_forest ks (pre ++ [(⟨n, ks.length⟩ : S28)]) post 0 0 (by rw [← ht]; exact hl) (by have := flatL_len ks; simp [flat] at hl; omega) (by omega)
    rw [← ht] at hk
    obtain ⟨K, hk⟩ := hk
    dsimp only at hk
    refine Ev.nxt K (fun k hkk => ?_)
    simp only [term_deep.f]
    rw [if_pos (by omega), if_pos (by simp [flat]; omega), hrd, hw]
    dsimp only
    have := hk k hkk
    rw [Nat.zero_add, show (((0 : Nat) : Int)) = 0 from rfl] at this
    rw [this]
    simp [dep, flat]
    omega
theorem deep_forest : ∀ (ks : List Tr) (pre post : List S28) (i m : Nat), (pre ++ flatL ks ++ post).length ≤ 1000000 → i + ks.length ≤ 1000000 → m ≤ 1000000 →
    Ev (fun k => term_deep.l0 k (pre ++ flatL ks ++ post) (m : Int) (pre.length : Int) ((i + ks.length : Nat) : Int) (i : Int)) (((max m (depL ks) + 1 : Nat) : Int), ((pre.length + (flatL ks).length : Nat) : Int))
  | [], pre, post, i, m, hl, hi, hm => by
    refine Ev.nxt 0 (fun k hkk => ?_)
    simp only [term_deep.l0]
    rw [if_neg (by simp)]
    have hw : wrap64 ((m : Int) + 1) = ((m + 1 : Nat) : Int) := by unfold wrap64; omega
    simp [flatL, depL, hw]
  | T :: r, pre, post, i, m, hl, hi, hm => by
    have e1 : pre ++ flatL (T :: r) ++ post = pre ++ flat T ++ (flatL r ++ post) := by simp [flatL]
    have e2 : pre ++ flatL (T :: r) ++ post = (pre ++ flat T) ++ flatL r ++ post := by simp [flatL]
    have hd := dep_le T
    have h1 := deep_tree T pre (flatL r ++ post) (by rw [← e1]; exact hl)
    have h2 := deep_forest r (pre ++ flat T) post (i + 1) (max m (dep T)) (by rw [← e2]; exact hl) (by simp at hi; omega) (by simp [flatL] at hl; omega)
    rw [← e1] at h1
    rw [← e2] at h2
    obtain ⟨K1, h1⟩ := h1
    obtain ⟨K2, h2⟩ := h2
    dsimp only at h1 h2
    have hw : wrap64 ((i : Int) + 1) = ((i + 1 : Nat) : Int) := by simp at hi; unfold wrap64; omega
    have hn : ((i + (T :: r).length : Nat) : Int) = ((i + 1 + r.length : Nat) : Int) := by simp; omega
    have hend : (((pre ++ flat T).length + (flatL r).length : Nat) : Int) = ((pre.length + (flatL (T :: r)).length : Nat) : Int) := by simp [flatL]; omega
    have hpos : (((pre ++ flat T).length : Nat) : Int) = ((pre.length + (flat T).length : Nat) : Int) := by simp
    have hmx : mx (m : Int) (dep T : Int) = ((max m (dep T) : Nat) : Int) := by unfold mx; split <;> omega
    have hmm : max (max m (dep T)) (depL r) = max m (depL (T :: r)) := by simp only [depL]; omega
    rw [hend, hpos, hmm] at h2
    rw [hn]
    refine Ev.nxt (max K1 K2) (fun k hkk => ?_)
    simp only [term_deep.l0]
    rw [if_pos (by omega), hw, h1 k (by omega)]
    simp only [Option.bind_some]
    rw [hmx]
    exact h2 k (by omega)
theorem dep_le : ∀ (T : Tr), dep T ≤ (flat T).length
  | .node n ks => by
    have := depL_le ks
    simp only [dep, flat, List.length_cons]
    omega
theorem depL_le : ∀ (ks : List Tr), depL ks ≤ (flatL ks).length
  | [] => by simp [depL]
  | T :: r => by
    have h1 := dep_le T
    have h2 := depL_le r
    simp only [depL, flatL, List.length_append]
    omega
end

theorem rd_map (pre r : List Tr) (T : Tr) : rd_L3 ((pre ++ T :: r).map flat) (pre.length : Int) = flat T := by
  simp [rd_L3, List.getD_eq_getElem?_getD]
mutual
theorem rdepth_tree : ∀ (T : Tr), (flat T).length ≤ 1000000 → tame (flat T) → Ev (fun k => aumbryref04_Depth.f k (flat T)) (dep T : Int)
  | .node n ks, hl, ht => by
    have h1 := rkids_ev n ks hl ht
    have h2 := rdepth_forest ks [] 0 (by simp [flat] at hl; omega) (fun x hx => ht x (by simp [flat]; exact .inr hx)) (by have := flatL_len ks; simp [flat] at hl ⊢; omega) (by omega)
    refine Ev.step (f := fun k => (aumbryref04_Kids.f k (flat (.node n ks))).bind fun t483 => (aumbryref04_Depth.l0 k 0 t483 (t483.length : Int) 0)) (fun k => by simp only [aumbryref04_Depth.f]) (Ev.bind h1 ?_)
    simpa [dep] using h2
theorem rdepth_forest : ∀ (ks pre : List Tr) (m : Nat), 1 + (flatL ks).length ≤ 1000000 → tame (flatL ks) → (pre ++ ks).length ≤ 1000000 → m ≤ 1000000 →
    Ev (fun k => aumbryref04_Depth.l0 k (m : Int) ((pre ++ ks).map flat) (((pre ++ ks).map flat).length : Int) (pre.length : Int)) ((max m (depL ks) + 1 : Nat) : Int)
  | [], pre, m, hl, ht, hi, hm => by
    refine Ev.nxt 0 (fun k hkk => ?_)
    simp only [aumbryref04_Depth.l0]
    rw [if_neg (by simp)]
    have hw : wrap64 ((m : Int) + 1) = ((m + 1 : Nat) : Int) := by unfold wrap64; omega
    simp [depL, hw]
  | T :: r, pre, m, hl, ht, hi, hm => by
    have hd := dep_le T
    simp only [flatL, List.length_append] at hl
    have h1 := rdepth_tree T (by omega) (fun x hx => ht x (by simp [flatL]; exact .inl hx))
    have h2 := rdepth_forest r (pre ++ [T]) (max m (dep T)) (by omega) (fun x hx => ht x (by simp [flatL]; exact .inr hx)) (by simpa using hi) (by omega)
    have e2 : pre ++ [T] ++ r = pre ++ T :: r := by simp
    rw [e2] at h2
    obtain ⟨K1, h1⟩ := h1
    obtain ⟨K2, h2⟩ := h2
    dsimp only at h1 h2
    have hw : wrap64 ((pre.length : Int) + 1) = (((pre ++ [T]).length : Nat) : Int) := by simp at hi ⊢; unfold wrap64; omega
    have hmm : max (max m (dep T)) (depL r) = max m (depL (T :: r)) := by simp only [depL]; omega
    rw [hmm] at h2
    refine Ev.nxt (max K1 K2) (fun k hkk => ?_)
    simp only [aumbryref04_Depth.l0]
    rw [if_pos (by simp; omega), if_pos (by omega), if_pos (by simp; omega), rd_map, h1 k (by omega), Option.bind_some, hw]
    have := h2 k (by omega)
    by_cases hgt : (dep T : Int) > (m : Int)
    · rw [if_pos hgt]
      rwa [show max m (dep T) = dep T by omega] at this
    · rw [if_neg hgt]
      rwa [show max m (dep T) = m by omega] at this
end

theorem depth_ok (T : Tr) (hf : fine T) (hl : (flat T).length ≤ 64) : Ev (fun k => term_Depth.f k (flat T)) ((dep T : Int), 0) := by
  have h1 := check_ev (flat T)
  rw [chk_of_tree T hf hl] at h1
  have h2 := deep_tree T [] [] (by simp; omega)
  simp only [List.nil_append, List.append_nil] at h2
  obtain ⟨K1, h1⟩ := h1
  obtain ⟨K2, h2⟩ := h2
  dsimp only at h1 h2
  refine ⟨max K1 K2, fun k hk => ?_⟩
  dsimp only
  unfold term_Depth.f
  rw [h1 k (by omega), Option.bind_some, if_pos rfl]
  rw [show term_deep.f k (flat T) 0 = _ from h2 k (by omega), Option.bind_some]
theorem depth_bad (t : List S28) (h : chk t ≠ 0) : Ev (fun k => term_Depth.f k t) (0, chk t) := by
  obtain ⟨K1, h1⟩ := check_ev t
  dsimp only at h1
  refine ⟨K1, fun k hk => ?_⟩
  dsimp only
  unfold term_Depth.f
  rw [h1 k hk, Option.bind_some, if_neg h]

/-! ### the reference's text -/
theorem bytes_append (a b : List UInt8) : bytes a ++ bytes b = bytes (a ++ b) := by
  apply ByteArray.ext
  simp [bytes]
theorem bytes_size (a : List UInt8) : (bytes a).size = a.length := by
  show a.toArray.size = _
  simp
theorem bytes_data (s : ByteArray) : bytes s.data.toList = s := by
  apply ByteArray.ext
  simp [bytes]
mutual
theorem text_tree : ∀ (T : Tr), (flat T).length ≤ 1000000 → tame (flat T) → (txt T).length ≤ 2000000 → Ev (fun k => aumbryref04_Text.f k (flat T)) (bytes (txt T))
  | .node n ks, hl, ht, hx => by
    have h1 := rkids_ev n ks hl ht
    have h2 := text_forest ks [] n.data.toList (by simp [flat] at hl; omega) (fun x hx => ht x (by simp [flat]; exact .inr hx)) (by have := flatL_len ks; simp [flat] at hl ⊢; omega) (by simp [txt] at hx ⊢; omega)
    have hrd : rd_T28 (flat (.node n ks)) 0 = ⟨n, ks.length⟩ := by simp [flat, rd_T28]
    obtain ⟨K1, h1⟩ := h1
    obtain ⟨K2, h2⟩ := h2
    dsimp only at h1 h2
    refine Ev.nxt (max K1 K2) (fun k hkk => ?_)
    simp only [aumbryref04_Text.f]
    rw [if_pos (by simp [flat] <;> omega), h1 k (by omega), Option.bind_some, hrd]
    dsimp only
    have := h2 k (by omega)
    rw [bytes_data] at this
    simp only [List.nil_append, List.length_nil, Int.natCast_zero] at this
    simpa [txt] using this
theorem text_forest : ∀ (ks pre : List Tr) (acc : List UInt8), 1 + (flatL ks).length ≤ 1000000 → tame (flatL ks) → (pre ++ ks).length ≤ 1000000 → (acc ++ txtK (decide (pre.length = 0)) ks).length ≤ 2000000 →
    Ev (fun k => aumbryref04_Text.l0 k (bytes acc) ((pre ++ ks).map flat) (((pre ++ ks).map flat).length : Int) (pre.length : Int)) (bytes (acc ++ txtK (decide (pre.length = 0)) ks ++ (if (pre ++ ks).length = 0 then [] else [41])))
  | [], pre, acc, hl, ht, hi, hx => by
    refine Ev.nxt 0 (fun k hkk => ?_)
    simp only [aumbryref04_Text.l0]
    rw [if_neg (by simp)]
    by_cases h0 : pre.length = 0
    · rw [if_neg (by simp; exact List.eq_nil_of_length_eq_zero h0), if_pos (by simpa using h0)]
      simp [txtK]
    · rw [if_pos (by simp; omega), if_pos (by rw [bytes_size]; simp [txtK] at hx; omega), if_neg (by simpa using h0)]
      simp only [txtK, List.append_nil]
      rw [show (⟨#[41]⟩ : ByteArray) = bytes [41] from rfl, bytes_append]
  | T :: r, pre, acc, hl, ht, hi, hx => by
    simp only [flatL, List.length_append] at hl
    have hx' : (txt T).length ≤ 2000000 := by
      by_cases h0 : pre.length = 0 <;> simp [txtK, h0] at hx <;> omega
    have h1 := text_tree T (by omega) (fun x hx => ht x (by simp [flatL]; exact .inl hx)) hx'
    have h2 := text_forest r (pre ++ [T]) (acc ++ (if pre.length = 0 then 40 else 44) :: txt T) (by omega) (fun x hx => ht x (by simp [flatL]; exact .inr hx)) (by simpa using hi) (by
      by_cases h0 : pre.length = 0 <;> simp [txtK, h0] at hx ⊢ <;> omega)
    have e2 : pre ++ [T] ++ r = pre ++ T :: r := by simp
    rw [e2] at h2
    have hres : acc ++ (if pre.length = 0 then 40 else 44) :: txt T ++ txtK (decide ((pre ++ [T]).length = 0)) r = acc ++ txtK (decide (pre.length = 0)) (T :: r) := by
      by_cases h0 : pre.length = 0 <;> simp [txtK, h0]
    rw [hres] at h2
    obtain ⟨K1, h1⟩ := h1
    obtain ⟨K2, h2⟩ := h2
    dsimp only at h1 h2
    have hw : wrap64 ((pre.length : Int) + 1) = (((pre ++ [T]).length : Nat) : Int) := by simp at hi ⊢; unfold wrap64; omega
    refine Ev.nxt (max K1 K2) (fun k hkk => ?_)
    simp only [aumbryref04_Text.l0]
    have hlen : acc.length + 1 + (txt T).length ≤ 2000000 := by
      by_cases h0 : pre.length = 0 <;> simp [txtK, h0] at hx <;> omega
    rw [if_pos (by simp; omega)]
    by_cases h0 : pre.length = 0
    · have := h2 k (by omega)
      rw [if_pos h0] at this
      rw [if_pos (by omega), if_pos (by rw [bytes_size]; omega), if_pos (by omega), if_pos (by simp; omega), rd_map, h1 k (by omega), Option.bind_some, show (⟨#[40]⟩ : ByteArray) = bytes [40] from rfl, bytes_append, if_pos (by rw [bytes_size, bytes_size]; simp; omega), bytes_append, hw]
      simpa using this
    · have := h2 k (by omega)
      rw [if_neg h0] at this
      rw [if_neg (by omega), if_pos (by rw [bytes_size]; omega), if_pos (by omega), if_pos (by simp; omega), rd_map, h1 k (by omega), Option.bind_some, show (⟨#[44]⟩ : ByteArray) = bytes [44] from rfl, bytes_append, if_pos (by rw [bytes_size, bytes_size]; simp; omega), bytes_append, hw]
      simpa using this
end

theorem rprint_ok (T : Tr) (hf : fine T) (hl : (flat T).length ≤ 64) : Ev (fun k => aumbryref04_Print.f k (flat T)) (bytes (txt T), 0) := by
  have h1 := rcheck_ev (flat T)
  rw [chk_of_tree T hf hl] at h1
  have h2 := text_tree T (by omega) (tame_of_first _ (fine_to _ hf)) (by have := txt_len T hf; omega)
  obtain ⟨K1, h1⟩ := h1
  obtain ⟨K2, h2⟩ := h2
  dsimp only at h1 h2
  refine ⟨max K1 K2, fun k hk => ?_⟩
  dsimp only
  unfold aumbryref04_Print.f
  rw [h1 k (by omega), Option.bind_some, if_pos rfl, h2 k (by omega), Option.bind_some]
theorem rprint_bad (t : List S28) (h : chk t ≠ 0) : Ev (fun k => aumbryref04_Print.f k t) (⟨#[]⟩, chk t) := by
  obtain ⟨K1, h1⟩ := rcheck_ev t
  dsimp only at h1
  refine ⟨K1, fun k hk => ?_⟩
  dsimp only
  unfold aumbryref04_Print.f
  rw [h1 k hk, Option.bind_some, if_neg h]

/-! ### variables -/
def hasB (l : List ByteArray) (s : ByteArray) : Bool := l.any fun x => decide (x.toList = s.toList)
theorem drop_of (l : List ByteArray) (i : Nat) (h : i < l.length) : l.drop i = rdOf ByteArray.empty l i :: l.drop (i + 1) := by
  rw [List.drop_eq_getElem_cons h]
  simp [rdOf, List.getD_eq_getElem?_getD, List.getElem?_eq_getElem h]
theorem has_l0 (l : List ByteArray) (s : ByteArray) (hl : l.length ≤ 1000000) : ∀ d i : Nat, i + d = l.length → Ev (fun k => aumbryref03_Has.l0 k l s (l.length : Int) (i : Int)) (hasB (l.drop i) s)
  | 0, i, h => by
    refine Ev.nxt 0 (fun k _ => ?_)
    simp only [aumbryref03_Has.l0]
    rw [if_neg (by omega), List.drop_eq_nil_of_le (by omega)]
    rfl
  | d + 1, i, h => by
    have hw : wrap64 ((i : Int) + 1) = ((i + 1 : Nat) : Int) := by unfold wrap64; omega
    rw [drop_of l i (by omega)]
    by_cases hc : (rdOf ByteArray.empty l i).toList = s.toList
    · refine Ev.nxt 0 (fun k _ => ?_)
      simp only [aumbryref03_Has.l0]
      rw [if_pos (by omega), if_pos (by omega), if_pos (by omega), if_pos hc]
      simp [hasB, hc]
    · refine Ev.step (f := fun k => aumbryref03_Has.l0 k l s (l.length : Int) ((i + 1 : Nat) : Int)) (fun k => ?_) ?_
      · simp only [aumbryref03_Has.l0]
        rw [if_pos (by omega), if_pos (by omega), if_pos (by omega), if_neg hc, hw]
      · have := has_l0 l s hl d (i + 1) (by omega)
        simpa [hasB, hc] using this
theorem has_ev (l : List ByteArray) (s : ByteArray) (hl : l.length ≤ 1000000) : Ev (fun k => aumbryref03_Has.f k l s) (hasB l s) := has_l0 l s hl l.length 0 (by omega)
theorem index_l0 (l : List ByteArray) (s : ByteArray) (hl : l.length ≤ 1000000) : ∀ d i : Nat, i + d = l.length → ∃ r, Ev (fun k => slices_Index_string_string.l0 k l s (l.length : Int) (i : Int)) r ∧ decide (r ≥ 0) = hasB (l.drop i) s
  | 0, i, h => by
    refine ⟨-1, Ev.nxt 0 (fun k _ => ?_), ?_⟩
    · simp only [slices_Index_string_string.l0]
      rw [if_neg (by omega)]
    · rw [List.drop_eq_nil_of_le (by omega)]
      rfl
  | d + 1, i, h => by
    have hw : wrap64 ((i : Int) + 1) = ((i + 1 : Nat) : Int) := by unfold wrap64; omega
    rw [drop_of l i (by omega)]
    by_cases hc : (rdOf ByteArray.empty l i).toList = s.toList
    · refine ⟨(i : Int), Ev.nxt 0 (fun k _ => ?_), ?_⟩
      · simp only [slices_Index_string_string.l0]
        rw [if_pos (by omega), if_pos (by omega), if_pos (by omega), if_pos hc.symm]
      · simp [hasB, hc]
    · obtain ⟨r, h1, h2⟩ := index_l0 l s hl d (i + 1) (by omega)
      refine ⟨r, Ev.step (f := fun k => slices_Index_string_string.l0 k l s (l.length : Int) ((i + 1 : Nat) : Int)) (fun k => ?_) h1, ?_⟩
      · simp only [slices_Index_string_string.l0]
        rw [if_pos (by omega), if_pos (by omega), if_pos (by omega), if_neg (fun h => hc h.symm), hw]
      · rw [h2]
        simp [hasB, hc]
theorem contains_ev (l : List ByteArray) (s : ByteArray) (hl : l.length ≤ 1000000) : Ev (fun k => slices_Contains_string_string.f k l s) (hasB l s) := by
  obtain ⟨r, h1, h2⟩ := index_l0 l s hl l.length 0 (by omega)
  refine Ev.congr (f := fun k => (slices_Index_string_string.l0 k l s (l.length : Int) ((0 : Nat) : Int)).bind fun t457 => (some (decide (t457 ≥ 0)))) (fun k => by rfl) (Ev.bind h1 ?_)
  rw [h2]
  exact Ev.now _

def varsL : List S28 → List ByteArray → List ByteArray
  | [], acc => acc
  | c :: r, acc => varsL r (if kindOf c.f0 = 2 then (if hasB acc c.f0 then acc else acc ++ [c.f0]) else acc)
theorem vars_l0 (t : List S28) (ht : t.length ≤ 1000) : ∀ (d i : Nat) (acc : List ByteArray), i + d = t.length → acc.length ≤ i → Ev (fun k => term_Vars.l0 k acc t (t.length : Int) (i : Int)) (varsL (t.drop i) acc, 0)
  | 0, i, acc, h, ha => by
    refine Ev.nxt 0 (fun k _ => ?_)
    simp only [term_Vars.l0]
    rw [if_neg (by omega), drop_end t i (by omega)]
    rfl
  | d + 1, i, acc, h, ha => by
    have hw : wrap64 ((i : Int) + 1) = ((i + 1 : Nat) : Int) := by unfold wrap64; omega
    rw [drop_rd t i (by omega)]
    obtain ⟨K1, hk⟩ := kind_ev (rd_T28 t i).f0
    obtain ⟨K2, hc⟩ := contains_ev acc (rd_T28 t i).f0 (by omega)
    dsimp only at hk hc
    by_cases c1 : kindOf (rd_T28 t i).f0 = 2
    · by_cases c2 : hasB acc (rd_T28 t i).f0 = true
      · have ih := vars_l0 t ht d (i + 1) acc (by omega) (by omega)
        obtain ⟨K3, ih⟩ := ih
        refine Ev.nxt (max (max K1 K2) K3) (fun k hkk => ?_)
        simp only [term_Vars.l0, varsL]
        rw [if_pos (by omega), if_pos (by omega), if_pos (by omega), hk k (by omega), Option.bind_some, if_pos c1, hc k (by omega), Option.bind_some, if_pos c2, hw, if_pos c1, if_pos c2]
        exact ih k (by omega)
      · have ih := vars_l0 t ht d (i + 1) (acc ++ [(rd_T28 t i).f0]) (by omega) (by simp; omega)
        obtain ⟨K3, ih⟩ := ih
        refine Ev.nxt (max (max K1 K2) K3) (fun k hkk => ?_)
        simp only [term_Vars.l0, varsL]
        rw [if_pos (by omega), if_pos (by omega), if_pos (by omega), hk k (by omega), Option.bind_some, if_pos c1, hc k (by omega), Option.bind_some, if_neg c2, if_pos (by omega), hw, if_pos c1, if_neg c2]
        exact ih k (by omega)
    · have ih := vars_l0 t ht d (i + 1) acc (by omega) (by omega)
      obtain ⟨K3, ih⟩ := ih
      refine Ev.nxt (max K1 K3) (fun k hkk => ?_)
      simp only [term_Vars.l0, varsL]
      rw [if_pos (by omega), if_pos (by omega), if_pos (by omega), hk k (by omega), Option.bind_some, if_neg c1, hw, if_neg c1]
      exact ih k (by omega)
theorem rvars_l0 (t : List S28) (ht : t.length ≤ 1000) : ∀ (d i : Nat) (acc : List ByteArray), i + d = t.length → acc.length ≤ i → Ev (fun k => aumbryref04_Vars.l0 k t acc (t.length : Int) (i : Int)) (varsL (t.drop i) acc)
  | 0, i, acc, h, ha => by
    refine Ev.nxt 0 (fun k _ => ?_)
    simp only [aumbryref04_Vars.l0]
    rw [if_neg (by omega), drop_end t i (by omega)]
    rfl
  | d + 1, i, acc, h, ha => by
    have hw : wrap64 ((i : Int) + 1) = ((i + 1 : Nat) : Int) := by unfold wrap64; omega
    rw [drop_rd t i (by omega)]
    obtain ⟨K1, hk⟩ := rkind_ev (rd_T28 t i).f0
    obtain ⟨K2, hc⟩ := has_ev acc (rd_T28 t i).f0 (by omega)
    dsimp only at hk hc
    by_cases c1 : kindOf (rd_T28 t i).f0 = 2
    · by_cases c2 : hasB acc (rd_T28 t i).f0 = true
      · have ih := rvars_l0 t ht d (i + 1) acc (by omega) (by omega)
        obtain ⟨K3, ih⟩ := ih
        refine Ev.nxt (max (max K1 K2) K3) (fun k hkk => ?_)
        simp only [aumbryref04_Vars.l0, varsL]
        rw [if_pos (by omega), if_pos (by omega), if_pos (by omega), hk k (by omega), Option.bind_some, if_pos c1, hc k (by omega), Option.bind_some, if_pos c2, hw, if_pos c1, if_pos c2]
        exact ih k (by omega)
      · have ih := rvars_l0 t ht d (i + 1) (acc ++ [(rd_T28 t i).f0]) (by omega) (by simp; omega)
        obtain ⟨K3, ih⟩ := ih
        refine Ev.nxt (max (max K1 K2) K3) (fun k hkk => ?_)
        simp only [aumbryref04_Vars.l0, varsL]
        rw [if_pos (by omega), if_pos (by omega), if_pos (by omega), hk k (by omega), Option.bind_some, if_pos c1, hc k (by omega), Option.bind_some, if_neg c2, if_pos (by omega), hw, if_pos c1, if_neg c2]
        exact ih k (by omega)
    · have ih := rvars_l0 t ht d (i + 1) acc (by omega) (by omega)
      obtain ⟨K3, ih⟩ := ih
      refine Ev.nxt (max K1 K3) (fun k hkk => ?_)
      simp only [aumbryref04_Vars.l0, varsL]
      rw [if_pos (by omega), if_pos (by omega), if_pos (by omega), hk k (by omega), Option.bind_some, if_neg c1, hw, if_neg c1]
      exact ih k (by omega)
theorem varsL_len : ∀ (t : List S28) (acc : List ByteArray), (varsL t acc).length ≤ acc.length + t.length
  | [], acc => by simp [varsL]
  | c :: r, acc => by
    simp only [varsL]
    refine Nat.le_trans (varsL_len r _) ?_
    split
    · split
      · simp
      · simp; omega
    · simp
theorem vars_ok (t : List S28) (h : chk t = 0) : Ev (fun k => term_Vars.f k t) (varsL t [], 0) := by
  have hl : t.length ≤ 64 := by obtain ⟨T, _, _, hl⟩ := tree_of_chk t h; exact hl
  have h1 := check_ev t
  rw [h] at h1
  obtain ⟨K1, h1⟩ := h1
  obtain ⟨K2, h2⟩ := vars_l0 t (by omega) t.length 0 [] (by omega) (by simp)
  dsimp only at h1 h2
  refine ⟨max K1 K2, fun k hk => ?_⟩
  dsimp only
  unfold term_Vars.f
  rw [h1 k (by omega), Option.bind_some, if_pos rfl]
  exact h2 k (by omega)
theorem vars_bad (t : List S28) (h : chk t ≠ 0) : Ev (fun k => term_Vars.f k t) ([], chk t) := by
  obtain ⟨K1, h1⟩ := check_ev t
  dsimp only at h1
  refine ⟨K1, fun k hk => ?_⟩
  dsimp only
  unfold term_Vars.f
  rw [h1 k hk, Option.bind_some, if_neg h]
theorem rvars_ev (t : List S28) (h : t.length ≤ 1000) : Ev (fun k => aumbryref04_Vars.f k t) (varsL t []) := rvars_l0 t h t.length 0 [] (by omega) (by simp)

/-! ### alike -/
theorem sameS_l0 (a : List ByteArray) (hb : a.length ≤ 4611686018427387904) : ∀ d i : Nat, i + d = a.length → Ev (fun k => aumbryref03_Same.l0 k a a (a.length : Int) (i : Int)) true
  | 0, i, h => Ev.nxt 0 (fun k _ => by simp only [aumbryref03_Same.l0]; rw [if_neg (by omega)])
  | d + 1, i, h => by
    have hw : wrap64 ((i : Int) + 1) = ((i + 1 : Nat) : Int) := by unfold wrap64; omega
    refine Ev.step (f := fun k => aumbryref03_Same.l0 k a a (a.length : Int) ((i + 1 : Nat) : Int)) (fun k => ?_) (sameS_l0 a hb d (i + 1) (by omega))
    simp only [aumbryref03_Same.l0]
    rw [if_pos (by omega), if_pos (by omega), if_pos (by omega), if_pos (by omega), if_pos trivial, hw]
theorem sameS_ev (a : List ByteArray) (hb : a.length ≤ 4611686018427387904) : Ev (fun k => aumbryref03_Same.f k a a) true :=
  Ev.congr (fun k => by unfold aumbryref03_Same.f; rw [if_pos rfl]; rfl) (sameS_l0 a hb a.length 0 (by omega))
theorem sameT_l0 (a : List S28) (hb : a.length ≤ 4611686018427387904) : ∀ d i : Nat, i + d = a.length → Ev (fun k => aumbryref04_Same.l0 k a a (a.length : Int) (i : Int)) true
  | 0, i, h => Ev.nxt 0 (fun k _ => by simp only [aumbryref04_Same.l0]; rw [if_neg (by omega)])
  | d + 1, i, h => by
    have hw : wrap64 ((i : Int) + 1) = ((i + 1 : Nat) : Int) := by unfold wrap64; omega
    refine Ev.step (f := fun k => aumbryref04_Same.l0 k a a (a.length : Int) ((i + 1 : Nat) : Int)) (fun k => ?_) (sameT_l0 a hb d (i + 1) (by omega))
    simp only [aumbryref04_Same.l0]
    rw [if_pos (by omega), if_pos (by omega), if_pos (by omega), if_pos (by omega), if_neg (by simp), hw]
theorem sameT_ev (a : List S28) (hb : a.length ≤ 4611686018427387904) : Ev (fun k => aumbryref04_Same.f k a a) true :=
  Ev.congr (fun k => by unfold aumbryref04_Same.f; rw [if_pos rfl]; rfl) (sameT_l0 a hb a.length 0 (by omega))
theorem sameAll_l0 (a : List (List S28)) (hb : a.length ≤ 4611686018427387904) (hq : ∀ x ∈ a, x.length ≤ 4611686018427387904) : ∀ d i : Nat, i + d = a.length → Ev (fun k => aumbryref04_SameAll.l0 k a a (a.length : Int) (i : Int)) true
  | 0, i, h => Ev.nxt 0 (fun k _ => by simp only [aumbryref04_SameAll.l0]; rw [if_neg (by omega)])
  | d + 1, i, h => by
    have hw : wrap64 ((i : Int) + 1) = ((i + 1 : Nat) : Int) := by unfold wrap64; omega
    have hm : rd_L3 a i ∈ a := by
      have : rd_L3 a i = a[i] := by simp [rd_L3, List.getD_eq_getElem?_getD, List.getElem?_eq_getElem (show i < a.length by omega)]
      rw [this]
      exact List.getElem_mem _
    refine Ev.step (f := fun k => (aumbryref04_Same.f k (rd_L3 a i) (rd_L3 a i)).bind fun t399 => (if t399 = true then (aumbryref04_SameAll.l0 k a a (a.length : Int) ((i + 1 : Nat) : Int)) else (some false))) (fun k => ?_) (Ev.bind (sameT_ev _ (hq _ hm)) ?_)
    · simp only [aumbryref04_SameAll.l0]
      rw [if_pos (by omega), if_pos (by omega), if_pos (by omega), if_pos (by omega), hw]
    · simp only [if_true]
      exact sameAll_l0 a hb hq d (i + 1) (by omega)
theorem sameAll_ev (a : List (List S28)) (hb : a.length ≤ 4611686018427387904) (hq : ∀ x ∈ a, x.length ≤ 4611686018427387904) : Ev (fun k => aumbryref04_SameAll.f k a a) true :=
  Ev.congr (fun k => by unfold aumbryref04_SameAll.f; rw [if_pos rfl]; rfl) (sameAll_l0 a hb hq a.length 0 (by omega))

end Go.Proofs.Ytnkpcnnbeaomnaa.C
end
