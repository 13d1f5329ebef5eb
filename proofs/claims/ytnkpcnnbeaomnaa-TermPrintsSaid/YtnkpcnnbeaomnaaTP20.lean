import Derived.Test.YtnkpcnnbeaomnaaTP19
import Derived.Test.YtnkpcnnbeaomnaaTP10
import Derived.Test.YtnkpcnnbeaomnaaTP15
import Derived.Test.YtnkpcnnbeaomnaaTP12
import Derived.Test.YtnkpcnnbeaomnaaTP14
import Derived.Test.YtnkpcnnbeaomnaaTP16
import Derived.Test.YtnkpcnnbeaomnaaTP17
import Derived.Test.YtnkpcnnbeaomnaaTP18
import Derived.Test.YtnkpcnnbeaomnaaTP6
import Derived.Deep.Slices
import Derived.ChangeSame
import Derived.SizedLaws
import Derived.Test.YtnkpcnnbeaomnaaRows
import Derived.WalkKit
import Derived.ProofKit
import Derived.OpenShut
import Derived.ShutString
import Derived.ChangeOld
import Derived.Below
import Derived.Carry

section
/- What the program's and the reference's functions on terms come to, said of trees: written text, arguments, depth, variables. Plain words, no machine. -/
namespace Go.Proofs.Ytnkpcnnbeaomnaa.C
open Go.RowKit Go.Proofs.YtnkpcnnbeaomnaaW.PrintWords Go.Proofs.YtnkpcnnbeaomnaaW.PrintLast Go.Proofs.YtnkpcnnbeaomnaaW.PrintMore
set_option linter.unusedVariables false
set_option linter.unusedSimpArgs false

/-! ### term.write and term.Print -/
mutual
theorem wrt_tree : ∀ (T : Tr) (pre post : List S28), (pre ++ flat T ++ post).length ≤ 1000000 → Ev (fun k => wrt.f k (pre ++ flat T ++ post) (pre.length : Int)) (txt T, ((pre.length + (flat T).length : Nat) : Int))
  | .node n ks, pre, post, hl => by
    have hw : wrap64 ((pre.length : Int) + 1) = (((pre ++ [(⟨n, ks.length⟩ : S28)]).length : Nat) : Int) := by simp [flat] at hl ⊢; unfold wrap64; omega
    have ht : pre ++ flat (.node n ks) ++ post = (pre ++ [(⟨n, ks.length⟩ : S28)]) ++ flatL ks ++ post := by simp [flat]
    have hrd : rd_T28 (pre ++ flat (.node n ks) ++ post) (pre.length : Int) = ⟨n, ks.length⟩ := by
      rw [show pre ++ flat (.node n ks) ++ post = pre ++ (⟨n, ks.length⟩ : S28) :: (flatL ks ++ post) from by simp [flat]]
      exact rd_mid _ _ _
    have hk := wrt_forest ks (pre ++ [(⟨n, ks.length⟩ : S28)]) post 0 n.data.toList (by rw [← ht]; exact hl) (by have := flatL_len ks; simp [flat] at hl; omega)
    rw [← ht] at hk
    obtain ⟨K, hk⟩ := hk
    dsimp only at hk
    refine Ev.nxt K (fun k hkk => ?_)
    simp only [wrt.f]
    rw [if_pos (by omega), if_pos (by simp [flat]; omega), hrd, hw]
    dsimp only
    have := hk k hkk
    rw [Nat.zero_add, show (((0 : Nat) : Int)) = 0 from rfl] at this
    rw [this, Option.bind_some]
    by_cases h0 : ks.length = 0
    · rw [if_neg (by omega)]
      simp only [txt, flat, h0, decide_true, List.length_append, List.length_singleton, List.length_cons]
      simp
      omega
    · rw [if_pos (by omega)]
      simp only [txt, flat, decide_true, List.length_append, List.length_singleton, List.length_cons]
      rw [if_neg h0]
      simp
      omega
theorem wrt_forest : ∀ (ks : List Tr) (pre post : List S28) (i : Nat) (acc : List UInt8), (pre ++ flatL ks ++ post).length ≤ 1000000 → i + ks.length ≤ 1000000 →
    Ev (fun k => wrt.l k (pre ++ flatL ks ++ post) (pre.length : Int) ((i + ks.length : Nat) : Int) (i : Int) acc) (acc ++ txtK (decide (i = 0)) ks, ((pre.length + (flatL ks).length : Nat) : Int))
  | [], pre, post, i, acc, hl, hi => by
    refine Ev.nxt 0 (fun k hkk => ?_)
    simp only [wrt.l]
    rw [if_neg (by simp)]
    simp [txtK, flatL]
  | T :: r, pre, post, i, acc, hl, hi => by
    have e1 : pre ++ flatL (T :: r) ++ post = pre ++ flat T ++ (flatL r ++ post) := by simp [flatL]
    have e2 : pre ++ flatL (T :: r) ++ post = (pre ++ flat T) ++ flatL r ++ post := by simp [flatL]
    have h1 := wrt_tree T pre (flatL r ++ post) (by rw [← e1]; exact hl)
    have h2 := wrt_forest r (pre ++ flat T) post (i + 1) (acc ++ (if i = 0 then 40 else 44) :: txt T) (by rw [← e2]; exact hl) (by simp at hi; omega)
    rw [← e1] at h1
    rw [← e2] at h2
    obtain ⟨K1, h1⟩ := h1
    obtain ⟨K2, h2⟩ := h2
    dsimp only at h1 h2
    have hw : wrap64 ((i : Int) + 1) = ((i + 1 : Nat) : Int) := by simp at hi; unfold wrap64; omega
    have hn : ((i + (T :: r).length : Nat) : Int) = ((i + 1 + r.length : Nat) : Int) := by simp; omega
    rw [hn]
    have hres : (acc ++ (if i = 0 then 40 else 44) :: txt T) ++ txtK (decide (i + 1 = 0)) r = acc ++ txtK (decide (i = 0)) (T :: r) := by
      by_cases h0 : i = 0 <;> simp [txtK, h0]
    have hend : (((pre ++ flat T).length + (flatL r).length : Nat) : Int) = ((pre.length + (flatL (T :: r)).length : Nat) : Int) := by simp [flatL]; omega
    have hpos : (((pre ++ flat T).length : Nat) : Int) = ((pre.length + (flat T).length : Nat) : Int) := by simp
    rw [hres, hend, hpos] at h2
    refine Ev.nxt (max K1 K2) (fun k hkk => ?_)
    simp only [wrt.l]
    rw [if_pos (by omega), hw, h1 k (by omega)]
    simp only [Option.bind_some]
    by_cases h0 : i = 0
    · have := h2 k (by omega)
      rw [if_pos h0] at this
      rw [if_pos (by omega)]
      exact this
    · have := h2 k (by omega)
      rw [if_neg h0] at this
      rw [if_neg (by omega)]
      by_cases h1' : i = 1
      · rw [if_pos (by omega)]
        exact this
      · rw [if_neg (by omega), if_pos (by omega)]
        exact this
end

def bytes (l : List UInt8) : ByteArray := ⟨l.toArray⟩
theorem print_ok (T : Tr) (hf : fine T) (hl : (flat T).length ≤ 64) : Ev (fun k => term_Print.f k (flat T)) (bytes (txt T), 0) := by
  have h1 := check_ev (flat T)
  rw [chk_of_tree T hf hl] at h1
  have h2 := wrt_tree T [] [] (by simp; omega)
  simp only [List.nil_append, List.append_nil] at h2
  have hlen := txt_len T hf
  obtain ⟨K1, h1⟩ := h1
  obtain ⟨K2, h2⟩ := h2
  dsimp only at h1 h2
  refine ⟨max K1 K2, fun k hk => ?_⟩
  dsimp only
  unfold term_Print.f
  rw [h1 k (by omega), Option.bind_some, if_pos rfl]
  rw [show wrt.f k (flat T) 0 = _ from h2 k (by omega), Option.bind_some, if_pos (by dsimp only; omega)]
  rfl
theorem print_bad (t : List S28) (h : chk t ≠ 0) : Ev (fun k => term_Print.f k t) (⟨#[]⟩, chk t) := by
  obtain ⟨K1, h1⟩ := check_ev t
  dsimp only at h1
  refine ⟨K1, fun k hk => ?_⟩
  dsimp only
  unfold term_Print.f
  rw [h1 k hk, Option.bind_some, if_neg h]

/-! ### arguments -/
theorem seg_mid (pre x post : List S28) (a b : Int) (ha : a = pre.length) (hb : b = ((pre.length + x.length : Nat) : Int)) : ((pre ++ x ++ post).take b.toNat).drop a.toNat = x := by
  subst ha hb
  simp only [Int.toNat_natCast]
  rw [List.append_assoc, List.take_length_add_append, List.drop_append]
  simp
theorem firstErr_split {a b : List S28} (h : firstErr (a ++ b) = 0) : firstErr a = 0 ∧ firstErr b = 0 := by
  rw [firstErr_append] at h
  split at h
  · rename_i h0; exact ⟨h0, h⟩
  · rename_i h0; exact absurd h h0

theorem kids_l0 : ∀ (ks : List Tr) (pre : List S28) (acc : List (List S28)), (pre ++ flatL ks).length ≤ 1000000 → acc.length + ks.length ≤ 1000000 → tame (pre ++ flatL ks) →
    Ev (fun k => term_Kids.l0 k (pre ++ flatL ks) acc (pre.length : Int)) (acc ++ ks.map flat, 0)
  | [], pre, acc, hl, hc, ht => by
    refine Ev.nxt 0 (fun k _ => ?_)
    simp only [term_Kids.l0]
    rw [if_neg (by simp [flatL])]
    simp
  | T :: r, pre, acc, hl, hc, ht => by
    have hp := flat_pos T
    have e1 : pre ++ flatL (T :: r) = pre ++ flat T ++ flatL r := by simp [flatL]
    have hb := behind_ev (pre ++ flatL (T :: r)) ht hl pre.length (by simp)
    rw [e1] at hb
    rw [endOf_flat T pre (flatL r)] at hb
    rw [← e1] at hb
    have ih := kids_l0 r (pre ++ flat T) (acc ++ [flat T]) (by rw [← e1]; exact hl) (by simp at hc ⊢; omega) (by rw [← e1]; exact ht)
    rw [← e1] at ih
    obtain ⟨K1, hb⟩ := hb
    obtain ⟨K2, ih⟩ := ih
    dsimp only at hb ih
    have hseg : ((pre ++ flatL (T :: r)).take (((pre.length + (flat T).length : Nat) : Int)).toNat).drop ((pre.length : Int)).toNat = flat T := by
      rw [e1]
      exact seg_mid pre (flat T) (flatL r) _ _ rfl rfl
    have hfl : (flat T).length ≤ 1000000 := by simp [flatL] at hl; omega
    refine Ev.nxt (max K1 K2) (fun k hkk => ?_)
    simp only [term_Kids.l0]
    rw [if_pos (by simp [flatL]; omega), hb k (by omega), Option.bind_some, if_pos (by omega), if_pos (by omega), if_pos (by simp [flatL]; omega), hseg]
    unfold clone_Term.f
    rw [if_pos (by omega), Option.bind_some, if_pos (by simp at hc; omega)]
    have := ih k (by omega)
    rw [show (((pre ++ flat T).length : Nat) : Int) = ((pre.length + (flat T).length : Nat) : Int) from by simp] at this
    rw [this]
    simp

theorem rkids_l0 : ∀ (ks : List Tr) (pre : List S28) (acc : List (List S28)), (pre ++ flatL ks).length ≤ 1000000 → acc.length + ks.length ≤ 1000000 → tame (pre ++ flatL ks) →
    Ev (fun k => aumbryref04_Kids.l0 k (pre ++ flatL ks) acc (pre.length : Int)) (acc ++ ks.map flat)
  | [], pre, acc, hl, hc, ht => by
    refine Ev.nxt 0 (fun k _ => ?_)
    simp only [aumbryref04_Kids.l0]
    rw [if_neg (by simp [flatL])]
    simp
  | T :: r, pre, acc, hl, hc, ht => by
    have hp := flat_pos T
    have e1 : pre ++ flatL (T :: r) = pre ++ flat T ++ flatL r := by simp [flatL]
    have hb := rbehind_ev (pre ++ flatL (T :: r)) ht hl pre.length (by simp)
    rw [e1] at hb
    rw [endOf_flat T pre (flatL r)] at hb
    rw [← e1] at hb
    have ih := rkids_l0 r (pre ++ flat T) (acc ++ [flat T]) (by rw [← e1]; exact hl) (by simp at hc ⊢; omega) (by rw [← e1]; exact ht)
    rw [← e1] at ih
    obtain ⟨K1, hb⟩ := hb
    obtain ⟨K2, ih⟩ := ih
    dsimp only at hb ih
    have hseg : ((pre ++ flatL (T :: r)).take (((pre.length + (flat T).length : Nat) : Int)).toNat).drop ((pre.length : Int)).toNat = flat T := by
      rw [e1]
      exact seg_mid pre (flat T) (flatL r) _ _ rfl rfl
    have hfl : (flat T).length ≤ 1000000 := by simp [flatL] at hl; omega
    refine Ev.nxt (max K1 K2) (fun k hkk => ?_)
    simp only [aumbryref04_Kids.l0]
    rw [if_pos (by simp [flatL]; omega), hb k (by omega), Option.bind_some, if_pos (by omega), if_pos (by omega), if_pos (by simp [flatL]; omega), hseg]
    unfold aumbryref04_Copy.f
    rw [if_pos (by simp; omega), Option.bind_some, if_pos (by simp at hc; omega), Option.bind_some]
    have := ih k (by omega)
    rw [show (((pre ++ flat T).length : Nat) : Int) = ((pre.length + (flat T).length : Nat) : Int) from by simp] at this
    rw [List.nil_append, this]
    simp

theorem rkids_ev (n : ByteArray) (ks : List Tr) (hl : (flat (.node n ks)).length ≤ 1000000) (ht : tame (flat (.node n ks))) : Ev (fun k => aumbryref04_Kids.f k (flat (.node n ks))) (ks.map flat) := by
  have := flatL_len ks
  have h := rkids_l0 ks [(⟨n, ks.length⟩ : S28)] [] (by simpa [flat] using hl) (by simp [flat] at hl ⊢; omega) (by simpa [flat] using ht)
  simpa [flat, aumbryref04_Kids.f] using h
theorem kids_ok (n : ByteArray) (ks : List Tr) (hf : fine (.node n ks)) (hl : (flat (.node n ks)).length ≤ 64) : Ev (fun k => term_Kids.f k (flat (.node n ks))) (ks.map flat, 0) := by
  have := flatL_len ks
  have ht := tame_of_first _ (fine_to _ hf)
  have h := kids_l0 ks [(⟨n, ks.length⟩ : S28)] [] (by simp [flat] at hl ⊢; omega) (by simp [flat] at hl ⊢; omega) (by simpa [flat] using ht)
  have h1 := check_ev (flat (.node n ks))
  rw [chk_of_tree _ hf hl] at h1
  obtain ⟨K1, h1⟩ := h1
  obtain ⟨K2, h⟩ := h
  dsimp only at h1 h
  refine ⟨max K1 K2, fun k hk => ?_⟩
  dsimp only
  unfold term_Kids.f
  rw [h1 k (by omega), Option.bind_some, if_pos rfl]
  simpa [flat] using h k (by omega)
theorem kids_bad (t : List S28) (h : chk t ≠ 0) : Ev (fun k => term_Kids.f k t) ([], chk t) := by
  obtain ⟨K1, h1⟩ := check_ev t
  dsimp only at h1
  refine ⟨K1, fun k hk => ?_⟩
  dsimp only
  unfold term_Kids.f
  rw [h1 k hk, Option.bind_some, if_neg h]

/-! ### depth -/
mutual
theorem deep_tree : ∀ (T : Tr) (pre post : List S28), (pre ++ flat T ++ post).length ≤ 1000000 → Ev (fun k => term_deep.f k (pre ++ flat T ++ post) (pre.length : Int)) ((dep T : Int), ((pre.length + (flat T).length : Nat) : Int))
  | .node n ks, pre, post, hl => by
    have hw : wrap64 ((pre.length : Int) + 1) = (((pre ++ [(⟨n, ks.length⟩ : S28)]).length : Nat) : Int) := by simp [flat] at hl ⊢; unfold wrap64; omega
    have ht : pre ++ flat (.node n ks) ++ post = (pre ++ [(⟨n, ks.length⟩ : S28)]) ++ flatL ks ++ post := by simp [flat]
    have hrd : rd_T28 (pre ++ flat (.node n ks) ++ post) (pre.length : Int) = ⟨n, ks.length⟩ := by
      rw [show pre ++ flat (.node n ks) ++ post = pre ++ (⟨n, ks.length⟩ : S28) :: (flatL ks ++ post) from by simp [flat]]
      exact rd_mid _ _ _
    have hk := deep_forest ks (pre ++ [(⟨n, ks.length⟩ : S28)]) post 0 0 (by rw [← ht]; exact hl) (by have := flatL_len ks; simp [flat] at hl; omega) (by omega)
    rw [← ht] at hk
    obtain ⟨K, hk⟩ := hk
    dsimp only at hk
    refine Ev.nxt K (fun k hkk => ?_)
    simp only [term_deep.f]
    rw [if_pos (by omega), if_pos (by simp [flat]; omega), hrd, hw]
    dsimp only
    have := hk k hkk
    rw [Nat.zero_add, show (((0 : Nat) : Int)) = 0 from rfl] at this
    rw [this]
    simp [dep, flat]
    omega
theorem deep_forest : ∀ (ks : List Tr) (pre post : List S28) (i m : Nat), (pre ++ flatL ks ++ post).length ≤ 1000000 → i + ks.length ≤ 1000000 → m ≤ 1000000 →
    Ev (fun k => term_deep.l0 k (pre ++ flatL ks ++ post) (m : Int) (pre.length : Int) ((i + ks.length : Nat) : Int) (i : Int)) (((max m (depL ks) + 1 : Nat) : Int), ((pre.length + (flatL ks).length : Nat) : Int))
  | [], pre, post, i, m, hl, hi, hm => by
    refine Ev.nxt 0 (fun k hkk => ?_)
    simp only [term_deep.l0]
    rw [if_neg (by simp)]
    have hw : wrap64 ((m : Int) + 1) = ((m + 1 : Nat) : Int) := by unfold wrap64; omega
    simp [flatL, depL, hw]
  | T :: r, pre, post, i, m, hl, hi, hm => by
    have e1 : pre ++ flatL (T :: r) ++ post = pre ++ flat T ++ (flatL r ++ post) := by simp [flatL]
    have e2 : pre ++ flatL (T :: r) ++ post = (pre ++ flat T) ++ flatL r ++ post := by simp [flatL]
    have hd := dep_le T
    have h1 := deep_tree T pre (flatL r ++ post) (by rw [← e1]; exact hl)
    have h2 := deep_forest r (pre ++ flat T) post (i + 1) (max m (dep T)) (by rw [← e2]; exact hl) (by simp at hi; omega) (by simp [flatL] at hl; omega)
    rw [← e1] at h1
    rw [← e2] at h2
    obtain ⟨K1, h1⟩ := h1
    obtain ⟨K2, h2⟩ := h2
    dsimp only at h1 h2
    have hw : wrap64 ((i : Int) + 1) = ((i + 1 : Nat) : Int) := by simp at hi; unfold wrap64; omega
    have hn : ((i + (T :: r).length : Nat) : Int) = ((i + 1 + r.length : Nat) : Int) := by simp; omega
    have hend : (((pre ++ flat T).length + (flatL r).length : Nat) : Int) = ((pre.length + (flatL (T :: r)).length : Nat) : Int) := by simp [flatL]; omega
    have hpos : (((pre ++ flat T).length : Nat) : Int) = ((pre.length + (flat T).length : Nat) : Int) := by simp
    have hmx : mx (m : Int) (dep T : Int) = ((max m (dep T) : Nat) : Int) := by unfold mx; split <;> omega
    have hmm : max (max m (dep T)) (depL r) = max m (depL (T :: r)) := by simp only [depL]; omega
    rw [hend, hpos, hmm] at h2
    rw [hn]
    refine Ev.nxt (max K1 K2) (fun k hkk => ?_)
    simp only [term_deep.l0]
    rw [if_pos (by omega), hw, h1 k (by omega)]
    simp only [Option.bind_some]
    rw [hmx]
    exact h2 k (by omega)
theorem dep_le : ∀ (T : Tr), dep T ≤ (flat T).length
  | .node n ks => by
    have := depL_le ks
    simp only [dep, flat, List.length_cons]
    omega
theorem depL_le : ∀ (ks : List Tr), depL ks ≤ (flatL ks).length
  | [] => by simp [depL]
  | T :: r => by
    have h1 := dep_le T
    have h2 := depL_le r
    simp only [depL, flatL, List.length_append]
    omega
end

theorem rd_map (pre r : List Tr) (T : Tr) : rd_L3 ((pre ++ T :: r).map flat) (pre.length : Int) = flat T := by
  simp [rd_L3, List.getD_eq_getElem?_getD]
mutual
theorem rdepth_tree : ∀ (T : Tr), (flat T).length ≤ 1000000 → tame (flat T) → Ev (fun k => aumbryref04_Depth.f k (flat T)) (dep T : Int)
  | .node n ks, hl, ht => by
    have h1 := rkids_ev n ks hl ht
    have h2 := rdepth_forest ks [] 0 (by simp [flat] at hl; omega) (fun x hx => ht x (by simp [flat]; exact .inr hx)) (by have := flatL_len ks; simp [flat] at hl ⊢; omega) (by omega)
    refine Ev.step (f := fun k => (aumbryref04_Kids.f k (flat (.node n ks))).bind fun t483 => (aumbryref04_Depth.l0 k 0 t483 (t483.length : Int) 0)) (fun k => by simp only [aumbryref04_Depth.f]) (Ev.bind h1 ?_)
    simpa [dep] using h2
theorem rdepth_forest : ∀ (ks pre : List Tr) (m : Nat), 1 + (flatL ks).length ≤ 1000000 → tame (flatL ks) → (pre ++ ks).length ≤ 1000000 → m ≤ 1000000 →
    Ev (fun k => aumbryref04_Depth.l0 k (m : Int) ((pre ++ ks).map flat) (((pre ++ ks).map flat).length : Int) (pre.length : Int)) ((max m (depL ks) + 1 : Nat) : Int)
  | [], pre, m, hl, ht, hi, hm => by
    refine Ev.nxt 0 (fun k hkk => ?_)
    simp only [aumbryref04_Depth.l0]
    rw [if_neg (by simp)]
    have hw : wrap64 ((m : Int) + 1) = ((m + 1 : Nat) : Int) := by unfold wrap64; omega
    simp [depL, hw]
  | T :: r, pre, m, hl, ht, hi, hm => by
    have hd := dep_le T
    simp only [flatL, List.length_append] at hl
    have h1 := rdepth_tree T (by omega) (fun x hx => ht x (by simp [flatL]; exact .inl hx))
    have h2 := rdepth_forest r (pre ++ [T]) (max m (dep T)) (by omega) (fun x hx => ht x (by simp [flatL]; exact .inr hx)) (by simpa using hi) (by omega)
    have e2 : pre ++ [T] ++ r = pre ++ T :: r := by simp
    rw [e2] at h2
    obtain ⟨K1, h1⟩ := h1
    obtain ⟨K2, h2⟩ := h2
    dsimp only at h1 h2
    have hw : wrap64 ((pre.length : Int) + 1) = (((pre ++ [T]).length : Nat) : Int) := by simp at hi ⊢; unfold wrap64; omega
    have hmm : max (max m (dep T)) (depL r) = max m (depL (T :: r)) := by simp only [depL]; omega
    rw [hmm] at h2
    refine Ev.nxt (max K1 K2) (fun k hkk => ?_)
    simp only [aumbryref04_Depth.l0]
    rw [if_pos (by simp; omega), if_pos (by omega), if_pos (by simp; omega), rd_map, h1 k (by omega), Option.bind_some, hw]
    have := h2 k (by omega)
    by_cases hgt : (dep T : Int) > (m : Int)
    · rw [if_pos hgt]
      rwa [show max m (dep T) = dep T by omega] at this
    · rw [if_neg hgt]
      rwa [show max m (dep T) = m by omega] at this
end

theorem depth_ok (T : Tr) (hf : fine T) (hl : (flat T).length ≤ 64) : Ev (fun k => term_Depth.f k (flat T)) ((dep T : Int), 0) := by
  have h1 := check_ev (flat T)
  rw [chk_of_tree T hf hl] at h1
  have h2 := deep_tree T [] [] (by simp; omega)
  simp only [List.nil_append, List.append_nil] at h2
  obtain ⟨K1, h1⟩ := h1
  obtain ⟨K2, h2⟩ := h2
  dsimp only at h1 h2
  refine ⟨max K1 K2, fun k hk => ?_⟩
  dsimp only
  unfold term_Depth.f
  rw [h1 k (by omega), Option.bind_some, if_pos rfl]
  rw [show term_deep.f k (flat T) 0 = _ from h2 k (by omega), Option.bind_some]
theorem depth_bad (t : List S28) (h : chk t ≠ 0) : Ev (fun k => term_Depth.f k t) (0, chk t) := by
  obtain ⟨K1, h1⟩ := check_ev t
  dsimp only at h1
  refine ⟨K1, fun k hk => ?_⟩
  dsimp only
  unfold term_Depth.f
  rw [h1 k hk, Option.bind_some, if_neg h]

/-! ### the reference's text -/
theorem bytes_append (a b : List UInt8) : bytes a ++ bytes b = bytes (a ++ b) := by
  apply ByteArray.ext
  simp [bytes]
theorem bytes_size (a : List UInt8) : (bytes a).size = a.length := by
  show a.toArray.size = _
  simp
theorem bytes_data (s : ByteArray) : bytes s.data.toList = s := by
  apply ByteArray.ext
  simp [bytes]
mutual
theorem text_tree : ∀ (T : Tr), (flat T).length ≤ 1000000 → tame (flat T) → (txt T).length ≤ 2000000 → Ev (fun k => aumbryref04_Text.f k (flat T)) (bytes (txt T))
  | .node n ks, hl, ht, hx => by
    have h1 := rkids_ev n ks hl ht
    have h2 := text_forest ks [] n.data.toList (by simp [flat] at hl; omega) (fun x hx => ht x (by simp [flat]; exact .inr hx)) (by have := flatL_len ks; simp [flat] at hl ⊢; omega) (by simp [txt] at hx ⊢; omega)
    have hrd : rd_T28 (flat (.node n ks)) 0 = ⟨n, ks.length⟩ := by simp [flat, rd_T28]
    obtain ⟨K1, h1⟩ := h1
    obtain ⟨K2, h2⟩ := h2
    dsimp only at h1 h2
    refine Ev.nxt (max K1 K2) (fun k hkk => ?_)
    simp only [aumbryref04_Text.f]
    rw [if_pos (by simp [flat] <;> omega), h1 k (by omega), Option.bind_some, hrd]
    dsimp only
    have := h2 k (by omega)
    rw [bytes_data] at this
    simp only [List.nil_append, List.length_nil, Int.natCast_zero] at this
    simpa [txt] using this
theorem text_forest : ∀ (ks pre : List Tr) (acc : List UInt8), 1 + (flatL ks).length ≤ 1000000 → tame (flatL ks) → (pre ++ ks).length ≤ 1000000 → (acc ++ txtK (decide (pre.length = 0)) ks).length ≤ 2000000 →
    Ev (fun k => aumbryref04_Text.l0 k (bytes acc) ((pre ++ ks).map flat) (((pre ++ ks).map flat).length : Int) (pre.length : Int)) (bytes (acc ++ txtK (decide (pre.length = 0)) ks ++ (if (pre ++ ks).length = 0 then [] else [41])))
  | [], pre, acc, hl, ht, hi, hx => by
    refine Ev.nxt 0 (fun k hkk => ?_)
    simp only [aumbryref04_Text.l0]
    rw [if_neg (by simp)]
    by_cases h0 : pre.length = 0
    · rw [if_neg (by simp; exact List.eq_nil_of_length_eq_zero h0), if_pos (by simpa using h0)]
      simp [txtK]
    · rw [if_pos (by simp; omega), if_pos (by rw [bytes_size]; simp [txtK] at hx; omega), if_neg (by simpa using h0)]
      simp only [txtK, List.append_nil]
      rw [show (⟨#[41]⟩ : ByteArray) = bytes [41] from rfl, bytes_append]
  | T :: r, pre, acc, hl, ht, hi, hx => by
    simp only [flatL, List.length_append] at hl
    have hx' : (txt T).length ≤ 2000000 := by
      by_cases h0 : pre.length = 0 <;> simp [txtK, h0] at hx <;> omega
    have h1 := text_tree T (by omega) (fun x hx => ht x (by simp [flatL]; exact .inl hx)) hx'
    have h2 := text_forest r (pre ++ [T]) (acc ++ (if pre.length = 0 then 40 else 44) :: txt T) (by omega) (fun x hx => ht x (by simp [flatL]; exact .inr hx)) (by simpa using hi) (by
      by_cases h0 : pre.length = 0 <;> simp [txtK, h0] at hx ⊢ <;> omega)
    have e2 : pre ++ [T] ++ r = pre ++ T :: r := by simp
    rw [e2] at h2
    have hres : acc ++ (if pre.length = 0 then 40 else 44) :: txt T ++ txtK (decide ((pre ++ [T]).length = 0)) r = acc ++ txtK (decide (pre.length = 0)) (T :: r) := by
      by_cases h0 : pre.length = 0 <;> simp [txtK, h0]
    rw [hres] at h2
    obtain ⟨K1, h1⟩ := h1
    obtain ⟨K2, h2⟩ := h2
    dsimp only at h1 h2
    have hw : wrap64 ((pre.length : Int) + 1) = (((pre ++ [T]).length : Nat) : Int) := by simp at hi ⊢; unfold wrap64; omega
    refine Ev.nxt (max K1 K2) (fun k hkk => ?_)
    simp only [aumbryref04_Text.l0]
    have hlen : acc.length + 1 + (txt T).length ≤ 2000000 := by
      by_cases h0 : pre.length = 0 <;> simp [txtK, h0] at hx <;> omega
    rw [if_pos (by simp; omega)]
    by_cases h0 : pre.length = 0
    · have := h2 k (by omega)
      rw [if_pos h0] at this
      rw [if_pos (by omega), if_pos (by rw [bytes_size]; omega), if_pos (by omega), if_pos (by simp; omega), rd_map, h1 k (by omega), Option.bind_some, show (⟨#[40]⟩ : ByteArray) = bytes [40] from rfl, bytes_append, if_pos (by rw [bytes_size, bytes_size]; simp; omega), bytes_append, hw]
      simpa using this
    · have := h2 k (by omega)
      rw [if_neg h0] at this
      rw [if_neg (by omega), if_pos (by rw [bytes_size]; omega), if_pos (by omega), if_pos (by simp; omega), rd_map, h1 k (by omega), Option.bind_some, show (⟨#[44]⟩ : ByteArray) = bytes [44] from rfl, bytes_append, if_pos (by rw [bytes_size, bytes_size]; simp; omega), bytes_append, hw]
      simpa using this
end

theorem rprint_ok (T : Tr) (hf : fine T) (hl : (flat T).length ≤ 64) : Ev (fun k => aumbryref04_Print.f k (flat T)) (bytes (txt T), 0) := by
  have h1 := rcheck_ev (flat T)
  rw [chk_of_tree T hf hl] at h1
  have h2 := text_tree T (by omega) (tame_of_first _ (fine_to _ hf)) (by have := txt_len T hf; omega)
  obtain ⟨K1, h1⟩ := h1
  obtain ⟨K2, h2⟩ := h2
  dsimp only at h1 h2
  refine ⟨max K1 K2, fun k hk => ?_⟩
  dsimp only
  unfold aumbryref04_Print.f
  rw [h1 k (by omega), Option.bind_some, if_pos rfl, h2 k (by omega), Option.bind_some]
theorem rprint_bad (t : List S28) (h : chk t ≠ 0) : Ev (fun k => aumbryref04_Print.f k t) (⟨#[]⟩, chk t) := by
  obtain ⟨K1, h1⟩ := rcheck_ev t
  dsimp only at h1
  refine ⟨K1, fun k hk => ?_⟩
  dsimp only
  unfold aumbryref04_Print.f
  rw [h1 k hk, Option.bind_some, if_neg h]

/-! ### variables -/
def hasB (l : List ByteArray) (s : ByteArray) : Bool := l.any fun x => decide (x.toList = s.toList)
theorem drop_of (l : List ByteArray) (i : Nat) (h : i < l.length) : l.drop i = rdOf ByteArray.empty l i :: l.drop (i + 1) := by
  rw [List.drop_eq_getElem_cons h]
  simp [rdOf, List.getD_eq_getElem?_getD, List.getElem?_eq_getElem h]
theorem has_l0 (l : List ByteArray) (s : ByteArray) (hl : l.length ≤ 1000000) : ∀ d i : Nat, i + d = l.length → Ev (fun k => aumbryref03_Has.l0 k l s (l.length : Int) (i : Int)) (hasB (l.drop i) s)
  | 0, i, h => by
    refine Ev.nxt 0 (fun k _ => ?_)
    simp only [aumbryref03_Has.l0]
    rw [if_neg (by omega), List.drop_eq_nil_of_le (by omega)]
    rfl
  | d + 1, i, h => by
    have hw : wrap64 ((i : Int) + 1) = ((i + 1 : Nat) : Int) := by unfold wrap64; omega
    rw [drop_of l i (by omega)]
    by_cases hc : (rdOf ByteArray.empty l i).toList = s.toList
    · refine Ev.nxt 0 (fun k _ => ?_)
      simp only [aumbryref03_Has.l0]
      rw [if_pos (by omega), if_pos (by omega), if_pos (by omega), if_pos hc]
      simp [hasB, hc]
    · refine Ev.step (f := fun k => aumbryref03_Has.l0 k l s (l.length : Int) ((i + 1 : Nat) : Int)) (fun k => ?_) ?_
      · simp only [aumbryref03_Has.l0]
        rw [if_pos (by omega), if_pos (by omega), if_pos (by omega), if_neg hc, hw]
      · have := has_l0 l s hl d (i + 1) (by omega)
        simpa [hasB, hc] using this
theorem has_ev (l : List ByteArray) (s : ByteArray) (hl : l.length ≤ 1000000) : Ev (fun k => aumbryref03_Has.f k l s) (hasB l s) := has_l0 l s hl l.length 0 (by omega)
theorem index_l0 (l : List ByteArray) (s : ByteArray) (hl : l.length ≤ 1000000) : ∀ d i : Nat, i + d = l.length → ∃ r, Ev (fun k => slices_Index_string_string.l0 k l s (l.length : Int) (i : Int)) r ∧ decide (r ≥ 0) = hasB (l.drop i) s
  | 0, i, h => by
    refine ⟨-1, Ev.nxt 0 (fun k _ => ?_), ?_⟩
    · simp only [slices_Index_string_string.l0]
      rw [if_neg (by omega)]
    · rw [List.drop_eq_nil_of_le (by omega)]
      rfl
  | d + 1, i, h => by
    have hw : wrap64 ((i : Int) + 1) = ((i + 1 : Nat) : Int) := by unfold wrap64; omega
    rw [drop_of l i (by omega)]
    by_cases hc : (rdOf ByteArray.empty l i).toList = s.toList
    · refine ⟨(i : Int), Ev.nxt 0 (fun k _ => ?_), ?_⟩
      · simp only [slices_Index_string_string.l0]
        rw [if_pos (by omega), if_pos (by omega), if_pos (by omega), if_pos hc.symm]
      · simp [hasB, hc]
    · obtain ⟨r, h1, h2⟩ := index_l0 l s hl d (i + 1) (by omega)
      refine ⟨r, Ev.step (f := fun k => slices_Index_string_string.l0 k l s (l.length : Int) ((i + 1 : Nat) : Int)) (fun k => ?_) h1, ?_⟩
      · simp only [slices_Index_string_string.l0]
        rw [if_pos (by omega), if_pos (by omega), if_pos (by omega), if_neg (fun h => hc h.symm), hw]
      · rw [h2]
        simp [hasB, hc]
theorem contains_ev (l : List ByteArray) (s : ByteArray) (hl : l.length ≤ 1000000) : Ev (fun k => slices_Contains_string_string.f k l s) (hasB l s) := by
  obtain ⟨r, h1, h2⟩ := index_l0 l s hl l.length 0 (by omega)
  refine Ev.congr (f := fun k => (slices_Index_string_string.l0 k l s (l.length : Int) ((0 : Nat) : Int)).bind fun t457 => (some (decide (t457 ≥ 0)))) (fun k => by rfl) (Ev.bind h1 ?_)
  rw [h2]
  exact Ev.now _

def varsL : List S28 → List ByteArray → List ByteArray
  | [], acc => acc
  | c :: r, acc => varsL r (if kindOf c.f0 = 2 then (if hasB acc c.f0 then acc else acc ++ [c.f0]) else acc)
theorem vars_l0 (t : List S28) (ht : t.length ≤ 1000) : ∀ (d i : Nat) (acc : List ByteArray), i + d = t.length → acc.length ≤ i → Ev (fun k => term_Vars.l0 k acc t (t.length : Int) (i : Int)) (varsL (t.drop i) acc, 0)
  | 0, i, acc, h, ha => by
    refine Ev.nxt 0 (fun k _ => ?_)
    simp only [term_Vars.l0]
    rw [if_neg (by omega), drop_end t i (by omega)]
    rfl
  | d + 1, i, acc, h, ha => by
    have hw : wrap64 ((i : Int) + 1) = ((i + 1 : Nat) : Int) := by unfold wrap64; omega
    rw [drop_rd t i (by omega)]
    obtain ⟨K1, hk⟩ := kind_ev (rd_T28 t i).f0
    obtain ⟨K2, hc⟩ := contains_ev acc (rd_T28 t i).f0 (by omega)
    dsimp only at hk hc
    by_cases c1 : kindOf (rd_T28 t i).f0 = 2
    · by_cases c2 : hasB acc (rd_T28 t i).f0 = true
      · have ih := vars_l0 t ht d (i + 1) acc (by omega) (by omega)
        obtain ⟨K3, ih⟩ := ih
        refine Ev.nxt (max (max K1 K2) K3) (fun k hkk => ?_)
        simp only [term_Vars.l0, varsL]
        rw [if_pos (by omega), if_pos (by omega), if_pos (by omega), hk k (by omega), Option.bind_some, if_pos c1, hc k (by omega), Option.bind_some, if_pos c2, hw, if_pos c1, if_pos c2]
        exact ih k (by omega)
      · have ih := vars_l0 t ht d (i + 1) (acc ++ [(rd_T28 t i).f0]) (by omega) (by simp; omega)
        obtain ⟨K3, ih⟩ := ih
        refine Ev.nxt (max (max K1 K2) K3) (fun k hkk => ?_)
        simp only [term_Vars.l0, varsL]
        rw [if_pos (by omega), if_pos (by omega), if_pos (by omega), hk k (by omega), Option.bind_some, if_pos c1, hc k (by omega), Option.bind_some, if_neg c2, if_pos (by omega), hw, if_pos c1, if_neg c2]
        exact ih k (by omega)
    · have ih := vars_l0 t ht d (i + 1) acc (by omega) (by omega)
      obtain ⟨K3, ih⟩ := ih
      refine Ev.nxt (max K1 K3) (fun k hkk => ?_)
      simp only [term_Vars.l0, varsL]
      rw [if_pos (by omega), if_pos (by omega), if_pos (by omega), hk k (by omega), Option.bind_some, if_neg c1, hw, if_neg c1]
      exact ih k (by omega)
theorem rvars_l0 (t : List S28) (ht : t.length ≤ 1000) : ∀ (d i : Nat) (acc : List ByteArray), i + d = t.length → acc.length ≤ i → Ev (fun k => aumbryref04_Vars.l0 k t acc (t.length : Int) (i : Int)) (varsL (t.drop i) acc)
  | 0, i, acc, h, ha => by
    refine Ev.nxt 0 (fun k _ => ?_)
    simp only [aumbryref04_Vars.l0]
    rw [if_neg (by omega), drop_end t i (by omega)]
    rfl
  | d + 1, i, acc, h, ha => by
    have hw : wrap64 ((i : Int) + 1) = ((i + 1 : Nat) : Int) := by unfold wrap64; omega
    rw [drop_rd t i (by omega)]
    obtain ⟨K1, hk⟩ := rkind_ev (rd_T28 t i).f0
    obtain ⟨K2, hc⟩ := has_ev acc (rd_T28 t i).f0 (by omega)
    dsimp only at hk hc
    by_cases c1 : kindOf (rd_T28 t i).f0 = 2
    · by_cases c2 : hasB acc (rd_T28 t i).f0 = true
      · have ih := rvars_l0 t ht d (i + 1) acc (by omega) (by omega)
        obtain ⟨K3, ih⟩ := ih
        refine Ev.nxt (max (max K1 K2) K3) (fun k hkk => ?_)
        simp only [aumbryref04_Vars.l0, varsL]
        rw [if_pos (by omega), if_pos (by omega), if_pos (by omega), hk k (by omega), Option.bind_some, if_pos c1, hc k (by omega), Option.bind_some, if_pos c2, hw, if_pos c1, if_pos c2]
        exact ih k (by omega)
      · have ih := rvars_l0 t ht d (i + 1) (acc ++ [(rd_T28 t i).f0]) (by omega) (by simp; omega)
        obtain ⟨K3, ih⟩ := ih
        refine Ev.nxt (max (max K1 K2) K3) (fun k hkk => ?_)
        simp only [aumbryref04_Vars.l0, varsL]
        rw [if_pos (by omega), if_pos (by omega), if_pos (by omega), hk k (by omega), Option.bind_some, if_pos c1, hc k (by omega), Option.bind_some, if_neg c2, if_pos (by omega), hw, if_pos c1, if_neg c2]
        exact ih k (by omega)
    · have ih := rvars_l0 t ht d (i + 1) acc (by omega) (by omega)
      obtain ⟨K3, ih⟩ := ih
      refine Ev.nxt (max K1 K3) (fun k hkk => ?_)
      simp only [aumbryref04_Vars.l0, varsL]
      rw [if_pos (by omega), if_pos (by omega), if_pos (by omega), hk k (by omega), Option.bind_some, if_neg c1, hw, if_neg c1]
      exact ih k (by omega)
theorem varsL_len : ∀ (t : List S28) (acc : List ByteArray), (varsL t acc).length ≤ acc.length + t.length
  | [], acc => by simp [varsL]
  | c :: r, acc => by
    simp only [varsL]
    refine Nat.le_trans (varsL_len r _) ?_
    split
    · split
      · simp
      · simp; omega
    · simp
theorem vars_ok (t : List S28) (h : chk t = 0) : Ev (fun k => term_Vars.f k t) (varsL t [], 0) := by
  have hl : t.length ≤ 64 := by obtain ⟨T, _, _, hl⟩ := tree_of_chk t h; exact hl
  have h1 := check_ev t
  rw [h] at h1
  obtain ⟨K1, h1⟩ := h1
  obtain ⟨K2, h2⟩ := vars_l0 t (by omega) t.length 0 [] (by omega) (by simp)
  dsimp only at h1 h2
  refine ⟨max K1 K2, fun k hk => ?_⟩
  dsimp only
  unfold term_Vars.f
  rw [h1 k (by omega), Option.bind_some, if_pos rfl]
  exact h2 k (by omega)
theorem vars_bad (t : List S28) (h : chk t ≠ 0) : Ev (fun k => term_Vars.f k t) ([], chk t) := by
  obtain ⟨K1, h1⟩ := check_ev t
  dsimp only at h1
  refine ⟨K1, fun k hk => ?_⟩
  dsimp only
  unfold term_Vars.f
  rw [h1 k hk, Option.bind_some, if_neg h]
theorem rvars_ev (t : List S28) (h : t.length ≤ 1000) : Ev (fun k => aumbryref04_Vars.f k t) (varsL t []) := rvars_l0 t h t.length 0 [] (by omega) (by simp)

/-! ### alike -/
theorem sameS_l0 (a : List ByteArray) (hb : a.length ≤ 4611686018427387904) : ∀ d i : Nat, i + d = a.length → Ev (fun k => aumbryref03_Same.l0 k a a (a.length : Int) (i : Int)) true
  | 0, i, h => Ev.nxt 0 (fun k _ => by simp only [aumbryref03_Same.l0]; rw [if_neg (by omega)])
  | d + 1, i, h => by
    have hw : wrap64 ((i : Int) + 1) = ((i + 1 : Nat) : Int) := by unfold wrap64; omega
    refine Ev.step (f := fun k => aumbryref03_Same.l0 k a a (a.length : Int) ((i + 1 : Nat) : Int)) (fun k => ?_) (sameS_l0 a hb d (i + 1) (by omega))
    simp only [aumbryref03_Same.l0]
    rw [if_pos (by omega), if_pos (by omega), if_pos (by omega), if_pos (by omega), if_pos trivial, hw]
theorem sameS_ev (a : List ByteArray) (hb : a.length ≤ 4611686018427387904) : Ev (fun k => aumbryref03_Same.f k a a) true :=
  Ev.congr (fun k => by unfold aumbryref03_Same.f; rw [if_pos rfl]; rfl) (sameS_l0 a hb a.length 0 (by omega))
theorem sameT_l0 (a : List S28) (hb : a.length ≤ 4611686018427387904) : ∀ d i : Nat, i + d = a.length → Ev (fun k => aumbryref04_Same.l0 k a a (a.length : Int) (i : Int)) true
  | 0, i, h => Ev.nxt 0 (fun k _ => by simp only [aumbryref04_Same.l0]; rw [if_neg (by omega)])
  | d + 1, i, h => by
    have hw : wrap64 ((i : Int) + 1) = ((i + 1 : Nat) : Int) := by unfold wrap64; omega
    refine Ev.step (f := fun k => aumbryref04_Same.l0 k a a (a.length : Int) ((i + 1 : Nat) : Int)) (fun k => ?_) (sameT_l0 a hb d (i + 1) (by omega))
    simp only [aumbryref04_Same.l0]
    rw [if_pos (by omega), if_pos (by omega), if_pos (by omega), if_pos (by omega), if_neg (by simp), hw]
theorem sameT_ev (a : List S28) (hb : a.length ≤ 4611686018427387904) : Ev (fun k => aumbryref04_Same.f k a a) true :=
  Ev.congr (fun k => by unfold aumbryref04_Same.f; rw [if_pos rfl]; rfl) (sameT_l0 a hb a.length 0 (by omega))
theorem sameAll_l0 (a : List (List S28)) (hb : a.length ≤ 4611686018427387904) (hq : ∀ x ∈ a, x.length ≤ 4611686018427387904) : ∀ d i : Nat, i + d = a.length → Ev (fun k => aumbryref04_SameAll.l0 k a a (a.length : Int) (i : Int)) true
  | 0, i, h => Ev.nxt 0 (fun k _ => by simp only [aumbryref04_SameAll.l0]; rw [if_neg (by omega)])
  | d + 1, i, h => by
    have hw : wrap64 ((i : Int) + 1) = ((i + 1 : Nat) : Int) := by unfold wrap64; omega
    have hm : rd_L3 a i ∈ a := by
      have : rd_L3 a i = a[i] := by simp [rd_L3, List.getD_eq_getElem?_getD, List.getElem?_eq_getElem (show i < a.length by omega)]
      rw [this]
      exact List.getElem_mem _
    refine Ev.step (f := fun k => (aumbryref04_Same.f k (rd_L3 a i) (rd_L3 a i)).bind fun t399 => (if t399 = true then (aumbryref04_SameAll.l0 k a a (a.length : Int) ((i + 1 : Nat) : Int)) else (some false))) (fun k => ?_) (Ev.bind (sameT_ev _ (hq _ hm)) ?_)
    · simp only [aumbryref04_SameAll.l0]
      rw [if_pos (by omega), if_pos (by omega), if_pos (by omega), if_pos (by omega), hw]
    · simp only [if_true]
      exact sameAll_l0 a hb hq d (i + 1) (by omega)
theorem sameAll_ev (a : List (List S28)) (hb : a.length ≤ 4611686018427387904) (hq : ∀ x ∈ a, x.length ≤ 4611686018427387904) : Ev (fun k => aumbryref04_SameAll.f k a a) true :=
  Ev.congr (fun k => by unfold aumbryref04_SameAll.f; rw [if_pos rfl]; rfl) (sameAll_l0 a hb hq a.length 0 (by omega))

end Go.Proofs.Ytnkpcnnbeaomnaa.C
end

section
/- Any term is written, with its variables, its depth and its arguments, or refused, as the reference does: the law's plain statement. No condition but the form's own reach. -/
namespace Go.Proofs.Ytnkpcnnbeaomnaa.Pure
open Go.RowKit Go.Proofs.Ytnkpcnnbeaomnaa.C Go.Proofs.YtnkpcnnbeaomnaaW.PrintWords Go.Proofs.YtnkpcnnbeaomnaaW.PrintLast
set_option linter.unusedVariables false
set_option linter.unusedSimpArgs false

theorem wakes4_at : aumbrylaw04_wakes.f 40 = some true := by kernel_rfl
theorem wakes4_ev : Ev (fun k => aumbrylaw04_wakes.f k) true := Ev.of (g := fun k => aumbrylaw04_wakes.f k) (fun k => aumbrylaw04_wakes.mono k) wakes4_at
theorem copy_ev {t : List S28} (h : t.length < 5864062014805) : Ev (fun _ => aumbryref04_Copy.f t) t := ⟨0, fun k _ => by dsimp only; unfold aumbryref04_Copy.f; rw [if_pos (by simpa using h)]; rfl⟩

theorem TermPrints (t : List S28) (h : t.length < 5864062014805) : ∃ k, aumbrylaw04_TermPrints.f k t = some true := by
  refine Ev.rounds (r := true) ?_
  by_cases hc : chk t = 0
  · obtain ⟨T, rfl, hf, hl⟩ := tree_of_chk t hc
    obtain ⟨n, ks⟩ := T
    have htame := tame_of_first _ (fine_to _ hf)
    have hks := flatL_len ks
    have hfl : (flat (.node n ks)).length = 1 + (flatL ks).length := by simp [flat]; omega
    have hkm : ∀ x ∈ ks.map flat, x.length ≤ 4611686018427387904 := by
      intro x hx
      obtain ⟨y, hy, rfl⟩ := List.mem_map.1 hx
      have hle : (flat y).length ≤ (flatL ks).length := by
        clear hf hl htame hks hfl hx hc h
        induction ks with
        | nil => cases hy
        | cons z r ih =>
          rcases List.mem_cons.1 hy with rfl | hy
          · simp [flatL]
          · have := ih hy; simp [flatL]; omega
      omega
    have hv := varsL_len (flat (.node n ks)) []
    refine Ev.bind wakes4_ev ?_
    simp only [if_true]
    refine Ev.bind (copy_ev h) (Ev.bind (print_ok _ hf hl) (Ev.bind (copy_ev h) (Ev.bind (vars_ok _ hc) (Ev.bind (copy_ev h) (Ev.bind (depth_ok _ hf hl) (Ev.bind (copy_ev h) (Ev.bind (kids_ok n ks hf hl) (Ev.bind (rprint_ok _ hf hl) ?_))))))))
    simp only [if_true]
    refine Ev.step (f := fun k => (aumbryref04_Vars.f k (flat (.node n ks))).bind fun t515 => ((aumbryref03_Same.f k (varsL (flat (.node n ks)) []) t515).bind fun t518 => (if t518 = true then ((aumbryref04_Depth.f k (flat (.node n ks))).bind fun t519 => (if (dep (.node n ks) : Int) = t519 then ((aumbryref04_Kids.f k (flat (.node n ks))).bind fun t520 => ((aumbryref04_SameAll.f k (ks.map flat) t520).bind fun t523 => (some t523))) else (some false))) else (some false)))) (fun k => ?_) ?_
    · simp only [aumbrylaw04_TermPrints.j0]
      rw [if_neg (by simp), if_pos trivial, if_pos trivial]
    · refine Ev.bind (rvars_ev _ (by omega)) (Ev.bind (sameS_ev _ (by simp at hv; omega)) ?_)
      simp only [if_true]
      refine Ev.bind (rdepth_tree _ (by omega) htame) ?_
      simp only [if_true]
      refine Ev.bind (rkids_ev n ks (by omega) htame) (Ev.bind (sameAll_ev _ (by simp; omega) hkm) (Ev.now true))
  · refine Ev.bind wakes4_ev ?_
    simp only [if_true]
    refine Ev.bind (copy_ev h) (Ev.bind (print_bad _ hc) (Ev.bind (copy_ev h) (Ev.bind (vars_bad _ hc) (Ev.bind (copy_ev h) (Ev.bind (depth_bad _ hc) (Ev.bind (copy_ev h) (Ev.bind (kids_bad _ hc) (Ev.bind (rprint_bad _ hc) ?_))))))))
    simp only [if_true]
    refine Ev.nxt 0 (fun k _ => ?_)
    simp only [aumbrylaw04_TermPrints.j0]
    rw [if_neg (by simp), if_neg hc, if_pos (by rw [ByteArray.toList_eq]), if_pos (by rfl), if_pos trivial]
    rfl

end Go.Proofs.Ytnkpcnnbeaomnaa.Pure
end

section
/- An argument that can be read as data reads as a plain Lean value of its kind (strings, whole numbers, structs of two, slices of these), with the form's own bounds on its parts. -/
namespace Go.Proofs.Ytnkpcnnbeaomnaa.C
open Go.RowKit Go.ChangeShapes Go.WideShapes Go.Deep Go.Proofs.YtnkpcnnbeaomnaaW.PrintWords
set_option linter.unusedVariables false
set_option linter.unusedSimpArgs false

section
variable {H : Type} {enc : TypeId × Value → H} {P : Program} {w : World} {base : Nat} {spare : Nat → Bool} {held : Bool}

/-- What reads as data of type T is of kind d, and B holds of it. -/
def Opens (enc : TypeId × Value → H) (P : Program) (w : World) (base : Nat) (spare : Nat → Bool) (held : Bool) {α : Type} (d : Kd α) (T : TypeId) (B : α → Prop) : Prop :=
  ∀ fuel cs x, DataW.trod enc P w base spare held fuel T cs = some x → (∀ n ∈ x.1.weights P T, n ≤ reachBytes) → ∃ y, d.K w y cs ∧ B y

theorem opens_string {T : TypeId} (h : P.underlying T = some .string) : Opens enc P w base spare held Kd.string T (fun s => s.size ≤ reachBytes) := by
  intro fuel cs x hx hw
  obtain ⟨s, rfl, rfl, hs⟩ := DataW.trod_string h hx
  refine ⟨s, rfl, ?_⟩
  have := hw s.data.toList.length (by simp [DataW.weights])
  rwa [data_length] at this
theorem opens_int {T : TypeId} {k : IntKind} (h : P.underlying T = some (.int k)) : Opens enc P w base spare held (Kd.int k) T (fun n => (Lit.int k n).wf = true) := by
  intro fuel cs x hx hw
  obtain ⟨n, rfl, rfl, hs⟩ := DataW.trod_int h hx
  exact ⟨n, rfl, hs⟩
theorem opens_pair {α β : Type} {T : TypeId} {a : Kd α} {b : Kd β} {A : α → Prop} {B : β → Prop} {f0 f1 : Field} (h : P.underlying T = some (.struct #[f0, f1])) (hT : P.cellsOf T = P.cellsOf f0.type + P.cellsOf f1.type) (h0 : f0.offset = 0) (h1 : f1.offset = P.cellsOf f0.type)
    (ha : Opens enc P w base spare held a f0.type A) (hb : Opens enc P w base spare held b f1.type B) : Opens enc P w base spare held (Kd.pair a b) T (fun x => A x.1 ∧ B x.2) := by
  intro fuel cs x hx hw
  obtain ⟨y0, y1, n, rfl, hl, hy0, hy1⟩ := trod_struct2 h hx
  simp only [DataW.weights, h, List.map_cons, List.map_nil, DataW.weightsEach, List.append_nil, List.mem_append] at hw
  obtain ⟨z0, hz0, hA⟩ := ha _ _ _ hy0 (fun n hn => hw n (.inl hn))
  obtain ⟨z1, hz1, hB⟩ := hb _ _ _ hy1 (fun n hn => hw n (.inr hn))
  refine ⟨(z0, z1), ⟨_, _, ?_, hz0, hz1⟩, hA, hB⟩
  rw [h0, h1, List.drop_zero]
  have : (cs.drop (P.cellsOf f0.type)).take (P.cellsOf f1.type) = cs.drop (P.cellsOf f0.type) := List.take_of_length_le (by rw [List.length_drop]; omega)
  rw [this, List.take_append_drop]
theorem opens_iso {α β : Type} {T : TypeId} {d : Kd α} {A : α → Prop} (f : β → α) (g : α → β) (hfg : ∀ x, f (g x) = x) (h : Opens enc P w base spare held d T A) : Opens enc P w base spare held (Kd.iso d f) T (fun x => A (f x)) := by
  intro fuel cs x hx hw
  obtain ⟨y, hy, hA⟩ := h _ _ _ hx hw
  exact ⟨g y, by show d.K w (f (g y)) cs; rw [hfg]; exact hy, by show A (f (g y)); rw [hfg]; exact hA⟩

theorem mem_weightsAll {e : TypeId} : ∀ (l : List (DataW H)) (d : DataW H), d ∈ l → ∀ n ∈ d.weights P e, n ∈ DataW.weightsAll P e l
  | c :: r, d, hd, n, hn => by
    simp only [DataW.weightsAll, List.mem_append]
    rcases List.mem_cons.1 hd with rfl | hd
    · exact .inl hn
    · exact .inr (mem_weightsAll r d hd n hn)

theorem list_of {α : Type} {n : Nat} {p : Nat → α → Prop} (h : ∀ i, i < n → ∃ x, p i x) : ∃ l : List α, l.length = n ∧ ∀ i x, l[i]? = some x → p i x := by
  induction n with
  | zero => exact ⟨[], rfl, fun i x hx => by simp at hx⟩
  | succ n ih =>
    obtain ⟨l, hl, hp⟩ := ih (fun i hi => h i (by omega))
    obtain ⟨x, hx⟩ := h n (by omega)
    refine ⟨l ++ [x], by simp [hl], fun i y hy => ?_⟩
    by_cases hi : i < n
    · rw [List.getElem?_append_left (by omega)] at hy
      exact hp i y hy
    · have hi' : i = n := by
        have := (List.getElem?_eq_some_iff.1 hy).1
        simp at this
        omega
      subst hi'
      rw [List.getElem?_append_right (by omega), hl] at hy
      simp at hy
      subst hy
      exact hx

theorem opens_slice {α : Type} {T e : TypeId} {d : Kd α} {B : α → Prop} {bytes : Nat} (h : P.underlying T = some (.slice e)) (hsz : d.sz = P.cellsOf e) (hby : P.bytesOf e = bytes) (hd : Opens enc P w base spare held d e B) :
    Opens enc P w base spare held (Kd.slice e d) T (fun l => l.length * bytes ≤ reachBytes ∧ ∀ x ∈ l, B x) := by
  intro fuel cs x hx hw
  rcases open_slice h hx with ⟨rfl, rfl⟩ | ⟨a, len, cap, m, n, D, Pl, rfl, hb, hl, hm, hmm, rfl, hi⟩
  · exact ⟨[], ⟨none, 0, rfl, Nat.le_refl _, rfl, by simp, fun h => absurd h (by simp)⟩, by simp, fun x hx => by cases hx⟩
  · have hlm : len ≤ m := by rw [hmm]; split <;> omega
    simp only [DataW.weights, h, List.mem_cons, List.mem_append] at hw
    have hall : ∀ i, i < len → ∃ y, (∃ cs', w.cells? base (a.add (i * P.cellsOf e)) (P.cellsOf e) = some cs' ∧ d.K w y cs') ∧ B y := by
      intro i hil
      obtain ⟨cs', hc, ht⟩ := hi i (by omega)
      obtain ⟨y, hy, hB⟩ := hd _ _ _ ht (fun n hn => hw n (.inr (.inl (mem_weightsAll _ (D i) (List.mem_map.2 ⟨i, List.mem_range.2 hil, rfl⟩) n hn))))
      exact ⟨y, ⟨cs', hc, hy⟩, hB⟩
    obtain ⟨l, hll, hp⟩ := list_of hall
    have hlen : len * bytes ≤ reachBytes := by
      have := hw _ (.inl rfl)
      rw [hby] at this
      simp only [List.length_map, List.length_range] at this
      exact Nat.le_trans (Nat.mul_le_mul_right _ (by omega)) this
    refine ⟨l, ⟨some a, cap, by rw [hll], by omega, rfl, by simp only [maxLen] at hm; omega, fun _ => ⟨a, rfl, fun j p hj => ?_⟩⟩, by rw [hll]; exact hlen, fun x hx => ?_⟩
    · obtain ⟨⟨cs', hc, hK⟩, _⟩ := hp j p hj
      obtain ⟨_, hcl, hat⟩ := World.cells?_some hc
      refine ⟨cs', by rw [hsz]; exact hcl, hK, fun i u hu => ?_⟩
      have hil : i < P.cellsOf e := by
        have := (List.getElem?_eq_some_iff.1 hu).1
        omega
      rw [hsz, ← Go.Deep.add_add, hat i hil, hu]
    · obtain ⟨i, hi, rfl⟩ := List.getElem_of_mem hx
      exact (hp i _ (List.getElem?_eq_getElem hi)).2
end

section
variable {H : Type} {enc : TypeId × Value → H} {w : World} {base : Nat} {spare : Nat → Bool} {held : Bool}
theorem cells9 : Try.prog.cellsOf 9 = 1 := by kernel_rfl
theorem cells3 : Try.prog.cellsOf 3 = 1 := by kernel_rfl
theorem cells28 : Try.prog.cellsOf 28 = 2 := by kernel_rfl
theorem cells23 : Try.prog.cellsOf 23 = 1 := by kernel_rfl
theorem bytes28 : Try.prog.bytesOf 28 = 24 := by kernel_rfl
theorem bytes23 : Try.prog.bytesOf 23 = 24 := by kernel_rfl
def Bd28 (c : S28) : Prop := c.f0.size ≤ reachBytes ∧ (Lit.int .i64 c.f1).wf = true
def BdT (t : List S28) : Prop := t.length * 24 ≤ reachBytes ∧ ∀ c ∈ t, Bd28 c
def BdL (l : List (List S28)) : Prop := l.length * 24 ≤ reachBytes ∧ ∀ t ∈ l, BdT t
theorem opens28 : Opens enc Try.prog w base spare held k28 28 Bd28 :=
  opens_iso (fun x : S28 => (x.f0, x.f1)) (fun x => ⟨x.1, x.2⟩) (fun _ => rfl) (opens_pair Try.underlying28 (by rw [cells28, cells9, cells3]) rfl (by rw [cells9]) (opens_string Try.underlying9) (opens_int Try.underlying3))
theorem opens23 : Opens enc Try.prog w base spare held (Kd.slice 28 k28) 23 BdT := opens_slice Try.underlying23 (by rw [cells28]; rfl) bytes28 opens28
theorem opens48 : Opens enc Try.prog w base spare held (Kd.slice 23 (Kd.slice 28 k28)) 48 BdL := opens_slice Try.underlying48 (by rw [cells23]; rfl) bytes23 opens23

theorem open_any {α : Type} {d : Kd α} {T e : TypeId} {B : List α → Prop} {A : Option Addr} {n c : Nat} {x : DataW H} {ps : List MemPlace} {ts : List TypeId} {ds : List (DataW H)} {j : Nat} (ho : Opens enc Try.prog w base spare held (Kd.slice e d) T B)
    (hsz : (DataW.weightsEach Try.prog ts ds).all (· ≤ reachBytes) = true) (ht : ts[j]? = some T) (hd : ds[j]? = some x) (h : DataW.Trod enc Try.prog w base spare held T (.slice A n c) x ps) :
    ∃ l : List α, l.length = n ∧ n ≤ c ∧ d.C w A n l ∧ B l := by
  obtain ⟨fuel, hf⟩ := h
  obtain ⟨l, ⟨A', c', hv, hl, hC⟩, hB⟩ := ho _ _ _ hf (fun n hn => by
    have := List.all_eq_true.1 hsz _ (DataW.weights_mem_each ht hd n hn)
    simpa using this)
  simp [Value.cells] at hv
  obtain ⟨rfl, rfl, rfl⟩ := hv
  exact ⟨l, rfl, hl, hC, hB⟩
end
end Go.Proofs.Ytnkpcnnbeaomnaa.C
end

section
/- The row TermPrints, out of its walk (C48), its plain law and the way an argument reads (HOpen). -/
namespace Go.Proofs.Ytnkpcnnbeaomnaa.termPrints
open Go.ChangeShapes Go.WideShapes Go.ChangeAt Go.RowKit
open Go.ChangeMaps (open_string shut_string)
set_option linter.unusedVariables false
theorem own : ownKnob Try.prog.godebug = none := by kernel_rfl
theorem laidOut : laidOutB Try.prog = true := by kernel_rfl
set_option maxRecDepth 100000 in
theorem lifted (os : Os) (started : os.Started) (H : Type) (enc : TypeId × Value → H) :
    ReturnsInHanded {} Try.checked os 8 .any (Rows.termPrintsSpec.pre6 enc Try.prog Try.f8 Rows.termPrintsRow.domain false) (Rows.termPrintsSpec.post enc Try.prog Try.f8 false true false false) := by
  refine returnsInHanded_of_change_sized (C := Try.checked) own started (by kernel_rfl) Try.func8
    (ChangeSpec.witness6 (enc := enc) (C := Try.checked) false ⟨#[], #[.slice none 0 0], []⟩ 8 (by kernel_rfl) (by kernel_rfl) (by kernel_rfl) (by kernel_rfl)) ?_
  intro W base args ds gs before hval0 hW hcnd hsz0 _
  have hsz : (DataW.weightsEach Try.prog (Try.f8.params.toList ++ Rows.termPrintsSpec.plain.varTypes Try.prog) (ds ++ gs)).all (· ≤ reachBytes) = true := hsz0
  have hval : ∀ (j : Nat) t v, Try.f8.params[j]? = some t → args[j]? = some v → Value.okWide Try.prog W .any base t v := hval0
  have hW' := hW
  obtain ⟨p, q, hA0, hV, rfl, hfz, hnd⟩ := hW
  have hA : DataW.TrodAll enc Try.prog W 0 (fun _ => true) true Try.f8.params.toList args.toList ds p := hA0
  rw [Try.params8] at hA hval hsz
  obtain ⟨v0, vs0, d0, ds0, p0, q0, hargs, rfl, rfl, h0, r0⟩ := trodAll_cons hA
  obtain ⟨rfl, rfl, rfl⟩ := trodAll_nil r0
  obtain rfl : args = #[v0] := by cases args; simp_all
  obtain ⟨rfl, rfl⟩ := trodVars_none hV
  obtain ⟨A0, n0, c0, rfl⟩ := okWide_slice Try.underlying23 (hval 0 23 v0 rfl rfl)
  obtain ⟨l0, rfl, hc0, hr0, hB0⟩ := C.open_any C.opens23 hsz (j := 0) rfl rfl h0
  have lt0 : ∀ x ∈ p0, x.block < W.heap.size := by
    obtain ⟨m, hm⟩ := h0
    exact DataW.trod_lt m _ _ _ hm
  have hb : l0.length < 5864062014805 := by
    have := hB0.1
    simp only [reachBytes] at this
    omega
  clear hA0 hval0 hsz0 hsz
  obtain ⟨k, hk⟩ := Pure.TermPrints l0 hb
  refine (C.aumbrylaw04_TermPrints.calls k A0 c0 l0 true W hr0 hc0 hk).mono fun e W' ⟨he, bel⟩ => ?_
  subst he
  have y0 := Below.trod laidOut (by kernel_rfl) (of_decide_eq_true (by kernel_rfl)) h0 bel lt0
  exact ⟨_, rfl, _, _, _, [], _, [], hW', trodAll_mk1 (shut_bool Try.underlying4 _), (trodAll_cons_mk y0 trodAll_mk0), rfl, bel.frame _, fun h => by cases h⟩
theorem over : Rows.termPrintsRow.holds Try.pinned (OpenSpec.ofChange Rows.termPrintsSpec) :=
  OpenClaim.holds_of_wide 8 Try.f8 rfl rfl rfl rfl rfl rfl rfl ⟨rfl, rfl, rfl, rfl, rfl⟩ rfl rfl rfl rfl rfl (by kernel_rfl) Try.func8 (by kernel_rfl)
    (of_decide_eq_true (by kernel_rfl)) (by unfold Func.isWrapper; first | (rw [if_pos (by decide +kernel)]; kernel_rfl) | (rw [if_neg (by decide +kernel)]; exact ⟨rfl, rfl⟩))
    (fun os started H enc _ => lifted os started H enc)
theorem proved : Rows.TermPrintsSaid := over
#print axioms proved
end Go.Proofs.Ytnkpcnnbeaomnaa.termPrints
namespace Go.Proofs.Ytnkpcnnbeaomnaa
/-- The row, under a short name, for the claim. -/
theorem termPrints_holds : Rows.TermPrintsSaid := termPrints.proved
end Go.Proofs.Ytnkpcnnbeaomnaa
end
