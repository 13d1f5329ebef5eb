import Derived.Test.YtnkpcnnbeaomnaaTO9

section
/- term.write and term.Print at this dump (functions 43 and 19). -/
namespace Go.Proofs.Ytnkpcnnbeaomnaa.C
open Go.RowKit Go.Proofs.YtnkpcnnbeaomnaaW.PrintWords Go.Proofs.YtnkpcnnbeaomnaaW.PrintLast Go.Proofs.YtnkpcnnbeaomnaaW.PrintMore
attribute [local go_sem] max2_int min2_int max_two min_two max_three min_three max_four min_four   -- for this text's walks alone
set_option linter.unusedVariables false
set_option linter.unusedSimpArgs false

mutual
def wrt.f : Nat → List S28 → Int → Option (List UInt8 × Int)
  | 0, _, _ => none
  | k + 1, t, a => if 0 ≤ a then (if a < (t.length : Int) then ((wrt.l k t (wrap64 (a + 1)) (rd_T28 t a).f1 0 (rd_T28 t a).f0.data.toList).bind fun p => some (if 0 < (rd_T28 t a).f1 then (p.1 ++ [41], p.2) else p)) else none) else none
def wrt.l : Nat → List S28 → Int → Int → Int → List UInt8 → Option (List UInt8 × Int)
  | 0, _, _, _, _, _ => none
  | k + 1, t, a, n, i, acc => if i < n then (if i = 0 then ((wrt.f k t a).bind fun p => wrt.l k t p.2 n (wrap64 (i + 1)) (acc ++ (40 : UInt8) :: p.1)) else if i = 1 then ((wrt.f k t a).bind fun p => wrt.l k t p.2 n (wrap64 (i + 1)) (acc ++ (44 : UInt8) :: p.1)) else if 1 < i then ((wrt.f k t a).bind fun p => wrt.l k t p.2 n (wrap64 (i + 1)) (acc ++ (44 : UInt8) :: p.1)) else none) else some (acc, a)
end

theorem w64_01 : wrap64 (0 + 1) = 1 := by unfold wrap64; omega
theorem w64_12 : wrap64 (1 + 1) = 2 := by unfold wrap64; omega

theorem wrt.le (k : Nat) : ∀ (t : List S28) (a n i : Int) (acc : List UInt8) (l : List UInt8) (r : Int), wrt.l k t a n i acc = some (l, r) → acc.length ≤ l.length := by
  induction k with
  | zero => intro t a n i acc l r h; simp [wrt.l] at h
  | succ k ih =>
    intro t a n i acc l r h
    simp only [wrt.l] at h
    split at h
    · split at h
      · obtain ⟨p, hp, h⟩ := Option.bind_eq_some_iff.1 h
        have := ih _ _ _ _ _ _ _ h
        simp at this
        omega
      · split at h
        · obtain ⟨p, hp, h⟩ := Option.bind_eq_some_iff.1 h
          have := ih _ _ _ _ _ _ _ h
          simp at this
          omega
        · split at h
          · obtain ⟨p, hp, h⟩ := Option.bind_eq_some_iff.1 h
            have := ih _ _ _ _ _ _ _ h
            simp at this
            omega
          · cases h
    · have := Option.some.inj h
      injection this with h1 h2
      subst h1
      exact Nat.le_refl _

/-- A block of the call's own that is no row of bytes and not the builder's stays. -/
theorem kept_cell {e : TypeId} {b : Nat} {w w' : World} {g : Nat} {cs : Array Value} {T : TypeId} (h : Lib.OthersKept e (some b) w w') (hg : w.heap[g]? = some (.cells cs T (0, 0))) (hb : g ≠ b) (hT : T ≠ e) : w'.heap[g]? = some (.cells cs T (0, 0)) :=
  h g _ hg (by simpa using hb) (fun c fz he => by injection he with _ h2 _; exact hT h2)

theorem IsBuilderF.lt {T e : TypeId} {B b : Nat} {bs : List Value} {w : World} (h : Lib.IsBuilderF T e B b bs w) : b < w.heap.size := h.elim (fun x => x.lt) (fun x => x.lt)

theorem IsBuilderF.alloc {T e : TypeId} {B b : Nat} {bs : List Value} {w : World} (h : Lib.IsBuilderF T e B b bs w) (o : Obj) : Lib.IsBuilderF T e B b bs (w.alloc o) := by
  have key : ∀ p, Lib.BuilderAtF T e B b p bs w → Lib.BuilderAtF T e B b p bs (w.alloc o) := by
    intro p h
    have hlt := h.lt
    obtain ⟨hB, v, hb, hown, hne⟩ := h
    exact ⟨hB, v, (Lib.alloc_old w o b hlt).trans hb, hown.alloc o, hne⟩
  exact h.imp (key _) (key _)

set_option maxHeartbeats 1000000 in
set_option maxRecDepth 100000 in
theorem wrt.calls (k : Nat) : ∀ (A0 : Option Addr) (c0 : Nat) (t : List S28) (a : Int) (l : List UInt8) (r : Int) (b : Nat) (bs : List Value) (w0 w : World) (hr0 : Kd.C k28 w0 A0 t.length t) (hB : Below w0.heap.size w0 w)
    (hb : Lib.IsBuilderF 87 5 w0.heap.size b bs w) (hl : bs.length + l.length ≤ 140737488355328) (h : wrt.f k t a = some (l, r)),
    Calls Try.prog 43 #[.pointer (some ⟨b, 0, none⟩), .slice A0 t.length c0, .int .i64 a] w fun e w' => e = .returned (.int .i64 r) ∧ Lib.IsBuilderF 87 5 w0.heap.size b (bs ++ Lib.byteCells l) w' ∧ Below w0.heap.size w0 w' ∧ Lib.OthersKept 5 (some b) w w' := by
  induction k using Nat.strongRecOn with
  | _ k ih =>
    intro A0 c0 t a l r b bs w0 w hr0 hB hb hl h
    cases k with
    | zero => simp [wrt.f] at h
    | succ k =>
      simp only [wrt.f] at h
      split at h
      case isFalse => cases h
      case isTrue h0 =>
      split at h
      case isFalse => cases h
      case isTrue h1 =>
      obtain ⟨p, hp, h⟩ := Option.bind_eq_some_iff.1 h
      obtain ⟨ad, e0, hx0, hx1⟩ := at_T28 hr0 a h0 h1
      subst e0
      have HR0 := Aside0.mk hr0
      have HB := Aside0.mk hB
      have Hb := Aside0.mk hb
      have Hl := Aside0.mk hl
      have Hp := Aside0.mk hp
      have H0 := Aside0.mk h
      replace hx0 := (HB.out.cell (World.block_lt_of_cell? w0 _ hx0)).trans hx0
      replace hx1 := (HB.out.cell (World.block_lt_of_cell? w0 _ hx1)).trans hx1
      clear hr0 hB hb hl hp h
      go_enter Try.func43, Try.ntmps43
      have hl1 : (rd_T28 t a).f0.size ≤ l.length := by
        have h1 := wrt.le _ _ _ _ _ _ _ _ Hp.out
        have h2 := H0.out
        have e : (rd_T28 t a).f0.data.toList.length = (rd_T28 t a).f0.size := by rw [Array.length_toList]; rfl
        rw [e] at h1
        split at h2
        · have h3 := congrArg (fun q => q.1.length) (Option.some.inj h2)
          simp at h3
          omega
        · have h3 := congrArg (fun q => q.1.length) (Option.some.inj h2)
          simp at h3
          omega
      have hs1 : bs.length + (rd_T28 t a).f0.size ≤ 140737488355328 := by have := Hl.out; omega
      have hbg : w.heap.size ≠ b := by have := IsBuilderF.lt Hb.out; omega
      clear hl1
      go_wp2_with (go_at_call 59; refine (writeString_any w0.heap.size b bs (rd_T28 t a).f0 _ (IsBuilderF.alloc Hb.out _) hs1 (by have := HB.out.size; simp; omega)).mono ?_; rintro e w1 ⟨rfl, h1, hb1, hk1⟩; have hbk := kept_cell hk1 (heap_alloc_new w _) hbg (by decide); have hc0 : w1.cell? ⟨w.heap.size, 0, none⟩ = _ := (blk_cell hbk 0).trans rfl; have hc1 : w1.cell? ⟨w.heap.size, 1, none⟩ = _ := (blk_cell hbk 1).trans rfl; have HB1 := Aside0.mk (show Below w0.heap.size w0 w1 from (HB.out.alloc HB.out.size _).trans hb1); have HK1 := Aside0.mk (show Lib.OthersKept 5 (some b) w w1 from ((Lib.OthersKept.refl 5 (some b) w).alloc _).trans hk1); have HG1 := Aside0.mk hbk; have HI1 := Aside0.mk (show Lib.IsBuilderF 87 5 w0.heap.size b (bs ++ Lib.byteCells (rd_T28 t a).f0.data.toList) w1 from Or.inr h1); clear hbk h1 hb1 hk1)
      have HPL : Aside0 (p.1.length ≤ l.length) := ⟨by
        have h2 := H0.out
        split at h2
        · have h3 := congrArg (fun q => q.1.length) (Option.some.inj h2)
          simp at h3
          omega
        · have h3 := congrArg (fun q => q.1.length) (Option.some.inj h2)
          simp at h3
          omega⟩
      obtain ⟨n, hn⟩ : ∃ n, (rd_T28 t a).f1 = n := ⟨_, rfl⟩
      rw [hn] at hc1 hx1 HG1 Hp H0
      rw [hn]
      clear hn hx0 hx1 hs1
      go_loopg [2, 21] k (fun kq v2 v21 w' => ∃ (a1 i : Int) (acc : List UInt8), v2 = .int .i64 a1 ∧ v21 = .int .i64 i ∧ Aside0 (wrt.l kq t a1 n i acc = some p) ∧ Aside0 (kq ≤ k) ∧ Aside0 (Lib.IsBuilderF 87 5 w0.heap.size b (bs ++ Lib.byteCells acc) w') ∧ Aside0 (Below w0.heap.size w0 w') ∧ Aside0 (Lib.OthersKept 5 (some b) w w') ∧ Aside0 (w'.heap[w.heap.size]? = some (.cells #[.string (rd_T28 t a).f0, .int .i64 n] 28 (0, 0))))
      case atStart => exact ⟨_, 0, _, rfl, rfl, Hp, ⟨Nat.le_refl _⟩, HI1, HB1, HK1, HG1⟩
      case round =>
        clear HI1 HB1 HK1 HG1 Hp
        obtain ⟨a1, i, acc, rfl, rfl, HA, HQ, HI1, HB1, HK1, HG1⟩ := hrel
        cases gk with
        | zero => exact absurd HA.out (by simp [wrt.l])
        | succ k1 =>
          have H := HA.out
          simp only [wrt.l] at H
          clear HA
          by_cases c1 : i < n
          · rw [if_pos c1] at H
            have c1b : decide (i < n) = true := decide_eq_true c1
            by_cases c2 : i = 0
            · subst c2
              rw [if_pos rfl] at H
              clear c1
              obtain ⟨q, hq, H⟩ := Option.bind_eq_some_iff.1 H
              have HA2 := Aside0.mk hq
              have hle := wrt.le _ _ _ _ _ _ _ _ H
              have hpl := HPL.out
              have hlen1 : (bs ++ Lib.byteCells acc).length + 1 ≤ 140737488355328 := by simp [Lib.byteCells] at hle ⊢; have := Hl.out; omega
              have hlen2 : ((bs ++ Lib.byteCells acc) ++ [Value.int .u8 40]).length + q.1.length ≤ 140737488355328 := by simp [Lib.byteCells] at hle ⊢; have := Hl.out; omega
              have H' := Aside0.mk H
              clear H hq hle hpl
              go_wp2_with (first | (go_at_call 60; refine (writeByte_any w0.heap.size b _ 40 _ HI1.out hlen1 (HB1.out.size)).mono ?_; rintro e w2 ⟨rfl, h2, hb2, hk2⟩; have hbk2 := kept_cell hk2 HG1.out hbg (by decide); have HB2 := Aside0.mk (HB1.out.trans hb2); have HK2 := Aside0.mk (HK1.out.trans hk2); have HG2 := Aside0.mk hbk2; have HI2 := Aside0.mk (show Lib.IsBuilderF 87 5 w0.heap.size b (bs ++ Lib.byteCells acc ++ [Value.int .u8 40]) w2 from Or.inr h2); clear hbk2 h2 hb2 hk2) | (go_at_call 43; refine (ih k1 (by have := HQ.out; omega) _ c0 t a1 q.1 q.2 b _ w0 _ HR0.out HB2.out HI2.out hlen2 HA2.out).mono ?_; rintro e w3 ⟨rfl, h3, hb3, hk3⟩; have hbk3 := kept_cell hk3 HG2.out hbg (by decide); have HB3 := Aside0.mk hb3; have HK3 := Aside0.mk (HK2.out.trans hk3); have HG3 := Aside0.mk hbk3; have HI3 := Aside0.mk h3; clear hbk3 h3 hb3 hk3))
              go_roundg k1
              case measure => have := HQ.out; omega
              case rel => exact ⟨q.2, wrap64 (0 + 1), acc ++ (40 : UInt8) :: q.1, rfl, (by first | rfl | rw [w64_01] | rw [w64_12]), H', ⟨by have := HQ.out; omega⟩, ⟨by simpa [Lib.byteCells] using HI3.out⟩, HB3, HK3, HG3⟩
            · rw [if_neg c2] at H
              clear c2
              by_cases c3 : i = 1
              · subst c3
                rw [if_pos rfl] at H
                clear c1
                obtain ⟨q, hq, H⟩ := Option.bind_eq_some_iff.1 H
                have HA2 := Aside0.mk hq
                have hle := wrt.le _ _ _ _ _ _ _ _ H
                have hpl := HPL.out
                have hlen1 : (bs ++ Lib.byteCells acc).length + 1 ≤ 140737488355328 := by simp [Lib.byteCells] at hle ⊢; have := Hl.out; omega
                have hlen2 : ((bs ++ Lib.byteCells acc) ++ [Value.int .u8 44]).length + q.1.length ≤ 140737488355328 := by simp [Lib.byteCells] at hle ⊢; have := Hl.out; omega
                have H' := Aside0.mk H
                clear H hq hle hpl
                go_wp2_with (first | (go_at_call 60; refine (writeByte_any w0.heap.size b _ 44 _ HI1.out hlen1 (HB1.out.size)).mono ?_; rintro e w2 ⟨rfl, h2, hb2, hk2⟩; have hbk2 := kept_cell hk2 HG1.out hbg (by decide); have HB2 := Aside0.mk (HB1.out.trans hb2); have HK2 := Aside0.mk (HK1.out.trans hk2); have HG2 := Aside0.mk hbk2; have HI2 := Aside0.mk (show Lib.IsBuilderF 87 5 w0.heap.size b (bs ++ Lib.byteCells acc ++ [Value.int .u8 44]) w2 from Or.inr h2); clear hbk2 h2 hb2 hk2) | (go_at_call 43; refine (ih k1 (by have := HQ.out; omega) _ c0 t a1 q.1 q.2 b _ w0 _ HR0.out HB2.out HI2.out hlen2 HA2.out).mono ?_; rintro e w3 ⟨rfl, h3, hb3, hk3⟩; have hbk3 := kept_cell hk3 HG2.out hbg (by decide); have HB3 := Aside0.mk hb3; have HK3 := Aside0.mk (HK2.out.trans hk3); have HG3 := Aside0.mk hbk3; have HI3 := Aside0.mk h3; clear hbk3 h3 hb3 hk3))
                go_roundg k1
                case measure => have := HQ.out; omega
                case rel => exact ⟨q.2, wrap64 (1 + 1), acc ++ (44 : UInt8) :: q.1, rfl, (by first | rfl | rw [w64_01] | rw [w64_12]), H', ⟨by have := HQ.out; omega⟩, ⟨by simpa [Lib.byteCells] using HI3.out⟩, HB3, HK3, HG3⟩
              · rw [if_neg c3] at H
                clear c3
                by_cases c4 : 1 < i
                · rw [if_pos c4] at H
                  have c4b := eq_true c4
                  have c4c : decide (1 < i) = true := decide_eq_true c4
                  clear c1 c4
                  obtain ⟨q, hq, H⟩ := Option.bind_eq_some_iff.1 H
                  have HA2 := Aside0.mk hq
                  have hle := wrt.le _ _ _ _ _ _ _ _ H
                  have hpl := HPL.out
                  have hlen1 : (bs ++ Lib.byteCells acc).length + 1 ≤ 140737488355328 := by simp [Lib.byteCells] at hle ⊢; have := Hl.out; omega
                  have hlen2 : ((bs ++ Lib.byteCells acc) ++ [Value.int .u8 44]).length + q.1.length ≤ 140737488355328 := by simp [Lib.byteCells] at hle ⊢; have := Hl.out; omega
                  have H' := Aside0.mk H
                  clear H hq hle hpl
                  go_wp2_with (first | (go_at_call 60; refine (writeByte_any w0.heap.size b _ 44 _ HI1.out hlen1 (HB1.out.size)).mono ?_; rintro e w2 ⟨rfl, h2, hb2, hk2⟩; have hbk2 := kept_cell hk2 HG1.out hbg (by decide); have HB2 := Aside0.mk (HB1.out.trans hb2); have HK2 := Aside0.mk (HK1.out.trans hk2); have HG2 := Aside0.mk hbk2; have HI2 := Aside0.mk (show Lib.IsBuilderF 87 5 w0.heap.size b (bs ++ Lib.byteCells acc ++ [Value.int .u8 44]) w2 from Or.inr h2); clear hbk2 h2 hb2 hk2) | (go_at_call 43; refine (ih k1 (by have := HQ.out; omega) _ c0 t a1 q.1 q.2 b _ w0 _ HR0.out HB2.out HI2.out hlen2 HA2.out).mono ?_; rintro e w3 ⟨rfl, h3, hb3, hk3⟩; have hbk3 := kept_cell hk3 HG2.out hbg (by decide); have HB3 := Aside0.mk hb3; have HK3 := Aside0.mk (HK2.out.trans hk3); have HG3 := Aside0.mk hbk3; have HI3 := Aside0.mk h3; clear hbk3 h3 hb3 hk3))
                  go_roundg k1
                  case measure => have := HQ.out; omega
                  case rel => exact ⟨q.2, wrap64 (i + 1), acc ++ (44 : UInt8) :: q.1, rfl, (by first | rfl | rw [w64_01] | rw [w64_12]), H', ⟨by have := HQ.out; omega⟩, ⟨by simpa [Lib.byteCells] using HI3.out⟩, HB3, HK3, HG3⟩
                · rw [if_neg c4] at H
                  cases H
          · rw [if_neg c1] at H
            have c1b : decide (i < n) = false := decide_eq_false c1
            have hc1 := (blk_cell HG1.out 1).trans rfl
            clear c1
            obtain rfl := Option.some.inj H
            clear H
            have H := H0.out
            by_cases c2 : 0 < n
            · rw [if_pos c2] at H
              have c2b : decide (0 < n) = true := decide_eq_true c2
              have hlen1 : (bs ++ Lib.byteCells acc).length + 1 ≤ 140737488355328 := by
                have h3 := congrArg (fun q => q.1.length) (Option.some.inj H)
                simp [Lib.byteCells] at h3 ⊢
                have := Hl.out
                omega
              obtain ⟨rfl, rfl⟩ : acc ++ [41] = l ∧ a1 = r := by have h3 := Option.some.inj H; exact ⟨congrArg Prod.fst h3, congrArg Prod.snd h3⟩
              clear H c2
              go_wp2_with (go_at_call 60; refine (writeByte_any w0.heap.size b _ 41 _ HI1.out hlen1 (HB1.out.size)).mono ?_; rintro e w2 ⟨rfl, h2, hb2, hk2⟩; have HB2 := Aside0.mk (HB1.out.trans hb2); have HK2 := Aside0.mk (HK1.out.trans hk2); have HI2 := Aside0.mk (show Lib.IsBuilderF 87 5 w0.heap.size b (bs ++ Lib.byteCells acc ++ [Value.int .u8 41]) w2 from Or.inr h2); clear h2 hb2 hk2)
              go_ret
              exact ⟨rfl, by simpa [Lib.byteCells] using HI2.out, HB2.out, HK2.out⟩
            · rw [if_neg c2] at H
              have c2b : decide (0 < n) = false := decide_eq_false c2
              obtain ⟨rfl, rfl⟩ : acc = l ∧ a1 = r := by have h3 := Option.some.inj H; exact ⟨congrArg Prod.fst h3, congrArg Prod.snd h3⟩
              clear H c2
              go_wp2
              go_ret
              exact ⟨rfl, HI1.out, HB1.out, HK1.out⟩

theorem wrt.mono_l : ∀ k, (∀ t a, LeO (wrt.f k t a) (wrt.f (k + 1) t a)) ∧ (∀ t a n i acc, LeO (wrt.l k t a n i acc) (wrt.l (k + 1) t a n i acc))
  | 0 => ⟨fun _ _ r h => by simp [wrt.f] at h, fun _ _ _ _ _ r h => by simp [wrt.l] at h⟩
  | k + 1 => by
    obtain ⟨ih0, ih1⟩ := wrt.mono_l k
    constructor
    · intro t a
      unfold wrt.f
      exact LeO.ite (LeO.ite (LeO.bind (ih1 _ _ _ _ _) (fun _ => LeO.refl _)) (LeO.none _)) (LeO.none _)
    · intro t a n i acc
      unfold wrt.l
      exact LeO.ite (LeO.ite (LeO.bind (ih0 _ _) (fun _ => ih1 _ _ _ _ _)) (LeO.ite (LeO.bind (ih0 _ _) (fun _ => ih1 _ _ _ _ _)) (LeO.ite (LeO.bind (ih0 _ _) (fun _ => ih1 _ _ _ _ _)) (LeO.none _)))) (LeO.refl _)
theorem wrt.mono : ∀ t a k, LeO (wrt.f k t a) (wrt.f (k + 1) t a) := fun t a k => (wrt.mono_l k).1 t a

def term_Print.f (k : Nat) (l0 : List S28) : Option (ByteArray × Int) := (term_Check.f k l0).bind fun e => if e = 0 then ((wrt.f k l0 0).bind fun p => if p.1.length ≤ 140737488355328 then some (⟨p.1.toArray⟩, 0) else none) else some (⟨#[]⟩, e)
theorem term_Print.mono : ∀ a0 k, LeO (term_Print.f k a0) (term_Print.f (k + 1) a0) := by
  intro a0 k
  unfold term_Print.f
  exact LeO.bind (term_Check.mono _ _) (fun _ => LeO.ite (LeO.bind (wrt.mono _ _ _) (fun _ => LeO.refl _)) (LeO.refl _))

theorem fresh_builder (B : Nat) (w : World) (h : B ≤ w.heap.size) : Lib.IsBuilderF 87 5 B w.heap.size [] (w.alloc (.cells #[.pointer none, .slice none 0 0] 87)) :=
  .inl ⟨h, _, heap_alloc_new w _, World.ownsRowF_of (own_nil _ _ _ _), by simp [Value.ownBlock]⟩

set_option maxHeartbeats 1000000 in
set_option maxRecDepth 100000 in
theorem term_Print.calls (k : Nat) (A0 : Option Addr) (c0 : Nat) (l0 : List (S28)) (r1 : ByteArray) (r2 : Int) (w : World) (hr0 : Kd.C k28 w A0 l0.length l0) (hc0 : l0.length ≤ c0) (h : term_Print.f k l0 = some (r1, r2)) :
    Calls Try.prog 19 #[.slice A0 l0.length c0] w fun e w' => e = .returned (.tuple #[.string r1, .int .i64 r2]) ∧ Below w.heap.size w w' := by
  unfold term_Print.f at h
  obtain ⟨e, he, h⟩ := Option.bind_eq_some_iff.1 h
  have HR0 := Aside0.mk hr0
  have HC0 := Aside0.mk hc0
  have HE := Aside0.mk he
  clear hr0 hc0 he
  by_cases c1 : e = 0
  · subst c1
    rw [if_pos rfl] at h
    obtain ⟨p, hp, h⟩ := Option.bind_eq_some_iff.1 h
    split at h
    case isFalse => cases h
    case isTrue hlen =>
    have HP := Aside0.mk hp
    have HLen := Aside0.mk hlen
    have H := Aside0.mk h
    clear hp hlen h
    go_enter Try.func19, Try.ntmps19
    go_wp2_with (first | (go_at_call 33; refine (term_Check.calls k A0 c0 l0 0 _ HR0.out HC0.out HE.out).mono ?_; rintro e w1 ⟨rfl, hb1⟩; have HB1 := Aside0.mk hb1; clear hb1) | (go_at_call 43; refine (wrt.calls k A0 c0 l0 0 p.1 p.2 _ [] w _ HR0.out (HB1.out.alloc HB1.out.size _) (fresh_builder _ _ HB1.out.size) (by simpa using HLen.out) HP.out).mono ?_; rintro e w2 ⟨rfl, h2, hb2, hk2⟩; have HI2 := Aside0.mk h2; have HB2 := Aside0.mk hb2; clear h2 hb2 hk2) | (go_at_call 44; refine (Try.Builder_String_any_k w.heap.size _ p.1 _ (by simpa using HI2.out) HB2.out.size).mono ?_; rintro e w3 ⟨rfl, h3, hb3, hk3⟩; have HB3 := Aside0.mk (HB2.out.trans hb3); clear h3 hb3 hk3))
    go_ret2
    have h3 := Option.some.inj H.out
    injection h3 with h4 h5
    subst h4 h5
    exact ⟨rfl, HB3.out⟩
  · rw [if_neg c1] at h
    have c1b : (e == 0) = false := beq_eq_false_iff_ne.mpr c1
    have c1c : (e != 0) = true := bne_iff_ne.mpr c1
    have h3 := Option.some.inj h
    injection h3 with h4 h5
    subst h4 h5
    clear h c1
    go_enter Try.func19, Try.ntmps19
    go_wp2_with (go_at_call 33; refine (term_Check.calls k A0 c0 l0 e _ HR0.out HC0.out HE.out).mono ?_; rintro e1 w1 ⟨rfl, hb1⟩; have HB1 := Aside0.mk hb1; clear hb1)
    go_ret2
    exact ⟨rfl, HB1.out⟩

end Go.Proofs.Ytnkpcnnbeaomnaa.C
end
