import Derived.Test.YtnkpcnnbeaomnaaDoorRR5
import Derived.Test.YtnkpcnnbeaomnaaDoorRR7
import Derived.Test.YtnkpcnnbeaomnaaDoorRR2
import Derived.Test.YtnkpcnnbeaomnaaDoorRR6

section
/- term.write and term.Print at this dump (functions 43 and 19). -/
namespace Go.Proofs.YtnkpcnnbeaomnaaDoor.C
open Go.RowKit Go.Proofs.YtnkpcnnbeaomnaaDoorW.PrintWords Go.Proofs.YtnkpcnnbeaomnaaDoorW.PrintLast Go.Proofs.YtnkpcnnbeaomnaaDoorW.PrintMore
attribute [local go_sem] max2_int min2_int max_two min_two max_three min_three max_four min_four   -- for this text's walks alone
set_option linter.unusedVariables false
set_option linter.unusedSimpArgs false

mutual
def wrt.f : Nat → List S33 → Int → Option (List UInt8 × Int)
  | 0, _, _ => none
  | k + 1, t, a => if 0 ≤ a then (if a < (t.length : Int) then ((wrt.l k t (wrap64 (a + 1)) (rd_T33 t a).f1 0 (rd_T33 t a).f0.data.toList).bind fun p => some (if 0 < (rd_T33 t a).f1 then (p.1 ++ [41], p.2) else p)) else none) else none
def wrt.l : Nat → List S33 → Int → Int → Int → List UInt8 → Option (List UInt8 × Int)
  | 0, _, _, _, _, _ => none
  | k + 1, t, a, n, i, acc => if i < n then (if i = 0 then ((wrt.f k t a).bind fun p => wrt.l k t p.2 n (wrap64 (i + 1)) (acc ++ (40 : UInt8) :: p.1)) else if i = 1 then ((wrt.f k t a).bind fun p => wrt.l k t p.2 n (wrap64 (i + 1)) (acc ++ (44 : UInt8) :: p.1)) else if 1 < i then ((wrt.f k t a).bind fun p => wrt.l k t p.2 n (wrap64 (i + 1)) (acc ++ (44 : UInt8) :: p.1)) else none) else some (acc, a)
end

theorem w64_01 : wrap64 (0 + 1) = 1 := by unfold wrap64; omega
theorem w64_12 : wrap64 (1 + 1) = 2 := by unfold wrap64; omega

theorem wrt.le (k : Nat) : ∀ (t : List S33) (a n i : Int) (acc : List UInt8) (l : List UInt8) (r : Int), wrt.l k t a n i acc = some (l, r) → acc.length ≤ l.length := by
  induction k with
  | zero => intro t a n i acc l r h; simp [wrt.l] at h
  | succ k ih =>
    intro t a n i acc l r h
    simp only [wrt.l] at h
    split at h
    · split at h
      · obtain ⟨p, hp, h⟩ := Option.bind_eq_some_iff.1 h
        have := ih _ _ _ _ _ _ _ h
        simp at this
        omega
      · split at h
        · obtain ⟨p, hp, h⟩ := Option.bind_eq_some_iff.1 h
          have := ih _ _ _ _ _ _ _ h
          simp at this
          omega
        · split at h
          · obtain ⟨p, hp, h⟩ := Option.bind_eq_some_iff.1 h
            have := ih _ _ _ _ _ _ _ h
            simp at this
            omega
          · cases h
    · have := Option.some.inj h
      injection this with h1 h2
      subst h1
      exact Nat.le_refl _

/-- A block of the call's own that is no row of bytes and not the builder's stays. -/
theorem kept_cell {e : TypeId} {b : Nat} {w w' : World} {g : Nat} {cs : Array Value} {T : TypeId} (h : Lib.OthersKept e (some b) w w') (hg : w.heap[g]? = some (.cells cs T (0, 0))) (hb : g ≠ b) (hT : T ≠ e) : w'.heap[g]? = some (.cells cs T (0, 0)) :=
  h g _ hg (by simpa using hb) (fun c fz he => by injection he with _ h2 _; exact hT h2)

theorem IsBuilderF.lt {T e : TypeId} {B b : Nat} {bs : List Value} {w : World} (h : Lib.IsBuilderF T e B b bs w) : b < w.heap.size := h.elim (fun x => x.lt) (fun x => x.lt)

theorem IsBuilderF.alloc {T e : TypeId} {B b : Nat} {bs : List Value} {w : World} (h : Lib.IsBuilderF T e B b bs w) (o : Obj) : Lib.IsBuilderF T e B b bs (w.alloc o) := by
  have key : ∀ p, Lib.BuilderAtF T e B b p bs w → Lib.BuilderAtF T e B b p bs (w.alloc o) := by
    intro p h
    have hlt := h.lt
    obtain ⟨hB, v, hb, hown, hne⟩ := h
    exact ⟨hB, v, (Lib.alloc_old w o b hlt).trans hb, hown.alloc o, hne⟩
  exact h.imp (key _) (key _)

set_option maxHeartbeats 1000000 in
set_option maxRecDepth 100000 in
theorem wrt.calls (k : Nat) : ∀ (A0 : Option Addr) (c0 : Nat) (t : List S33) (a : Int) (l : List UInt8) (r : Int) (b : Nat) (bs : List Value) (w0 w : World) (hr0 : Kd.C k33 w0 A0 t.length t) (hB : Below w0.heap.size w0 w)
    (hb : Lib.IsBuilderF 93 5 w0.heap.size b bs w) (hl : bs.length + l.length ≤ 140737488355328) (h : wrt.f k t a = some (l, r)),
    Calls Tryd.prog 66 #[.pointer (some ⟨b, 0, none⟩), .slice A0 t.length c0, .int .i64 a] w fun e w' => e = .returned (.int .i64 r) ∧ Lib.IsBuilderF 93 5 w0.heap.size b (bs ++ Lib.byteCells l) w' ∧ Below w0.heap.size w0 w' ∧ Lib.OthersKept 5 (some b) w w' := by
  induction k using Nat.strongRecOn with
  | _ k ih =>
    intro A0 c0 t a l r b bs w0 w hr0 hB hb hl h
    cases k with
    | zero => simp [wrt.f] at h
    | succ k =>
      simp only [wrt.f] at h
      split at h
      case isFalse => cases h
      case isTrue h0 =>
      split at h
      case isFalse => cases h
      case isTrue h1 =>
      obtain ⟨p, hp, h⟩ := Option.bind_eq_some_iff.1 h
      obtain ⟨ad, e0, hx0, hx1⟩ := at_T33 hr0 a h0 h1
      subst e0
      have HR0 := Aside0.mk hr0
      have HB := Aside0.mk hB
      have Hb := Aside0.mk hb
      have Hl := Aside0.mk hl
      have Hp := Aside0.mk hp
      have H0 := Aside0.mk h
      replace hx0 := (HB.out.cell (World.block_lt_of_cell? w0 _ hx0)).trans hx0
      replace hx1 := (HB.out.cell (World.block_lt_of_cell? w0 _ hx1)).trans hx1
      clear hr0 hB hb hl hp h
      go_enter Tryd.func66, Tryd.ntmps66
      have hl1 : (rd_T33 t a).f0.size ≤ l.length := by
        have h1 := wrt.le _ _ _ _ _ _ _ _ Hp.out
        have h2 := H0.out
        have e : (rd_T33 t a).f0.data.toList.length = (rd_T33 t a).f0.size := by rw [Array.length_toList]; rfl
        rw [e] at h1
        split at h2
        · have h3 := congrArg (fun q => q.1.length) (Option.some.inj h2)
          simp at h3
          omega
        · have h3 := congrArg (fun q => q.1.length) (Option.some.inj h2)
          simp at h3
          omega
      have hs1 : bs.length + (rd_T33 t a).f0.size ≤ 140737488355328 := by have := Hl.out; omega
      have hbg : w.heap.size ≠ b := by have := IsBuilderF.lt Hb.out; omega
      clear hl1
      go_wp2_with (go_at_call 80; refine (writeString_any w0.heap.size b bs (rd_T33 t a).f0 _ (IsBuilderF.alloc Hb.out _) hs1 (by have := HB.out.size; simp; omega)).mono ?_; rintro e w1 ⟨rfl, h1, hb1, hk1⟩; have hbk := kept_cell hk1 (heap_alloc_new w _) hbg (by decide); have hc0 : w1.cell? ⟨w.heap.size, 0, none⟩ = _ := (blk_cell hbk 0).trans rfl; have hc1 : w1.cell? ⟨w.heap.size, 1, none⟩ = _ := (blk_cell hbk 1).trans rfl; have HB1 := Aside0.mk (show Below w0.heap.size w0 w1 from (HB.out.alloc HB.out.size _).trans hb1); have HK1 := Aside0.mk (show Lib.OthersKept 5 (some b) w w1 from ((Lib.OthersKept.refl 5 (some b) w).alloc _).trans hk1); have HG1 := Aside0.mk hbk; have HI1 := Aside0.mk (show Lib.IsBuilderF 93 5 w0.heap.size b (bs ++ Lib.byteCells (rd_T33 t a).f0.data.toList) w1 from Or.inr h1); clear hbk h1 hb1 hk1)
      have HPL : Aside0 (p.1.length ≤ l.length) := ⟨by
        have h2 := H0.out
        split at h2
        · have h3 := congrArg (fun q => q.1.length) (Option.some.inj h2)
          simp at h3
          omega
        · have h3 := congrArg (fun q => q.1.length) (Option.some.inj h2)
          simp at h3
          omega⟩
      obtain ⟨n, hn⟩ : ∃ n, (rd_T33 t a).f1 = n := ⟨_, rfl⟩
      rw [hn] at hc1 hx1 HG1 Hp H0
      rw [hn]
      clear hn hx0 hx1 hs1
      go_loopg [2, 21] k (fun kq v2 v21 w' => ∃ (a1 i : Int) (acc : List UInt8), v2 = .int .i64 a1 ∧ v21 = .int .i64 i ∧ Aside0 (wrt.l kq t a1 n i acc = some p) ∧ Aside0 (kq ≤ k) ∧ Aside0 (Lib.IsBuilderF 93 5 w0.heap.size b (bs ++ Lib.byteCells acc) w') ∧ Aside0 (Below w0.heap.size w0 w') ∧ Aside0 (Lib.OthersKept 5 (some b) w w') ∧ Aside0 (w'.heap[w.heap.size]? = some (.cells #[.string (rd_T33 t a).f0, .int .i64 n] 33 (0, 0))))
      case atStart => exact ⟨_, 0, _, rfl, rfl, Hp, ⟨Nat.le_refl _⟩, HI1, HB1, HK1, HG1⟩
      case round =>
        clear HI1 HB1 HK1 HG1 Hp
        obtain ⟨a1, i, acc, rfl, rfl, HA, HQ, HI1, HB1, HK1, HG1⟩ := hrel
        cases gk with
        | zero => exact absurd HA.out (by simp [wrt.l])
        | succ k1 =>
          have H := HA.out
          simp only [wrt.l] at H
          clear HA
          by_cases c1 : i < n
          · rw [if_pos c1] at H
            have c1b : decide (i < n) = true := decide_eq_true c1
            by_cases c2 : i = 0
            · subst c2
              rw [if_pos rfl] at H
              clear c1
              obtain ⟨q, hq, H⟩ := Option.bind_eq_some_iff.1 H
              have HA2 := Aside0.mk hq
              have hle := wrt.le _ _ _ _ _ _ _ _ H
              have hpl := HPL.out
              have hlen1 : (bs ++ Lib.byteCells acc).length + 1 ≤ 140737488355328 := by simp [Lib.byteCells] at hle ⊢; have := Hl.out; omega
              have hlen2 : ((bs ++ Lib.byteCells acc) ++ [Value.int .u8 40]).length + q.1.length ≤ 140737488355328 := by simp [Lib.byteCells] at hle ⊢; have := Hl.out; omega
              have H' := Aside0.mk H
              clear H hq hle hpl
              go_wp2_with (first | (go_at_call 81; refine (writeByte_any w0.heap.size b _ 40 _ HI1.out hlen1 (HB1.out.size)).mono ?_; rintro e w2 ⟨rfl, h2, hb2, hk2⟩; have hbk2 := kept_cell hk2 HG1.out hbg (by decide); have HB2 := Aside0.mk (HB1.out.trans hb2); have HK2 := Aside0.mk (HK1.out.trans hk2); have HG2 := Aside0.mk hbk2; have HI2 := Aside0.mk (show Lib.IsBuilderF 93 5 w0.heap.size b (bs ++ Lib.byteCells acc ++ [Value.int .u8 40]) w2 from Or.inr h2); clear hbk2 h2 hb2 hk2) | (go_at_call 66; refine (ih k1 (by have := HQ.out; omega) _ c0 t a1 q.1 q.2 b _ w0 _ HR0.out HB2.out HI2.out hlen2 HA2.out).mono ?_; rintro e w3 ⟨rfl, h3, hb3, hk3⟩; have hbk3 := kept_cell hk3 HG2.out hbg (by decide); have HB3 := Aside0.mk hb3; have HK3 := Aside0.mk (HK2.out.trans hk3); have HG3 := Aside0.mk hbk3; have HI3 := Aside0.mk h3; clear hbk3 h3 hb3 hk3))
              go_roundg k1
              case measure => have := HQ.out; omega
              case rel => exact ⟨q.2, wrap64 (0 + 1), acc ++ (40 : UInt8) :: q.1, rfl, (by first | rfl | rw [w64_01] | rw [w64_12]), H', ⟨by have := HQ.out; omega⟩, ⟨by simpa [Lib.byteCells] using HI3.out⟩, HB3, HK3, HG3⟩
            · rw [if_neg c2] at H
              clear c2
              by_cases c3 : i = 1
              · subst c3
                rw [if_pos rfl] at H
                clear c1
                obtain ⟨q, hq, H⟩ := Option.bind_eq_some_iff.1 H
                have HA2 := Aside0.mk hq
                have hle := wrt.le _ _ _ _ _ _ _ _ H
                have hpl := HPL.out
                have hlen1 : (bs ++ Lib.byteCells acc).length + 1 ≤ 140737488355328 := by simp [Lib.byteCells] at hle ⊢; have := Hl.out; omega
                have hlen2 : ((bs ++ Lib.byteCells acc) ++ [Value.int .u8 44]).length + q.1.length ≤ 140737488355328 := by simp [Lib.byteCells] at hle ⊢; have := Hl.out; omega
                have H' := Aside0.mk H
                clear H hq hle hpl
                go_wp2_with (first | (go_at_call 81; refine (writeByte_any w0.heap.size b _ 44 _ HI1.out hlen1 (HB1.out.size)).mono ?_; rintro e w2 ⟨rfl, h2, hb2, hk2⟩; have hbk2 := kept_cell hk2 HG1.out hbg (by decide); have HB2 := Aside0.mk (HB1.out.trans hb2); have HK2 := Aside0.mk (HK1.out.trans hk2); have HG2 := Aside0.mk hbk2; have HI2 := Aside0.mk (show Lib.IsBuilderF 93 5 w0.heap.size b (bs ++ Lib.byteCells acc ++ [Value.int .u8 44]) w2 from Or.inr h2); clear hbk2 h2 hb2 hk2) | (go_at_call 66; refine (ih k1 (by have := HQ.out; omega) _ c0 t a1 q.1 q.2 b _ w0 _ HR0.out HB2.out HI2.out hlen2 HA2.out).mono ?_; rintro e w3 ⟨rfl, h3, hb3, hk3⟩; have hbk3 := kept_cell hk3 HG2.out hbg (by decide); have HB3 := Aside0.mk hb3; have HK3 := Aside0.mk (HK2.out.trans hk3); have HG3 := Aside0.mk hbk3; have HI3 := Aside0.mk h3; clear hbk3 h3 hb3 hk3))
                go_roundg k1
                case measure => have := HQ.out; omega
                case rel => exact ⟨q.2, wrap64 (1 + 1), acc ++ (44 : UInt8) :: q.1, rfl, (by first | rfl | rw [w64_01] | rw [w64_12]), H', ⟨by have := HQ.out; omega⟩, ⟨by simpa [Lib.byteCells] using HI3.out⟩, HB3, HK3, HG3⟩
              · rw [if_neg c3] at H
                clear c3
                by_cases c4 : 1 < i
                · rw [if_pos c4] at H
                  have c4b := eq_true c4
                  have c4c : decide (1 < i) = true := decide_eq_true c4
                  clear c1 c4
                  obtain ⟨q, hq, H⟩ := Option.bind_eq_some_iff.1 H
                  have HA2 := Aside0.mk hq
                  have hle := wrt.le _ _ _ _ _ _ _ _ H
                  have hpl := HPL.out
                  have hlen1 : (bs ++ Lib.byteCells acc).length + 1 ≤ 140737488355328 := by simp [Lib.byteCells] at hle ⊢; have := Hl.out; omega
                  have hlen2 : ((bs ++ Lib.byteCells acc) ++ [Value.int .u8 44]).length + q.1.length ≤ 140737488355328 := by simp [Lib.byteCells] at hle ⊢; have := Hl.out; omega
                  have H' := Aside0.mk H
                  clear H hq hle hpl
                  go_wp2_with (first | (go_at_call 81; refine (writeByte_any w0.heap.size b _ 44 _ HI1.out hlen1 (HB1.out.size)).mono ?_; rintro e w2 ⟨rfl, h2, hb2, hk2⟩; have hbk2 := kept_cell hk2 HG1.out hbg (by decide); have HB2 := Aside0.mk (HB1.out.trans hb2); have HK2 := Aside0.mk (HK1.out.trans hk2); have HG2 := Aside0.mk hbk2; have HI2 := Aside0.mk (show Lib.IsBuilderF 93 5 w0.heap.size b (bs ++ Lib.byteCells acc ++ [Value.int .u8 44]) w2 from Or.inr h2); clear hbk2 h2 hb2 hk2) | (go_at_call 66; refine (ih k1 (by have := HQ.out; omega) _ c0 t a1 q.1 q.2 b _ w0 _ HR0.out HB2.out HI2.out hlen2 HA2.out).mono ?_; rintro e w3 ⟨rfl, h3, hb3, hk3⟩; have hbk3 := kept_cell hk3 HG2.out hbg (by decide); have HB3 := Aside0.mk hb3; have HK3 := Aside0.mk (HK2.out.trans hk3); have HG3 := Aside0.mk hbk3; have HI3 := Aside0.mk h3; clear hbk3 h3 hb3 hk3))
                  go_roundg k1
                  case measure => have := HQ.out; omega
                  case rel => exact ⟨q.2, wrap64 (i + 1), acc ++ (44 : UInt8) :: q.1, rfl, (by first | rfl | rw [w64_01] | rw [w64_12]), H', ⟨by have := HQ.out; omega⟩, ⟨by simpa [Lib.byteCells] using HI3.out⟩, HB3, HK3, HG3⟩
                · rw [if_neg c4] at H
                  cases H
          · rw [if_neg c1] at H
            have c1b : decide (i < n) = false := decide_eq_false c1
            have hc1 := (blk_cell HG1.out 1).trans rfl
            clear c1
            obtain rfl := Option.some.inj H
            clear H
            have H := H0.out
            by_cases c2 : 0 < n
            · rw [if_pos c2] at H
              have c2b : decide (0 < n) = true := decide_eq_true c2
              have hlen1 : (bs ++ Lib.byteCells acc).length + 1 ≤ 140737488355328 := by
                have h3 := congrArg (fun q => q.1.length) (Option.some.inj H)
                simp [Lib.byteCells] at h3 ⊢
                have := Hl.out
                omega
              obtain ⟨rfl, rfl⟩ : acc ++ [41] = l ∧ a1 = r := by have h3 := Option.some.inj H; exact ⟨congrArg Prod.fst h3, congrArg Prod.snd h3⟩
              clear H c2
              go_wp2_with (go_at_call 81; refine (writeByte_any w0.heap.size b _ 41 _ HI1.out hlen1 (HB1.out.size)).mono ?_; rintro e w2 ⟨rfl, h2, hb2, hk2⟩; have HB2 := Aside0.mk (HB1.out.trans hb2); have HK2 := Aside0.mk (HK1.out.trans hk2); have HI2 := Aside0.mk (show Lib.IsBuilderF 93 5 w0.heap.size b (bs ++ Lib.byteCells acc ++ [Value.int .u8 41]) w2 from Or.inr h2); clear h2 hb2 hk2)
              go_ret
              exact ⟨rfl, by simpa [Lib.byteCells] using HI2.out, HB2.out, HK2.out⟩
            · rw [if_neg c2] at H
              have c2b : decide (0 < n) = false := decide_eq_false c2
              obtain ⟨rfl, rfl⟩ : acc = l ∧ a1 = r := by have h3 := Option.some.inj H; exact ⟨congrArg Prod.fst h3, congrArg Prod.snd h3⟩
              clear H c2
              go_wp2
              go_ret
              exact ⟨rfl, HI1.out, HB1.out, HK1.out⟩

theorem wrt.mono_l : ∀ k, (∀ t a, LeO (wrt.f k t a) (wrt.f (k + 1) t a)) ∧ (∀ t a n i acc, LeO (wrt.l k t a n i acc) (wrt.l (k + 1) t a n i acc))
  | 0 => ⟨fun _ _ r h => by simp [wrt.f] at h, fun _ _ _ _ _ r h => by simp [wrt.l] at h⟩
  | k + 1 => by
    obtain ⟨ih0, ih1⟩ := wrt.mono_l k
    constructor
    · intro t a
      unfold wrt.f
      exact LeO.ite (LeO.ite (LeO.bind (ih1 _ _ _ _ _) (fun _ => LeO.refl _)) (LeO.none _)) (LeO.none _)
    · intro t a n i acc
      unfold wrt.l
      exact LeO.ite (LeO.ite (LeO.bind (ih0 _ _) (fun _ => ih1 _ _ _ _ _)) (LeO.ite (LeO.bind (ih0 _ _) (fun _ => ih1 _ _ _ _ _)) (LeO.ite (LeO.bind (ih0 _ _) (fun _ => ih1 _ _ _ _ _)) (LeO.none _)))) (LeO.refl _)
theorem wrt.mono : ∀ t a k, LeO (wrt.f k t a) (wrt.f (k + 1) t a) := fun t a k => (wrt.mono_l k).1 t a

def term_Print.f (k : Nat) (l0 : List S33) : Option (ByteArray × Int) := (term_Check.f k l0).bind fun e => if e = 0 then ((wrt.f k l0 0).bind fun p => if p.1.length ≤ 140737488355328 then some (⟨p.1.toArray⟩, 0) else none) else some (⟨#[]⟩, e)
theorem term_Print.mono : ∀ a0 k, LeO (term_Print.f k a0) (term_Print.f (k + 1) a0) := by
  intro a0 k
  unfold term_Print.f
  exact LeO.bind (term_Check.mono _ _) (fun _ => LeO.ite (LeO.bind (wrt.mono _ _ _) (fun _ => LeO.refl _)) (LeO.refl _))

theorem fresh_builder (B : Nat) (w : World) (h : B ≤ w.heap.size) : Lib.IsBuilderF 93 5 B w.heap.size [] (w.alloc (.cells #[.pointer none, .slice none 0 0] 93)) :=
  .inl ⟨h, _, heap_alloc_new w _, World.ownsRowF_of (own_nil _ _ _ _), by simp [Value.ownBlock]⟩

set_option maxHeartbeats 1000000 in
set_option maxRecDepth 100000 in
theorem term_Print.calls (k : Nat) (A0 : Option Addr) (c0 : Nat) (l0 : List (S33)) (r1 : ByteArray) (r2 : Int) (w : World) (hr0 : Kd.C k33 w A0 l0.length l0) (hc0 : l0.length ≤ c0) (h : term_Print.f k l0 = some (r1, r2)) :
    Calls Tryd.prog 43 #[.slice A0 l0.length c0] w fun e w' => e = .returned (.tuple #[.string r1, .int .i64 r2]) ∧ Below w.heap.size w w' := by
  unfold term_Print.f at h
  obtain ⟨e, he, h⟩ := Option.bind_eq_some_iff.1 h
  have HR0 := Aside0.mk hr0
  have HC0 := Aside0.mk hc0
  have HE := Aside0.mk he
  clear hr0 hc0 he
  by_cases c1 : e = 0
  · subst c1
    rw [if_pos rfl] at h
    obtain ⟨p, hp, h⟩ := Option.bind_eq_some_iff.1 h
    split at h
    case isFalse => cases h
    case isTrue hlen =>
    have HP := Aside0.mk hp
    have HLen := Aside0.mk hlen
    have H := Aside0.mk h
    clear hp hlen h
    go_enter Tryd.func43, Tryd.ntmps43
    go_wp2_with (first | (go_at_call 28; refine (term_Check.calls k A0 c0 l0 0 _ HR0.out HC0.out HE.out).mono ?_; rintro e w1 ⟨rfl, hb1⟩; have HB1 := Aside0.mk hb1; clear hb1) | (go_at_call 66; refine (wrt.calls k A0 c0 l0 0 p.1 p.2 _ [] w _ HR0.out (HB1.out.alloc HB1.out.size _) (fresh_builder _ _ HB1.out.size) (by simpa using HLen.out) HP.out).mono ?_; rintro e w2 ⟨rfl, h2, hb2, hk2⟩; have HI2 := Aside0.mk h2; have HB2 := Aside0.mk hb2; clear h2 hb2 hk2) | (go_at_call 67; refine (Tryd.Builder_String_any_k w.heap.size _ p.1 _ (by simpa using HI2.out) HB2.out.size).mono ?_; rintro e w3 ⟨rfl, h3, hb3, hk3⟩; have HB3 := Aside0.mk (HB2.out.trans hb3); clear h3 hb3 hk3))
    go_ret2
    have h3 := Option.some.inj H.out
    injection h3 with h4 h5
    subst h4 h5
    exact ⟨rfl, HB3.out⟩
  · rw [if_neg c1] at h
    have c1b : (e == 0) = false := beq_eq_false_iff_ne.mpr c1
    have c1c : (e != 0) = true := bne_iff_ne.mpr c1
    have h3 := Option.some.inj h
    injection h3 with h4 h5
    subst h4 h5
    clear h c1
    go_enter Tryd.func43, Tryd.ntmps43
    go_wp2_with (go_at_call 28; refine (term_Check.calls k A0 c0 l0 e _ HR0.out HC0.out HE.out).mono ?_; rintro e1 w1 ⟨rfl, hb1⟩; have HB1 := Aside0.mk hb1; clear hb1)
    go_ret2
    exact ⟨rfl, HB1.out⟩

end Go.Proofs.YtnkpcnnbeaomnaaDoor.C
end

section
-- Written by a program of this session (a scratch print over hand-made contracts), out of the translation. Not trusted: Lean checks it.
namespace Go.Proofs.YtnkpcnnbeaomnaaDoor.C
open Go.RowKit Go.Proofs.YtnkpcnnbeaomnaaDoorW.PrintWords Go.Proofs.YtnkpcnnbeaomnaaDoorW.PrintLast Go.Proofs.YtnkpcnnbeaomnaaDoorW.PrintMore
attribute [local go_sem] max2_int min2_int max_two min_two max_three min_three max_four min_four   -- for this text's walks alone
set_option linter.unusedVariables false
set_option linter.unusedSimpArgs false

/-! ### rule_Print: function 16 -/
def rule_Print.f (k : Nat) (a0_0 : Int) (l0_1 : List (S33)) (l0_2 : List (S33)) : Option (ByteArray × Int) := (rule_Check.f k a0_0 l0_1 l0_2).bind fun t153 => (if t153 = 0 then ((term_Print.f k l0_1).bind fun bt154 => ((term_Print.f k l0_2).bind fun bt156 => (if bt154.1.size + 4 ≤ 9223372036854775807 then (if (bt154.1 ++ (⟨#[32, 45, 62, 32]⟩ : ByteArray)).size + bt156.1.size ≤ 9223372036854775807 then (some ((bt154.1 ++ (⟨#[32, 45, 62, 32]⟩ : ByteArray)) ++ bt156.1, 0)) else (none)) else (none)))) else (some ((⟨#[]⟩ : ByteArray), t153)))
theorem rule_Print.mono : ∀ a0 a1 a2 k, LeO (rule_Print.f k a0 a1 a2) (rule_Print.f (k + 1) a0 a1 a2) := by
  intro a0 a1 a2 k
  unfold rule_Print.f
  repeat' first
      | (with_reducible exact rule_Check.mono _ _ _ _)
      | (with_reducible exact term_Print.mono _ _)
      | (with_reducible exact LeO.refl _)
      | (with_reducible exact LeO.none _)
      | (with_reducible refine LeO.ite ?_ ?_)
      | (with_reducible refine LeO.bind ?_ (fun _ => ?_))
      | exact rule_Check.mono _ _ _ _
      | exact term_Print.mono _ _
      | exact LeO.none _
      | refine LeO.ite ?_ ?_
      | refine LeO.bind ?_ (fun _ => ?_)
set_option maxHeartbeats 8000000 in
set_option maxRecDepth 100000 in
theorem rule_Print.calls (k : Nat) (a0_0 : Int) (A0_1 : Option Addr) (c0_1 : Nat) (l0_1 : List (S33)) (A0_2 : Option Addr) (c0_2 : Nat) (l0_2 : List (S33)) (r1 : ByteArray) (r2 : Int) (w : World) (hr0_1 : Kd.C k33 w A0_1 l0_1.length l0_1) (hc0_1 : l0_1.length ≤ c0_1) (hr0_2 : Kd.C k33 w A0_2 l0_2.length l0_2) (hc0_2 : l0_2.length ≤ c0_2) (h : rule_Print.f k a0_0 l0_1 l0_2 = some (r1, r2)) :
    Calls Tryd.prog 16 #[.agg #[.int .i64 a0_0, .slice A0_1 l0_1.length c0_1, .slice A0_2 l0_2.length c0_2]] w fun e w' => e = .returned (.tuple #[.string r1, .int .i64 r2]) ∧ Below w.heap.size w w' := by
  have hu25 := Tryd.underlying25
  have HR0_1 := Aside0.mk hr0_1
  have HC0_1 := Aside0.mk hc0_1
  clear hr0_1 hc0_1
  have HR0_2 := Aside0.mk hr0_2
  have HC0_2 := Aside0.mk hc0_2
  clear hr0_2 hc0_2
  have HB := Aside0.mk (Below.refl w.heap.size w)
  have H : ((rule_Check.f k a0_0 l0_1 l0_2).bind fun t153 => (if t153 = 0 then ((term_Print.f k l0_1).bind fun bt154 => ((term_Print.f k l0_2).bind fun bt156 => (if bt154.1.size + 4 ≤ 9223372036854775807 then (if (bt154.1 ++ (⟨#[32, 45, 62, 32]⟩ : ByteArray)).size + bt156.1.size ≤ 9223372036854775807 then (some ((bt154.1 ++ (⟨#[32, 45, 62, 32]⟩ : ByteArray)) ++ bt156.1, 0)) else (none)) else (none)))) else (some ((⟨#[]⟩ : ByteArray), t153)))) = some (r1, r2) := h
  clear h
  replace H := Option.bind_eq_some_iff.mp H
  obtain ⟨t153, A20, H⟩ := H
  replace H : (if t153 = 0 then ((term_Print.f k l0_1).bind fun bt154 => ((term_Print.f k l0_2).bind fun bt156 => (if bt154.1.size + 4 ≤ 9223372036854775807 then (if (bt154.1 ++ (⟨#[32, 45, 62, 32]⟩ : ByteArray)).size + bt156.1.size ≤ 9223372036854775807 then (some ((bt154.1 ++ (⟨#[32, 45, 62, 32]⟩ : ByteArray)) ++ bt156.1, 0)) else (none)) else (none)))) else (some ((⟨#[]⟩ : ByteArray), t153))) = some (r1, r2) := H
  have A2 := Aside0.mk A20
  clear A20
  by_cases c3 : t153 = 0
  · rw [if_pos c3] at H
    have c3b0 : (t153 == 0) = true := beq_iff_eq.mpr c3
    have c3b1 : (t153 != 0) = false := bne_eq_false_iff_eq.mpr c3
    clear c3
    replace H := Option.bind_eq_some_iff.mp H
    obtain ⟨⟨t154, t155⟩, A40, H⟩ := H
    replace H : ((term_Print.f k l0_2).bind fun bt156 => (if t154.size + 4 ≤ 9223372036854775807 then (if (t154 ++ (⟨#[32, 45, 62, 32]⟩ : ByteArray)).size + bt156.1.size ≤ 9223372036854775807 then (some ((t154 ++ (⟨#[32, 45, 62, 32]⟩ : ByteArray)) ++ bt156.1, 0)) else (none)) else (none))) = some (r1, r2) := H
    have A4 := Aside0.mk A40
    clear A40
    replace H := Option.bind_eq_some_iff.mp H
    obtain ⟨⟨t156, t157⟩, A50, H⟩ := H
    replace H : (if t154.size + 4 ≤ 9223372036854775807 then (if (t154 ++ (⟨#[32, 45, 62, 32]⟩ : ByteArray)).size + t156.size ≤ 9223372036854775807 then (some ((t154 ++ (⟨#[32, 45, 62, 32]⟩ : ByteArray)) ++ t156, 0)) else (none)) else (none)) = some (r1, r2) := H
    have A5 := Aside0.mk A50
    clear A50
    by_cases c6 : t154.size + 4 ≤ 9223372036854775807
    · rw [if_pos c6] at H
      have c6b0 := eq_true c6
      have c6b1 : decide (t154.size + 4 ≤ 9223372036854775807) = true := decide_eq_true c6
      try have c6b2 : (9223372036854775807 < t154.size + 4) = False := eq_false (Nat.not_lt.2 c6)
      by_cases c7 : (t154 ++ (⟨#[32, 45, 62, 32]⟩ : ByteArray)).size + t156.size ≤ 9223372036854775807
      · rw [if_pos c7] at H
        have c7b0 := eq_true c7
        have c7b1 : decide ((t154 ++ (⟨#[32, 45, 62, 32]⟩ : ByteArray)).size + t156.size ≤ 9223372036854775807) = true := decide_eq_true c7
        try have c7b2 : (9223372036854775807 < (t154 ++ (⟨#[32, 45, 62, 32]⟩ : ByteArray)).size + t156.size) = False := eq_false (Nat.not_lt.2 c7)
        simp only [Option.some.injEq, Prod.mk.injEq] at H
        obtain ⟨rfl, rfl⟩ := H
        go_enter Tryd.func16, Tryd.ntmps16
        go_wp2_with (first | ((with_reducible refine gate_dst (N := 1) rfl ?_); refine box_event ?hg (N := 1) ?hd (cs := #[.int .i64 a0_0, .slice A0_1 l0_1.length c0_1, .slice A0_2 l0_2.length c0_2]) (t := 25) ?hr ?_; (case hd => rfl); (case hg => rfl); (case hr => first | (go_simp; done) | (go_simp; rfl)); intro gb152 hg w8 hbox hb; have n0_ := Aside0.mk (below_step (by repeat (first | (with_reducible first | exact HB.out | apply below_alloc | apply pw_below_drewN | apply below_drew1) | exact HB.out)) hb); have n1_ := Aside0.mk (hbox); have n2_ := Aside0.mk ((by rw [hg]; exact (below_size (by repeat (first | (with_reducible first | exact HB.out | apply below_alloc | apply pw_below_drewN | apply below_drew1) | exact HB.out))) : w.heap.size ≤ gb152)); have n3_ := Aside0.mk ((by rw [hg]; exact (below_size (by repeat (first | (with_reducible first | exact HB.out | apply below_alloc | apply pw_below_drewN | apply below_drew1) | exact HB.out))) : w.heap.size ≤ gb152)); clear HB; have HB := n0_; have BK152 := n1_; have GW152 := n2_; have GE152 := n3_; clear n0_ n1_ n2_ n3_; clear hb hbox hg; have hcz9_0 : w8.cell? ⟨gb152, 0, none⟩ = some (.int .i64 a0_0) := (blk_cell BK152.out 0).trans rfl; have hcz9_1 : w8.cell? ⟨gb152, 1, none⟩ = some (.slice A0_1 l0_1.length c0_1) := (blk_cell BK152.out 1).trans rfl; have hcz9_2 : w8.cell? ⟨gb152, 2, none⟩ = some (.slice A0_2 l0_2.length c0_2) := (blk_cell BK152.out 2).trans rfl; have hfz9_0 := blk_frozen BK152.out 0; have hfz9_1 := blk_frozen BK152.out 1; have hfz9_2 := blk_frozen BK152.out 2) | ((with_reducible refine gate_callee (f := 9) rfl ?_); refine goesL_ (some 10) rfl rfl Tryd.func9 (by kernel_rfl) rfl #[.agg #[.int .i64 a0_0, .slice A0_1 l0_1.length c0_1, .slice A0_2 l0_2.length c0_2]] rfl (by (try simp only [List.map_toArray, List.map_cons, List.map_nil]); first | done | rfl | (simp only [List.length_drop, List.length_take]; rfl)) ?_; (with_reducible refine (rule_Check.calls k a0_0 _ _ l0_1 _ _ l0_2 t153 _ ?side1 ?side2 ?side3 ?side4 A2.out).mono ?_); (case side1 => repeat (first | exact (Kd.C_below HR0_1.out HB.out) | (with_reducible refine Kd.C_alloc ?_ _) | (with_reducible refine Kd.C_drewN ?_ _) | (with_reducible refine Kd.C_drew ?_))); (case side2 => exact HC0_1.out); (case side3 => repeat (first | exact (Kd.C_below HR0_2.out HB.out) | (with_reducible refine Kd.C_alloc ?_ _) | (with_reducible refine Kd.C_drewN ?_ _) | (with_reducible refine Kd.C_drew ?_))); (case side4 => exact HC0_2.out); rintro e w10 ⟨rfl, hb⟩; refine ⟨_, rfl, ?_⟩; have n0_ := Aside0.mk (blk_below (g := gb152) (o := .cells #[.int .i64 a0_0, .slice A0_1 l0_1.length c0_1, .slice A0_2 l0_2.length c0_2] 25 (0, 0)) (by (with_reducible repeat (first | refine blk_drewN ?_ _ | refine blk_drew ?_ | refine blk_alloc ?_ _)); exact BK152.out) hb); have n1_ := Aside0.mk (below_step (by repeat (first | (with_reducible first | exact HB.out | apply below_alloc | apply pw_below_drewN | apply below_drew1 | refine below_set ?_ GE152.out) | exact HB.out)) hb); clear BK152; clear HB; have BK152 := n0_; have HB := n1_; clear n0_ n1_; (try clear hb); (try clear hb2); (try clear hk); (try clear hi); have hcz11_0 : w10.cell? ⟨gb152, 0, none⟩ = some (.int .i64 a0_0) := (blk_cell BK152.out 0).trans rfl; have hcz11_1 : w10.cell? ⟨gb152, 1, none⟩ = some (.slice A0_1 l0_1.length c0_1) := (blk_cell BK152.out 1).trans rfl; have hcz11_2 : w10.cell? ⟨gb152, 2, none⟩ = some (.slice A0_2 l0_2.length c0_2) := (blk_cell BK152.out 2).trans rfl; have hfz11_0 := blk_frozen BK152.out 0; have hfz11_1 := blk_frozen BK152.out 1; have hfz11_2 := blk_frozen BK152.out 2) | ((with_reducible refine gate_callee (f := 43) rfl ?_); refine goesL_ (some 17) rfl rfl Tryd.func43 (by kernel_rfl) rfl #[.slice A0_1 l0_1.length c0_1] rfl (by (try simp only [List.map_toArray, List.map_cons, List.map_nil]); first | done | rfl | (simp only [List.length_drop, List.length_take]; rfl)) ?_; (with_reducible refine (term_Print.calls k _ _ l0_1 t154 t155 _ ?side1 ?side2 A4.out).mono ?_); (case side1 => repeat (first | exact (Kd.C_below HR0_1.out HB.out) | (with_reducible refine Kd.C_alloc ?_ _) | (with_reducible refine Kd.C_drewN ?_ _) | (with_reducible refine Kd.C_drew ?_))); (case side2 => exact HC0_1.out); rintro e w12 ⟨rfl, hb⟩; refine ⟨_, rfl, ?_⟩; have n0_ := Aside0.mk (blk_below (g := gb152) (o := .cells #[.int .i64 a0_0, .slice A0_1 l0_1.length c0_1, .slice A0_2 l0_2.length c0_2] 25 (0, 0)) (by (with_reducible repeat (first | refine blk_drewN ?_ _ | refine blk_drew ?_ | refine blk_alloc ?_ _)); exact BK152.out) hb); have n1_ := Aside0.mk (below_step (by repeat (first | (with_reducible first | exact HB.out | apply below_alloc | apply pw_below_drewN | apply below_drew1 | refine below_set ?_ GE152.out) | exact HB.out)) hb); clear BK152; clear HB; have BK152 := n0_; have HB := n1_; clear n0_ n1_; (try clear hb); (try clear hb2); (try clear hk); (try clear hi); have hcz13_0 : w12.cell? ⟨gb152, 0, none⟩ = some (.int .i64 a0_0) := (blk_cell BK152.out 0).trans rfl; have hcz13_1 : w12.cell? ⟨gb152, 1, none⟩ = some (.slice A0_1 l0_1.length c0_1) := (blk_cell BK152.out 1).trans rfl; have hcz13_2 : w12.cell? ⟨gb152, 2, none⟩ = some (.slice A0_2 l0_2.length c0_2) := (blk_cell BK152.out 2).trans rfl; have hfz13_0 := blk_frozen BK152.out 0; have hfz13_1 := blk_frozen BK152.out 1; have hfz13_2 := blk_frozen BK152.out 2) | ((with_reducible refine gate_callee (f := 43) rfl ?_); refine goesL_ (some 23) rfl rfl Tryd.func43 (by kernel_rfl) rfl #[.slice A0_2 l0_2.length c0_2] rfl (by (try simp only [List.map_toArray, List.map_cons, List.map_nil]); first | done | rfl | (simp only [List.length_drop, List.length_take]; rfl)) ?_; (with_reducible refine (term_Print.calls k _ _ l0_2 t156 t157 _ ?side1 ?side2 A5.out).mono ?_); (case side1 => repeat (first | exact (Kd.C_below HR0_2.out HB.out) | (with_reducible refine Kd.C_alloc ?_ _) | (with_reducible refine Kd.C_drewN ?_ _) | (with_reducible refine Kd.C_drew ?_))); (case side2 => exact HC0_2.out); rintro e w14 ⟨rfl, hb⟩; refine ⟨_, rfl, ?_⟩; have n0_ := Aside0.mk (blk_below (g := gb152) (o := .cells #[.int .i64 a0_0, .slice A0_1 l0_1.length c0_1, .slice A0_2 l0_2.length c0_2] 25 (0, 0)) (by (with_reducible repeat (first | refine blk_drewN ?_ _ | refine blk_drew ?_ | refine blk_alloc ?_ _)); exact BK152.out) hb); have n1_ := Aside0.mk (below_step (by repeat (first | (with_reducible first | exact HB.out | apply below_alloc | apply pw_below_drewN | apply below_drew1 | refine below_set ?_ GE152.out) | exact HB.out)) hb); clear BK152; clear HB; have BK152 := n0_; have HB := n1_; clear n0_ n1_; (try clear hb); (try clear hb2); (try clear hk); (try clear hi)))
        go_ret2
        exact ⟨by first | rfl | (simp [errW_none, errW_some] <;> rfl) | (simp [*, errW_none, errW_some] <;> rfl), by repeat (first | (with_reducible first | exact HB.out | apply below_alloc | apply pw_below_drewN | apply below_drew1 | refine below_set ?_ GE152.out) | exact HB.out)⟩
      · rw [if_neg c7] at H
        exact absurd H (by simp)
    · rw [if_neg c6] at H
      exact absurd H (by simp)
  · rw [if_neg c3] at H
    have c3b0 : (t153 == 0) = false := beq_eq_false_iff_ne.mpr c3
    have c3b1 : (t153 != 0) = true := bne_iff_ne.mpr c3
    simp only [Option.some.injEq, Prod.mk.injEq] at H
    obtain ⟨rfl, rfl⟩ := H
    go_enter Tryd.func16, Tryd.ntmps16
    go_wp2_with (first | ((with_reducible refine gate_dst (N := 1) rfl ?_); refine box_event ?hg (N := 1) ?hd (cs := #[.int .i64 a0_0, .slice A0_1 l0_1.length c0_1, .slice A0_2 l0_2.length c0_2]) (t := 25) ?hr ?_; (case hd => rfl); (case hg => rfl); (case hr => first | (go_simp; done) | (go_simp; rfl)); intro gb152 hg w15 hbox hb; have n0_ := Aside0.mk (below_step (by repeat (first | (with_reducible first | exact HB.out | apply below_alloc | apply pw_below_drewN | apply below_drew1) | exact HB.out)) hb); have n1_ := Aside0.mk (hbox); have n2_ := Aside0.mk ((by rw [hg]; exact (below_size (by repeat (first | (with_reducible first | exact HB.out | apply below_alloc | apply pw_below_drewN | apply below_drew1) | exact HB.out))) : w.heap.size ≤ gb152)); have n3_ := Aside0.mk ((by rw [hg]; exact (below_size (by repeat (first | (with_reducible first | exact HB.out | apply below_alloc | apply pw_below_drewN | apply below_drew1) | exact HB.out))) : w.heap.size ≤ gb152)); clear HB; have HB := n0_; have BK152 := n1_; have GW152 := n2_; have GE152 := n3_; clear n0_ n1_ n2_ n3_; clear hb hbox hg; have hcz16_0 : w15.cell? ⟨gb152, 0, none⟩ = some (.int .i64 a0_0) := (blk_cell BK152.out 0).trans rfl; have hcz16_1 : w15.cell? ⟨gb152, 1, none⟩ = some (.slice A0_1 l0_1.length c0_1) := (blk_cell BK152.out 1).trans rfl; have hcz16_2 : w15.cell? ⟨gb152, 2, none⟩ = some (.slice A0_2 l0_2.length c0_2) := (blk_cell BK152.out 2).trans rfl; have hfz16_0 := blk_frozen BK152.out 0; have hfz16_1 := blk_frozen BK152.out 1; have hfz16_2 := blk_frozen BK152.out 2) | ((with_reducible refine gate_callee (f := 9) rfl ?_); refine goesL_ (some 10) rfl rfl Tryd.func9 (by kernel_rfl) rfl #[.agg #[.int .i64 a0_0, .slice A0_1 l0_1.length c0_1, .slice A0_2 l0_2.length c0_2]] rfl (by (try simp only [List.map_toArray, List.map_cons, List.map_nil]); first | done | rfl | (simp only [List.length_drop, List.length_take]; rfl)) ?_; (with_reducible refine (rule_Check.calls k a0_0 _ _ l0_1 _ _ l0_2 t153 _ ?side1 ?side2 ?side3 ?side4 A2.out).mono ?_); (case side1 => repeat (first | exact (Kd.C_below HR0_1.out HB.out) | (with_reducible refine Kd.C_alloc ?_ _) | (with_reducible refine Kd.C_drewN ?_ _) | (with_reducible refine Kd.C_drew ?_))); (case side2 => exact HC0_1.out); (case side3 => repeat (first | exact (Kd.C_below HR0_2.out HB.out) | (with_reducible refine Kd.C_alloc ?_ _) | (with_reducible refine Kd.C_drewN ?_ _) | (with_reducible refine Kd.C_drew ?_))); (case side4 => exact HC0_2.out); rintro e w17 ⟨rfl, hb⟩; refine ⟨_, rfl, ?_⟩; have n0_ := Aside0.mk (blk_below (g := gb152) (o := .cells #[.int .i64 a0_0, .slice A0_1 l0_1.length c0_1, .slice A0_2 l0_2.length c0_2] 25 (0, 0)) (by (with_reducible repeat (first | refine blk_drewN ?_ _ | refine blk_drew ?_ | refine blk_alloc ?_ _)); exact BK152.out) hb); have n1_ := Aside0.mk (below_step (by repeat (first | (with_reducible first | exact HB.out | apply below_alloc | apply pw_below_drewN | apply below_drew1 | refine below_set ?_ GE152.out) | exact HB.out)) hb); clear BK152; clear HB; have BK152 := n0_; have HB := n1_; clear n0_ n1_; (try clear hb); (try clear hb2); (try clear hk); (try clear hi)))
    go_ret2
    exact ⟨by first | rfl | (simp [errW_none, errW_some] <;> rfl) | (simp [*, errW_none, errW_some] <;> rfl), by repeat (first | (with_reducible first | exact HB.out | apply below_alloc | apply pw_below_drewN | apply below_drew1 | refine below_set ?_ GE152.out) | exact HB.out)⟩

end Go.Proofs.YtnkpcnnbeaomnaaDoor.C
end

section
/- strconv.Itoa at this dump (functions 48, 68, 82, 87), of one digit. -/
namespace Go.Proofs.YtnkpcnnbeaomnaaDoor.C
open Go.RowKit Go.Proofs.YtnkpcnnbeaomnaaDoorW.PrintWords Go.Proofs.YtnkpcnnbeaomnaaDoorW.PrintLast Go.Proofs.YtnkpcnnbeaomnaaDoorW.PrintMore
set_option linter.unusedVariables false
set_option linter.unusedSimpArgs false
def dig (i : Int) : ByteArray := ⟨#[UInt8.ofNat (48 + i.toNat)]⟩
def strconv_Itoa.f (i : Int) : Option ByteArray := if 0 ≤ i then (if i < 10 then some (dig i) else none) else none

set_option maxHeartbeats 1000000 in
set_option maxRecDepth 100000 in
theorem small_calls (i : Int) (h : i = 0 ∨ i = 1 ∨ i = 2 ∨ i = 3 ∨ i = 4 ∨ i = 5 ∨ i = 6 ∨ i = 7 ∨ i = 8 ∨ i = 9) (w : World) : Calls Tryd.prog 87 #[.int .i64 i] w fun x w' => x = .returned (.string (dig i)) ∧ w' = w := by
  rcases h with rfl | rfl | rfl | rfl | rfl | rfl | rfl | rfl | rfl | rfl <;>
  · go_enter Tryd.func87, Tryd.ntmps87
    go_wp2
    go_ret
    exact ⟨rfl, rfl⟩
set_option maxHeartbeats 1000000 in
set_option maxRecDepth 100000 in
theorem formatInt_calls (i : Int) (h : i = 0 ∨ i = 1 ∨ i = 2 ∨ i = 3 ∨ i = 4 ∨ i = 5 ∨ i = 6 ∨ i = 7 ∨ i = 8 ∨ i = 9) (w : World) : Calls Tryd.prog 82 #[.int .i64 i, .int .i64 10] w fun x w' => x = .returned (.string (dig i)) ∧ w' = w := by
  have h0 : decide (0 ≤ i) = true := decide_eq_true (by omega)
  have h1 : decide (i < 100) = true := decide_eq_true (by omega)
  go_enter Tryd.func82, Tryd.ntmps82
  go_wp2_with (go_at_call 87; refine (small_calls i h w).mono ?_; rintro x w1 ⟨rfl, rfl⟩)
  go_ret
  exact ⟨rfl, rfl⟩
set_option maxHeartbeats 1000000 in
set_option maxRecDepth 100000 in
theorem itoa68_calls (i : Int) (h : i = 0 ∨ i = 1 ∨ i = 2 ∨ i = 3 ∨ i = 4 ∨ i = 5 ∨ i = 6 ∨ i = 7 ∨ i = 8 ∨ i = 9) (w : World) : Calls Tryd.prog 68 #[.int .i64 i] w fun x w' => x = .returned (.string (dig i)) ∧ w' = w := by
  go_enter Tryd.func68, Tryd.ntmps68
  go_wp2_with (go_at_call 82; refine (formatInt_calls i h w).mono ?_; rintro x w1 ⟨rfl, rfl⟩)
  go_ret
  exact ⟨rfl, rfl⟩
set_option maxHeartbeats 1000000 in
set_option maxRecDepth 100000 in
theorem strconv_Itoa.calls (a0 : Int) (r : ByteArray) (w : World) (h : strconv_Itoa.f a0 = some r) : Calls Tryd.prog 48 #[.int .i64 a0] w fun e w' => e = .returned (.string r) ∧ Below w.heap.size w w' := by
  unfold strconv_Itoa.f at h
  split at h
  case isFalse => cases h
  case isTrue h0 =>
  split at h
  case isFalse => cases h
  case isTrue h1 =>
  obtain rfl := Option.some.inj h
  clear h
  have h : a0 = 0 ∨ a0 = 1 ∨ a0 = 2 ∨ a0 = 3 ∨ a0 = 4 ∨ a0 = 5 ∨ a0 = 6 ∨ a0 = 7 ∨ a0 = 8 ∨ a0 = 9 := by omega
  clear h0 h1
  go_enter Tryd.func48, Tryd.ntmps48
  go_wp2_with (go_at_call 68; refine (itoa68_calls a0 h w).mono ?_; rintro x w1 ⟨rfl, rfl⟩)
  go_ret
  exact ⟨rfl, Below.refl _ _⟩
end Go.Proofs.YtnkpcnnbeaomnaaDoor.C
end

section
-- Written by a program of this session (a scratch print over hand-made contracts), out of the translation. Not trusted: Lean checks it.
namespace Go.Proofs.YtnkpcnnbeaomnaaDoor.C
open Go.RowKit Go.Proofs.YtnkpcnnbeaomnaaDoorW.PrintWords Go.Proofs.YtnkpcnnbeaomnaaDoorW.PrintLast Go.Proofs.YtnkpcnnbeaomnaaDoorW.PrintMore
attribute [local go_sem] max2_int min2_int max_two min_two max_three min_three max_four min_four   -- for this text's walks alone
set_option linter.unusedVariables false
set_option linter.unusedSimpArgs false

/-! ### rule_PlainFn1: function 45 -/
def rule_PlainFn1.l0 : Nat → List ByteArray → List (S33) → Int → Int → Option ((List (S33)))
  | 0, _, _, _, _ => none
  | k + 1, x1, x4, x11, x12 => if x12 < x11 then (if 0 ≤ x12 then (if x12 < (x4.length : Int) then ((slices_Index_string_string.f k x1 ((rd_T33 x4 x12).f0)).bind fun t191 => (if t191 ≥ 0 then ((strconv_Itoa.f t191).bind fun t192 => (if 1 + t192.size ≤ 9223372036854775807 then (rule_PlainFn1.l0 k x1 (x4.set (x12 : Int).toNat (⟨(⟨#[88]⟩ : ByteArray) ++ t192, (rd_T33 x4 x12).f1⟩ : S33)) x11 (wrap64 (x12 + 1))) else (none))) else (rule_PlainFn1.l0 k x1 x4 x11 (wrap64 (x12 + 1))))) else (none)) else (none)) else (some x4)
def rule_PlainFn1.f (k : Nat) (l0 : List (S33)) (l1 : List ByteArray) : Option ((List (S33))) := (clone_Term.f l0).bind fun t186 => (rule_PlainFn1.l0 k l1 t186 (t186.length : Int) 0)
theorem rule_PlainFn1.mono_l : ∀ k, (∀ y0 y1 y2 y3, LeO (rule_PlainFn1.l0 k y0 y1 y2 y3) (rule_PlainFn1.l0 (k + 1) y0 y1 y2 y3))
  | 0 => fun _ _ _ _ r h => by simp [rule_PlainFn1.l0] at h
  | k + 1 => by
    have ih0 := rule_PlainFn1.mono_l k
    · intro y0 y1 y2 y3
      unfold rule_PlainFn1.l0
      repeat' first
      | (with_reducible exact ih0 _ _ _ _)
      | (with_reducible exact slices_Index_string_string.mono _ _ _)
      | (with_reducible exact LeO.refl _)
      | (with_reducible exact LeO.none _)
      | (with_reducible refine LeO.ite ?_ ?_)
      | (with_reducible refine LeO.bind ?_ (fun _ => ?_))
      | exact ih0 _ _ _ _
      | exact slices_Index_string_string.mono _ _ _
      | exact LeO.none _
      | refine LeO.ite ?_ ?_
      | refine LeO.bind ?_ (fun _ => ?_)
theorem rule_PlainFn1.mono : ∀ a0 a1 k, LeO (rule_PlainFn1.f k a0 a1) (rule_PlainFn1.f (k + 1) a0 a1) := by
  intro a0 a1 k
  have ih0 := rule_PlainFn1.mono_l k
  unfold rule_PlainFn1.f
  repeat' first
      | (with_reducible exact ih0 _ _ _ _)
      | (with_reducible exact slices_Index_string_string.mono _ _ _)
      | (with_reducible exact LeO.refl _)
      | (with_reducible exact LeO.none _)
      | (with_reducible refine LeO.ite ?_ ?_)
      | (with_reducible refine LeO.bind ?_ (fun _ => ?_))
      | exact ih0 _ _ _ _
      | exact slices_Index_string_string.mono _ _ _
      | exact LeO.none _
      | refine LeO.ite ?_ ?_
      | refine LeO.bind ?_ (fun _ => ?_)
/-- A slice out of a variable of its own. -/
theorem load_slice {o : Oper} {p : Operand} (ho : o.op = Op.load 45 p) {a : Act} {w : World} {ad : Addr} {A : Option Addr} {n c : Nat} (hp : a.eval p = .pointer (some ad)) (h0 : w.cell? ad = some (.slice A n c)) :
    (execOp a.eval o).run Tryd.prog w = .ok (.value (.slice A n c)) w := by
  unfold execOp
  simp only [ho, hp]
  go_simp
theorem capt {w W : World} {g : Nat} {A : Option Addr} {c : Nat} {l : List ByteArray} (h : StrAt w g A c l) (hb : Below w.heap.size w W) : W.cell? ⟨g, 0, none⟩ = some (.slice A l.length c) :=
  (blk_cell ((hb.block g (blk_lt h.1)).trans h.1) 0).trans rfl

set_option maxHeartbeats 8000000 in
set_option maxRecDepth 100000 in
theorem rule_PlainFn1.calls (k : Nat) (A0 : Option Addr) (c0 : Nat) (l0 : List (S33)) (gv : Nat) (A1 : Option Addr) (c1 : Nat) (l1 : List ByteArray) (r : List (S33)) (w : World) (hr0 : Kd.C k33 w A0 l0.length l0) (hc0 : l0.length ≤ c0) (hv : StrAt w gv A1 c1 l1) (h : rule_PlainFn1.f k l0 l1 = some r) :
    Calls Tryd.prog 45 #[.slice A0 l0.length c0, .pointer (some ⟨gv, 0, none⟩)] w fun e w' => ∃ v0_ : Value, e = .returned (v0_) ∧ Kd.R k33 33 w' w.heap.size (fun _ => True) v0_ r ∧ Below w.heap.size w w' := by
  have hu33 := Tryd.underlying33
  have HR0 := Aside0.mk hr0
  have HC0 := Aside0.mk hc0
  clear hr0 hc0
  have HR1 := Aside0.mk hv.2.1
  have HC1 := Aside0.mk hv.2.2
  have HV := Aside0.mk hv
  clear hv
  have HB := Aside0.mk (Below.refl w.heap.size w)
  have H : ((clone_Term.f l0).bind fun t186 => (rule_PlainFn1.l0 k l1 t186 (t186.length : Int) 0)) = some r := h
  clear h
  replace H := Option.bind_eq_some_iff.mp H
  obtain ⟨t186, A30, H⟩ := H
  replace H : (rule_PlainFn1.l0 k l1 t186 (t186.length : Int) 0) = some r := H
  have A3 := Aside0.mk A30
  clear A30
  have H' := Aside0.mk H
  clear H
  go_enter Tryd.func45, Tryd.ntmps45
  go_wp2_with (first | ((with_reducible refine gate_callee (f := 46) rfl ?_); refine goesL_ (some 9) rfl rfl Tryd.func46 (by kernel_rfl) rfl #[.slice A0 l0.length c0] rfl (by (try simp only [List.map_toArray, List.map_cons, List.map_nil]); first | done | rfl | (simp only [List.length_drop, List.length_take]; rfl)) ?_; (with_reducible refine (clone_Term.calls _ _ l0 t186 _ ?side1 ?side2 A3.out).mono ?_); (case side1 => repeat (first | exact HR0.out | (with_reducible refine Kd.C_alloc ?_ _) | (with_reducible refine Kd.C_drewN ?_ _) | (with_reducible refine Kd.C_drew ?_))); (case side2 => exact HC0.out); rintro e w4 ⟨v187, rfl, ho0, hb⟩; refine ⟨_, rfl, ?_⟩; have n0_ := Aside0.mk (Kd.R_lower ho0 (below_size (by repeat (first | (with_reducible first | exact HB.out | apply below_alloc | apply pw_below_drewN | apply below_drew1) | exact HB.out)))); have n1_ := Aside0.mk (below_step (by repeat (first | (with_reducible first | exact HB.out | apply below_alloc | apply pw_below_drewN | apply below_drew1) | exact HB.out)) hb); clear HB; have HO188 := n0_; have HB := n1_; clear n0_ n1_; (try clear hb); (try clear hb2); (try clear hk); (try clear hi); (try clear ho0); obtain ⟨Ao5, co5, eo5⟩ := Kd.R_slice HO188.out; subst eo5))
  go_loopg [12] k (fun kq v12 w' => ∃ (x4_1 : List (S33)) (x12_1 : Int), v12 = .int .i64 x12_1 ∧ Aside0 (rule_PlainFn1.l0 kq l1 x4_1 (t186.length : Int) x12_1 = some r) ∧ Aside0 (kq ≤ k) ∧ Aside0 (Kd.R k33 33 w' w.heap.size (fun _ => True) (.slice Ao5 t186.length co5) x4_1) ∧ Aside0 (Below w.heap.size w w'))
  case atStart => exact ⟨(t186), (0), (by first | rfl | (simp; done) | (simp [*]; done)), H', ⟨Nat.le_refl _⟩, ⟨by (with_reducible repeat (first | apply Kd.R_alloc | apply Kd.R_drewN | apply Kd.R_drew)); exact HO188.out⟩, ⟨by repeat (first | (with_reducible first | exact HB.out | apply below_alloc | apply pw_below_drewN | apply below_drew1) | exact HB.out)⟩⟩
  case round =>
    clear H'
    try clear c1
    try clear p2
    try clear c4
    obtain ⟨x4_1, x12_1, rfl, HA, HK1, HO_4, HB⟩ := hrel
    have hl4_1 := (Kd.R_reads' HO_4.out).1
    rw [hl4_1] at HO_4
    (try simp only [hl4_1])
    cases gk with
    | zero => exact absurd HA.out (by simp [rule_PlainFn1.l0])
    | succ k1 =>
      have H := HA.out
      clear HA
      simp only [rule_PlainFn1.l0] at H
      by_cases c6 : x12_1 < (t186.length : Int)
      · rw [if_pos c6] at H
        have c6b0 : decide (x12_1 < (t186.length : Int)) = true := decide_eq_true c6
        clear c6
        by_cases c7 : 0 ≤ x12_1
        · rw [if_pos c7] at H
          have c7b0 : decide (0 ≤ x12_1) = true := decide_eq_true c7
          clear c7
          by_cases c8 : x12_1 < (x4_1.length : Int)
          · rw [if_pos c8] at H
            have c8b0 : decide (x12_1 < (x4_1.length : Int)) = true := decide_eq_true c8
            clear c8
            replace H := Option.bind_eq_some_iff.mp H
            obtain ⟨t191, A90, H⟩ := H
            replace H : (if t191 ≥ 0 then ((strconv_Itoa.f t191).bind fun t192 => (if 1 + t192.size ≤ 9223372036854775807 then (rule_PlainFn1.l0 k1 l1 (x4_1.set (x12_1 : Int).toNat (⟨(⟨#[88]⟩ : ByteArray) ++ t192, (rd_T33 x4_1 x12_1).f1⟩ : S33)) (t186.length : Int) (wrap64 (x12_1 + 1))) else (none))) else (rule_PlainFn1.l0 k1 l1 x4_1 (t186.length : Int) (wrap64 (x12_1 + 1)))) = some r := H
            have A9 := Aside0.mk A90
            clear A90
            by_cases c10 : t191 ≥ 0
            · rw [if_pos c10] at H
              have c10b0 : decide (0 ≤ t191) = true := decide_eq_true c10
              clear c10
              replace H := Option.bind_eq_some_iff.mp H
              obtain ⟨t192, A110, H⟩ := H
              replace H : (if 1 + t192.size ≤ 9223372036854775807 then (rule_PlainFn1.l0 k1 l1 (x4_1.set (x12_1 : Int).toNat (⟨(⟨#[88]⟩ : ByteArray) ++ t192, (rd_T33 x4_1 x12_1).f1⟩ : S33)) (t186.length : Int) (wrap64 (x12_1 + 1))) else (none)) = some r := H
              have A11 := Aside0.mk A110
              clear A110
              by_cases c12 : 1 + t192.size ≤ 9223372036854775807
              · rw [if_pos c12] at H
                have c12b0 := eq_true c12
                have c12b1 : decide (1 + t192.size ≤ 9223372036854775807) = true := decide_eq_true c12
                try have c12b2 : (9223372036854775807 < 1 + t192.size) = False := eq_false (Nat.not_lt.2 c12)
                obtain ⟨y193, hy193⟩ : ∃ y_ : List (S33), y_ = (x4_1.set (x12_1 : Int).toNat (⟨(⟨#[88]⟩ : ByteArray) ++ t192, (rd_T33 x4_1 x12_1).f1⟩ : S33)) := ⟨_, rfl⟩
                replace H : (rule_PlainFn1.l0 k1 l1 y193 (t186.length : Int) (wrap64 (x12_1 + 1))) = some r := by first | (rw [hy193]; with_reducible exact H) | (have H2_ := (Option.bind_some _ _).symm.trans H; rw [hy193]; with_reducible exact H2_) | (have H2_ := (Option.bind_some _ _).symm.trans H; with_reducible exact H2_) | with_reducible exact H | (rw [hy193]; exact H) | exact H
                have Ny193 := Aside0.mk hy193
                clear hy193
                have H' := Aside0.mk H
                clear H
                have p189 : 0 ≤ (x12_1 : Int) := of_decide_eq_true (by first | (with_reducible assumption) | assumption)
                have q189 : x12_1 < (x4_1.length : Int) := of_decide_eq_true (by first | (with_reducible assumption) | assumption)
                obtain ⟨ad189, e189, hx189_0, hx189_1⟩ := at_T33 (Kd.R_reads' HO_4.out).2.2 x12_1 p189 q189
                cases e189
                replace p189 := eq_true p189
                replace q189 := eq_true q189
                go_wp2_with (first | ((with_reducible refine gate_dst (N := 6) rfl ?_); refine box_event ?hg (N := 6) ?hd (cs := #[.string (⟨#[]⟩ : ByteArray), .int .i64 0]) (t := 33) ?hr ?_; (case hd => rfl); (case hg => rfl); (case hr => first | (go_simp; done) | (go_simp; rfl)); intro gb190 hg w14 hbox hb; have n0_ := Aside0.mk (Kd.R_below (Kd.R_elderB (by (with_reducible repeat (first | apply Kd.R_alloc | apply Kd.R_drewN | apply Kd.R_drew)); exact HO_4.out) gb190 (Nat.le_of_eq hg.symm)) hb); have n1_ := Aside0.mk (below_step (by repeat (first | (with_reducible first | exact HB.out | apply below_alloc | apply pw_below_drewN | apply below_drew1) | exact HB.out)) hb); have n2_ := Aside0.mk (hbox); have n3_ := Aside0.mk ((by rw [hg]; exact (below_size (by repeat (first | (with_reducible first | exact HB.out | apply below_alloc | apply pw_below_drewN | apply below_drew1) | exact HB.out))) : w.heap.size ≤ gb190)); have n4_ := Aside0.mk ((by rw [hg]; exact (below_size (by repeat (first | (with_reducible first | exact HB.out | apply below_alloc | apply pw_below_drewN | apply below_drew1) | exact HB.out))) : w.heap.size ≤ gb190)); clear HO_4; clear HB; have HO_4 := n0_; have HB := n1_; have BK190 := n2_; have GW190 := n3_; have GE190 := n4_; clear n0_ n1_ n2_ n3_ n4_; clear hb hbox hg; have hcz15_0 : w14.cell? ⟨gb190, 0, none⟩ = some (.string (⟨#[]⟩ : ByteArray)) := (blk_cell BK190.out 0).trans rfl; have hcz15_1 : w14.cell? ⟨gb190, 1, none⟩ = some (.int .i64 0) := (blk_cell BK190.out 1).trans rfl; have hfz15_0 := blk_frozen BK190.out 0; have hfz15_1 := blk_frozen BK190.out 1) | ((with_reducible refine gate_callee (f := 47) rfl ?_); refine goesL_ (some 20) rfl rfl Tryd.func47 (by kernel_rfl) rfl #[.slice A1 l1.length c1, .string ((rd_T33 x4_1 x12_1).f0)] rfl (by (try simp only [List.map_toArray, List.map_cons, List.map_nil]); first | done | rfl | (simp only [List.length_drop, List.length_take]; rfl)) ?_; (with_reducible refine (slices_Index_string_string.calls k1 _ _ l1 ((rd_T33 x4_1 x12_1).f0) t191 _ ?side1 ?side2 A9.out).mono ?_); (case side1 => exact Kd.C_below HR1.out (by repeat (first | (with_reducible first | exact HB.out | apply below_alloc | apply pw_below_drewN | apply below_drew1 | refine below_set ?_ GE190.out) | exact HB.out))); (case side2 => exact HC1.out); rintro e w' ⟨rfl, ⟨nd, rfl⟩⟩; refine ⟨_, rfl, ?_⟩) | ((with_reducible refine gate_callee (f := 48) rfl ?_); refine goesL_ (some 26) rfl rfl Tryd.func48 (by kernel_rfl) rfl #[.int .i64 t191] rfl (by (try simp only [List.map_toArray, List.map_cons, List.map_nil]); first | done | rfl | (simp only [List.length_drop, List.length_take]; rfl)) ?_; (with_reducible refine (strconv_Itoa.calls t191 t192 _ A11.out).mono ?_); rintro e w16 ⟨rfl, hb⟩; refine ⟨_, rfl, ?_⟩; have n0_ := Aside0.mk (Kd.R_below (by (with_reducible repeat (first | apply Kd.R_alloc | apply Kd.R_drewN | apply Kd.R_drew)); exact (Kd.R_mono (Kd.R_far (p := ⟨gb190, 1, none⟩) (Kd.R_far (p := ⟨gb190, 0, none⟩) (Kd.R_mono HO_4.out (fun k_ hk => (⟨hk, hk.2⟩ : _ ∧ k_ ≠ gb190))) (fun _ hk => hk.2) (.string ((rd_T33 x4_1 x12_1).f0))) (fun _ hk => hk.2) (.int .i64 ((rd_T33 x4_1 x12_1).f1))) (fun _ h_ => h_.1))) hb); have n1_ := Aside0.mk (blk_below (g := gb190) (o := .cells #[.string ((rd_T33 x4_1 x12_1).f0), .int .i64 ((rd_T33 x4_1 x12_1).f1)] 33 (0, 0)) (by (with_reducible repeat (first | refine blk_drewN ?_ _ | refine blk_drew ?_ | refine blk_alloc ?_ _)); refine blk_put (cs := #[.string ((rd_T33 x4_1 x12_1).f0), .int .i64 0]) ?_ 1 _ rfl; (with_reducible repeat (first | refine blk_drewN ?_ _ | refine blk_drew ?_ | refine blk_alloc ?_ _)); refine blk_put (cs := #[.string (⟨#[]⟩ : ByteArray), .int .i64 0]) ?_ 0 _ rfl; (with_reducible repeat (first | refine blk_drewN ?_ _ | refine blk_drew ?_ | refine blk_alloc ?_ _)); exact BK190.out) hb); have n2_ := Aside0.mk (below_step (by repeat (first | (with_reducible first | exact HB.out | apply below_alloc | apply pw_below_drewN | apply below_drew1 | refine below_set ?_ GE190.out) | exact HB.out)) hb); clear HO_4; clear BK190; clear HB; have HO_4 := n0_; have BK190 := n1_; have HB := n2_; clear n0_ n1_ n2_; (try clear hb); (try clear hb2); (try clear hk); (try clear hi); have p13 : 0 ≤ (x12_1 : Int) := of_decide_eq_true (by first | (with_reducible assumption) | assumption); have q13 : (x12_1 : Int) < ((x4_1.length : Int) : Int) := of_decide_eq_true (by first | (with_reducible assumption) | assumption); obtain ⟨go13, co13, eo13, gb13, gl13, cl13, HG13⟩ := Kd.R_form HO_4.out (by omega); (first | cases eo13 | (injection eo13 with ea_ en_ ec_; (first | subst ea_ | (injection ea_ with ea_; subst ea_)); subst ec_; clear en_)); have GB13 := Aside0.mk gb13; have GG13 := Aside0.mk HG13; clear gb13 gl13 HG13; (first | simp only [add_plain] at hx189_0 | skip); (first | simp only [add_plain] at hx189_1 | skip); obtain ⟨ce13, hcl13, hM13, hcc13, hfr13⟩ := Kd.R_elem HO_4.out z33 (x12_1 : Int) p13 q13; obtain rfl := k33_openM hM13; have hx13_0 : w16.cell? ⟨go13, (x12_1 : Int).toNat * 2, none⟩ = some (.string ((rd_T33 x4_1 x12_1).f0)) := hcc13 0 _ rfl; have hx13_1 : w16.cell? ⟨go13, (x12_1 : Int).toNat * 2 + 1, none⟩ = some (.int .i64 ((rd_T33 x4_1 x12_1).f1)) := hcc13 1 _ rfl; have hf13_0 : w16.frozen? ⟨go13, (x12_1 : Int).toNat * 2, none⟩ = false := hfr13 0; have hf13_1 : w16.frozen? ⟨go13, (x12_1 : Int).toNat * 2 + 1, none⟩ = false := hfr13 1; clear hcl13 hcc13 hfr13 hM13; replace p13 := eq_true p13; replace q13 := eq_true q13; have n_ := Aside0.mk (Kd.R_mono (ok' := (fun k_ => k_ ≠ gb190)) HO_4.out (fun k_ hk => hk.2)); clear HO_4; have HO_4 := n_; clear n_; have HX17 := Aside0.mk (show Kd.R k33 33 w16 w.heap.size (fun k_ => k_ ≠ gb190) (.slice (some ⟨go13, 0, none⟩) x4_1.length co5) x4_1 from (by (with_reducible repeat (first | apply Kd.R_alloc | apply Kd.R_drewN | apply Kd.R_drew)); exact HO_4.out)); obtain ⟨ce17, hcl17, hM17, hcc17, hfr17⟩ := Kd.R_elem HX17.out z33 (x12_1 : Int) (of_decide_eq_true (by first | (with_reducible assumption) | assumption)) (by have h_ : (x12_1 : Int) < ((x4_1.length : Int) : Int) := of_decide_eq_true (by first | (with_reducible assumption) | assumption); first | exact h_ | (have e_ := (Kd.R_reads' HO_4.out).1; omega) | simpa using h_); obtain rfl := k33_openM hM17; have HP17 := Kd.R_seg HX17.out (x12_1 : Int) (of_decide_eq_true (by first | (with_reducible assumption) | assumption)) (by have h_ : (x12_1 : Int) < ((x4_1.length : Int) : Int) := of_decide_eq_true (by first | (with_reducible assumption) | assumption); first | exact h_ | (have e_ := (Kd.R_reads' HO_4.out).1; omega) | simpa using h_) (seg := [.string ((⟨#[88]⟩ : ByteArray) ++ t192)]) (j := 0) hcl17 hcc17 (show 1 ≤ 2 from by decide) (x' := (⟨(⟨#[88]⟩ : ByteArray) ++ t192, (rd_T33 x4_1 x12_1).f1⟩ : S33)) (k33_mkM _ _ _ (⟨(⟨#[88]⟩ : ByteArray) ++ t192, (rd_T33 x4_1 x12_1).f1⟩ : S33) ) (fun _ hk => hk); have hx17_0 := hcc17 0 _ rfl; (try simp only [show (k33).sz = 2 from rfl, Nat.mul_one, Nat.add_zero] at hx17_0); have hf17_0 := hfr17 0; (try simp only [show (k33).sz = 2 from rfl, Nat.mul_one, Nat.add_zero] at hf17_0); clear hcl17 hcc17 hfr17 hM17) | ((with_reducible refine gate_store (t := 9) (p := 29) rfl ?_); refine store_event (t := 9) (p := 29) (v := ?vo_w18) (w1 := (w16.setCell ⟨go13, (x12_1 : Int).toNat * 2, none⟩ (.string ((⟨#[88]⟩ : ByteArray) ++ t192)))) ?hg ?ho ?hn ?hr ?_; (case ho => rfl); (case hg => rfl); (case hn => rfl); (case hr => first | (go_simp; done) | (go_simp; rfl)); intro w18 hw; have hg : w16.grownBy w18 (some go13) := (by rw [hw]; exact HP17.2); have hp_ : Kd.R k33 33 w18 w.heap.size (fun k_ => k_ ≠ gb190) (.slice (some ⟨go13, 0, none⟩) x4_1.length co5) y193 := (by rw [hw, Ny193.out]; exact HP17.1); clear HP17; have n0_ := Aside0.mk (hp_); have n1_ := Aside0.mk (blk_grown (g := gb190) (o := .cells #[.string ((rd_T33 x4_1 x12_1).f0), .int .i64 ((rd_T33 x4_1 x12_1).f1)] 33 (0, 0)) (by (with_reducible repeat (first | refine blk_drewN ?_ _ | refine blk_drew ?_ | refine blk_alloc ?_ _)); exact BK190.out) hg (Kd.R_away HO_4.out (fun _ hk => hk))); have n2_ := Aside0.mk ((by rw [hw]; exact below_set (HB.out) GB13.out : Below w.heap.size w w18)); clear HO_4; clear BK190; clear HB; have HO_4 := n0_; have BK190 := n1_; have HB := n2_; clear n0_ n1_ n2_; clear hg hw hp_) | ((with_reducible refine gate_dst (N := 17) rfl ?_); refine Kd.event_run rfl (load_slice rfl rfl (capt HV.out (by repeat (first | (with_reducible first | exact HB.out | apply below_alloc | apply pw_below_drewN | apply below_drew1 | refine below_set ?_ GE190.out) | exact HB.out)))) ?_))
                (try simp only [← hl4_1])
                go_roundg k1
                case measure => have := HK1.out; omega
                case rel => exact ⟨(y193), (wrap64 (x12_1 + 1)), (by first | rfl | (simp; done) | (simp [*]; done)), H', ⟨by have := HK1.out; omega⟩, ⟨by (try simp only [hl4_1]); (with_reducible repeat (first | apply Kd.R_alloc | apply Kd.R_drewN | apply Kd.R_drew)); exact Kd.R_mono HO_4.out (fun _ hk => trivial)⟩, ⟨by repeat (first | (with_reducible first | exact HB.out | apply below_alloc | apply pw_below_drewN | apply below_drew1 | refine below_set ?_ GE190.out) | exact HB.out)⟩⟩
              · rw [if_neg c12] at H
                exact absurd H (by simp)
            · rw [if_neg c10] at H
              have c10b0 : decide (0 ≤ t191) = false := decide_eq_false c10
              clear c10
              have H' := Aside0.mk H
              clear H
              have p189 : 0 ≤ (x12_1 : Int) := of_decide_eq_true (by first | (with_reducible assumption) | assumption)
              have q189 : x12_1 < (x4_1.length : Int) := of_decide_eq_true (by first | (with_reducible assumption) | assumption)
              obtain ⟨ad189, e189, hx189_0, hx189_1⟩ := at_T33 (Kd.R_reads' HO_4.out).2.2 x12_1 p189 q189
              cases e189
              replace p189 := eq_true p189
              replace q189 := eq_true q189
              go_wp2_with (first | ((with_reducible refine gate_dst (N := 6) rfl ?_); refine box_event ?hg (N := 6) ?hd (cs := #[.string (⟨#[]⟩ : ByteArray), .int .i64 0]) (t := 33) ?hr ?_; (case hd => rfl); (case hg => rfl); (case hr => first | (go_simp; done) | (go_simp; rfl)); intro gb190 hg w19 hbox hb; have n0_ := Aside0.mk (Kd.R_below (Kd.R_elderB (by (with_reducible repeat (first | apply Kd.R_alloc | apply Kd.R_drewN | apply Kd.R_drew)); exact HO_4.out) gb190 (Nat.le_of_eq hg.symm)) hb); have n1_ := Aside0.mk (below_step (by repeat (first | (with_reducible first | exact HB.out | apply below_alloc | apply pw_below_drewN | apply below_drew1) | exact HB.out)) hb); have n2_ := Aside0.mk (hbox); have n3_ := Aside0.mk ((by rw [hg]; exact (below_size (by repeat (first | (with_reducible first | exact HB.out | apply below_alloc | apply pw_below_drewN | apply below_drew1) | exact HB.out))) : w.heap.size ≤ gb190)); have n4_ := Aside0.mk ((by rw [hg]; exact (below_size (by repeat (first | (with_reducible first | exact HB.out | apply below_alloc | apply pw_below_drewN | apply below_drew1) | exact HB.out))) : w.heap.size ≤ gb190)); clear HO_4; clear HB; have HO_4 := n0_; have HB := n1_; have BK190 := n2_; have GW190 := n3_; have GE190 := n4_; clear n0_ n1_ n2_ n3_ n4_; clear hb hbox hg; have hcz20_0 : w19.cell? ⟨gb190, 0, none⟩ = some (.string (⟨#[]⟩ : ByteArray)) := (blk_cell BK190.out 0).trans rfl; have hcz20_1 : w19.cell? ⟨gb190, 1, none⟩ = some (.int .i64 0) := (blk_cell BK190.out 1).trans rfl; have hfz20_0 := blk_frozen BK190.out 0; have hfz20_1 := blk_frozen BK190.out 1) | ((with_reducible refine gate_callee (f := 47) rfl ?_); refine goesL_ (some 20) rfl rfl Tryd.func47 (by kernel_rfl) rfl #[.slice A1 l1.length c1, .string ((rd_T33 x4_1 x12_1).f0)] rfl (by (try simp only [List.map_toArray, List.map_cons, List.map_nil]); first | done | rfl | (simp only [List.length_drop, List.length_take]; rfl)) ?_; (with_reducible refine (slices_Index_string_string.calls k1 _ _ l1 ((rd_T33 x4_1 x12_1).f0) t191 _ ?side1 ?side2 A9.out).mono ?_); (case side1 => exact Kd.C_below HR1.out (by repeat (first | (with_reducible first | exact HB.out | apply below_alloc | apply pw_below_drewN | apply below_drew1 | refine below_set ?_ GE190.out) | exact HB.out))); (case side2 => exact HC1.out); rintro e w' ⟨rfl, ⟨nd, rfl⟩⟩; refine ⟨_, rfl, ?_⟩) | ((with_reducible refine gate_dst (N := 17) rfl ?_); refine Kd.event_run rfl (load_slice rfl rfl (capt HV.out (by repeat (first | (with_reducible first | exact HB.out | apply below_alloc | apply pw_below_drewN | apply below_drew1 | refine below_set ?_ GE190.out) | exact HB.out)))) ?_))
              (try simp only [← hl4_1])
              go_roundg k1
              case measure => have := HK1.out; omega
              case rel => exact ⟨(x4_1), (wrap64 (x12_1 + 1)), (by first | rfl | (simp; done) | (simp [*]; done)), H', ⟨by have := HK1.out; omega⟩, ⟨by (try simp only [hl4_1]); (with_reducible repeat (first | apply Kd.R_alloc | apply Kd.R_drewN | apply Kd.R_drew)); exact Kd.R_mono (Kd.R_far (p := ⟨gb190, 1, none⟩) (Kd.R_far (p := ⟨gb190, 0, none⟩) (Kd.R_mono HO_4.out (fun k_ hk => (⟨hk, hk.2⟩ : _ ∧ k_ ≠ gb190))) (fun _ hk => hk.2) (.string ((rd_T33 x4_1 x12_1).f0))) (fun _ hk => hk.2) (.int .i64 ((rd_T33 x4_1 x12_1).f1))) (fun _ hk => trivial)⟩, ⟨by repeat (first | (with_reducible first | exact HB.out | apply below_alloc | apply pw_below_drewN | apply below_drew1 | refine below_set ?_ GE190.out) | exact HB.out)⟩⟩
          · rw [if_neg c8] at H
            exact absurd H (by simp)
        · rw [if_neg c7] at H
          exact absurd H (by simp)
      · rw [if_neg c6] at H
        have c6b0 : decide (x12_1 < (t186.length : Int)) = false := decide_eq_false c6
        have c6b1 : decide (x12_1 < (x4_1.length : Int)) = false := (by rw [← hl4_1]; exact c6b0)
        clear c6
        obtain rfl := Option.some.inj H
        go_wp2
        go_ret
        exact ⟨_, by first | rfl | (simp [errW_none, errW_some] <;> rfl) | (simp [*, errW_none, errW_some] <;> rfl), by (with_reducible repeat (first | apply Kd.R_alloc | apply Kd.R_drewN | apply Kd.R_drew)); exact HO_4.out, by repeat (first | (with_reducible first | exact HB.out | apply below_alloc | apply pw_below_drewN | apply below_drew1) | exact HB.out)⟩

end Go.Proofs.YtnkpcnnbeaomnaaDoor.C
end
