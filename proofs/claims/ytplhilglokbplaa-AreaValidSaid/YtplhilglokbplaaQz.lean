/- Short forms of the region laws, for the squeezed texts. -/
import Derived.Test.YtplhilglokbplaaQt
namespace Go.Proofs.Ytplhilglokbplaa.PAll
open Go.RowKit Go.Proofs.YtplhilglokbplaaW.PrintWords Go.Proofs.YtplhilglokbplaaW.PrintLast Go.Proofs.YtplhilglokbplaaW.PrintMore
def blL : Bool → List Nat → List Bool
  | _, [] => []
  | b, n :: r => List.replicate n b ++ blL (!b) r
/-- A row of truth values by its runs, the first one of 'true'. -/
def bl (l : List Nat) : Array Bool := (blL true l).toArray
theorem q1 {α : Type} {l : List α} {i : Nat} {a : α} : l.toArray.setIfInBounds i a = (l.set i a).toArray := List.setIfInBounds_toArray ..
theorem q2 {α : Type} {x : α} {l : List α} {a : α} : (x :: l).set 0 a = a :: l := List.set_cons_zero
theorem q3 {α : Type} {x : α} {l : List α} {i : Nat} {a : α} : (x :: l).set (i + 1) a = x :: l.set i a := List.set_cons_succ
theorem bytesLess_le : ∀ x y : List UInt8, (Op.bytesLess x y || x == y) = !(Op.bytesLess y x)
  | [], [] => rfl
  | [], b :: y => rfl
  | a :: x, [] => rfl
  | a :: x, b :: y => by
    have ih := bytesLess_le x y
    simp only [Op.bytesLess, List.cons_beq_cons]
    by_cases h1 : a < b
    · have h2 : ¬ b < a := fun h => by rw [UInt8.lt_iff_toNat_lt] at h h1; omega
      have h3 : (b == a) = false := by rw [beq_eq_false_iff_ne]; intro e; subst e; exact h2 h1
      simp [h1, h2, h3]
    · by_cases h2 : b < a
      · have h3 : (a == b) = false := by rw [beq_eq_false_iff_ne]; intro e; subst e; exact h1 h2
        simp [h1, h2, h3]
      · have h3 : a = b := by
          rw [UInt8.lt_iff_toNat_lt] at h1 h2
          exact UInt8.toNat.inj (by omega)
        subst h3
        simp [h1, ih]
section
variable {P : Program} {ops : Array Oper} {Q : Exit → Act → World → Prop} {md : Region.Mode} {S : World → Prop} {ds : List Nat} {T : Bool × List (List Nat × List Nat)} {B : List Nat}
theorem pA {oi : Oper} {fuel : Nat} {l : Array Bool} {a : Act} {w : World} (i : Nat) (N : Option Tmp) (l' : Array Bool) (hT : Aside0 (rtab md ops = T)) (hi : ops[i]? = some oi := by rfl) (hN : oi.dst = N := by rfl) (hc : anyT T l.toList l'.toList i = true := by kernel_rfl)
    (hQ : ∀ v c a w, Q (.panic c) (a.put oi.dst v) w → Q (.panic c) a w := by exact fun _ _ _ _ h => h) (hw : Region.wanted oi (yielded ops a.tmps) = true := by rfl)
    (h : ∃ v, (∀ w, (execOp a.eval oi).run P w = .ok (.value v) w) ∧ ∃ a', a.put N v = a' ∧ wpAnyLast P md ops Q S ds fuel l' a' w) : wpAnyLast P md ops Q S ds (fuel + 1) l a w := by
  obtain ⟨v, hv, a', ha, hk⟩ := h
  exact pure_ l' hi hN (any_of hT.out hc) (hQ v) (.inl ⟨hw, hv⟩) ha hk
theorem pO {oi : Oper} {fuel : Nat} {l : Array Bool} {a : Act} {w : World} (i : Nat) (N : Option Tmp) (l' : Array Bool) (hT : Aside0 (rtab md ops = T)) (hi : ops[i]? = some oi := by rfl) (hN : oi.dst = N := by rfl) (hc : anyT T l.toList l'.toList i = true := by kernel_rfl)
    (hQ : ∀ v c a w, Q (.panic c) (a.put oi.dst v) w → Q (.panic c) a w := by exact fun _ _ _ _ h => h) (hw : Region.wanted oi (yielded ops a.tmps) = false := by rfl)
    (h : ∃ a', a.put N undef = a' ∧ wpAnyLast P md ops Q S ds fuel l' a' w) : wpAnyLast P md ops Q S ds (fuel + 1) l a w := by
  obtain ⟨a', ha, hk⟩ := h
  exact pure_ l' hi hN (any_of hT.out hc) (hQ undef) (.inr ⟨hw, rfl⟩) ha hk
theorem pT {oi : Oper} {fuel : Nat} {l : Array Bool} {a : Act} {w : World} (i : Nat) (N : Option Tmp) (l' : Array Bool) (hT : Aside0 (rtab md ops = T)) (hB : Aside0 (waitsOk T.2 B = true)) (hi : ops[i]? = some oi := by rfl) (hN : oi.dst = N := by rfl) (hc : takeW T B ds l.toList l'.toList i = true := by kernel_rfl)
    (hQ : ∀ v c a w, Q (.panic c) (a.put oi.dst v) w → Q (.panic c) a w := by exact fun _ _ _ _ h => h) (hw : Region.wanted oi (yielded ops a.tmps) = true := by rfl) (hS : S w)
    (h : ∃ v, (∀ w, S w → (execOp a.eval oi).run P w = .ok (.value v) w) ∧ ∃ a', a.put N v = a' ∧ wpAnyLast P md ops Q S ds fuel l' a' w) : wpAnyLast P md ops Q S ds (fuel + 1) l a w := by
  obtain ⟨v, hv, a', ha, hk⟩ := h
  exact take_ l' hi hN (take_ofW hT.out hB.out hc) (hQ v) (.inl ⟨hw, hv⟩) hS ha hk
theorem qA {oi : Oper} {fuel : Nat} {l : Array Bool} {a : Act} {w : World} {v : Value} {a' : Act} (i : Nat) (N : Option Tmp) (l' : Array Bool) (hT : Aside0 (rtab md ops = T)) (h : wpAnyLast P md ops Q S ds fuel l' a' w) (hi : ops[i]? = some oi := by rfl) (hN : oi.dst = N := by rfl) (hc : anyT T l.toList l'.toList i = true := by kernel_rfl)
    (hQ : ∀ v c a w, Q (.panic c) (a.put oi.dst v) w → Q (.panic c) a w := by exact fun _ _ _ _ h => h) (hw : Region.wanted oi (yielded ops a.tmps) = true := by rfl)
    (hv : ∀ w, (execOp a.eval oi).run P w = .ok (.value v) w := by intro w'; go_simp; with_reducible rfl) (ha : a.put N v = a' := by simp only [Act.put, q1, q2, q3, i64_w, i32_w]; rfl) : wpAnyLast P md ops Q S ds (fuel + 1) l a w :=
  pA i N l' hT hi hN hc hQ hw ⟨v, hv, a', ha, h⟩
theorem qO {oi : Oper} {fuel : Nat} {l : Array Bool} {a : Act} {w : World} {a' : Act} (i : Nat) (N : Option Tmp) (l' : Array Bool) (hT : Aside0 (rtab md ops = T)) (h : wpAnyLast P md ops Q S ds fuel l' a' w) (hi : ops[i]? = some oi := by rfl) (hN : oi.dst = N := by rfl) (hc : anyT T l.toList l'.toList i = true := by kernel_rfl)
    (hQ : ∀ v c a w, Q (.panic c) (a.put oi.dst v) w → Q (.panic c) a w := by exact fun _ _ _ _ h => h) (hw : Region.wanted oi (yielded ops a.tmps) = false := by rfl)
    (ha : a.put N undef = a' := by simp only [Act.put, q1, q2, q3, i64_w, i32_w]; rfl) : wpAnyLast P md ops Q S ds (fuel + 1) l a w :=
  pO i N l' hT hi hN hc hQ hw ⟨a', ha, h⟩
theorem qT {oi : Oper} {fuel : Nat} {l : Array Bool} {a : Act} {w : World} {v : Value} {a' : Act} (i : Nat) (N : Option Tmp) (l' : Array Bool) (hT : Aside0 (rtab md ops = T)) (hB : Aside0 (waitsOk T.2 B = true)) (hS : S w) (h : wpAnyLast P md ops Q S ds fuel l' a' w) (hi : ops[i]? = some oi := by rfl) (hN : oi.dst = N := by rfl) (hc : takeW T B ds l.toList l'.toList i = true := by kernel_rfl)
    (hQ : ∀ v c a w, Q (.panic c) (a.put oi.dst v) w → Q (.panic c) a w := by exact fun _ _ _ _ h => h) (hw : Region.wanted oi (yielded ops a.tmps) = true := by rfl)
    (hv : ∀ w, S w → (execOp a.eval oi).run P w = .ok (.value v) w := by intro w' hs'; go_split_ands; go_simp; with_reducible rfl) (ha : a.put N v = a' := by simp only [Act.put, q1, q2, q3, i64_w, i32_w]; rfl) : wpAnyLast P md ops Q S ds (fuel + 1) l a w :=
  pT i N l' hT hB hi hN hc hQ hw hS ⟨v, hv, a', ha, h⟩
end
end Go.Proofs.Ytplhilglokbplaa.PAll
