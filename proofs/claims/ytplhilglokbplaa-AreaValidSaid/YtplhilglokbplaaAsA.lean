/- The reference's areas, templates and chords answer as package area does. -/
import Derived.Test.YtplhilglokbplaaArG
import Derived.Test.YtplhilglokbplaaRw
namespace Go.Proofs.Ytplhilglokbplaa
open Go.Shelf Go.RowKit Go.Proofs.YtplhilglokbplaaW.PrintWords Go.Proofs.YtplhilglokbplaaW.PrintLast Go.Proofs.YtplhilglokbplaaW.PrintMore PAll
set_option linter.unusedVariables false
set_option linter.unusedSimpArgs false

/-- ok holds at i, i + 1, .., i + d - 1. -/
def AF (ok : Nat → Bool) : Nat → Nat → Bool
  | _, 0 => true
  | i, d + 1 => ok i && AF ok (i + 1) d
theorem AF_iff (ok : Nat → Bool) : ∀ (d i : Nat), AF ok i d = true ↔ ∀ j, i ≤ j → j < i + d → ok j = true
  | 0, i => by simp [AF]; omega
  | d + 1, i => by
    simp only [AF, Bool.and_eq_true, AF_iff ok d]
    constructor
    · rintro ⟨h0, h1⟩ j hj hd
      by_cases e : j = i
      · subst e; exact h0
      · exact h1 j (by omega) (by omega)
    · intro h
      exact ⟨h i (by omega) (by omega), fun j hj hd => h j (by omega) (by omega)⟩
theorem letter_f (c : Int) : syllabaryref21_Letter.f c = some (letB c) := by
  unfold syllabaryref21_Letter.f letB
  by_cases h : 97 ≤ c
  · rw [if_pos h, decide_eq_true h]; rfl
  · rw [if_neg h, decide_eq_false h]; rfl
theorem inside_f (x y : Int) : syllabaryref21_Inside.f x y = some (coordB [x, y]) := by
  unfold syllabaryref21_Inside.f coordB
  simp only [List.all_cons, List.all_nil, Bool.and_true]
  by_cases h : 0 ≤ x
  · rw [if_pos h, decide_eq_true h]
    by_cases h2 : x ≤ 1000
    · rw [if_pos h2, decide_eq_true h2]
      by_cases h3 : 0 ≤ y
      · rw [if_pos h3, decide_eq_true h3]; rfl
      · rw [if_neg h3, decide_eq_false h3]; rfl
    · rw [if_neg h2, decide_eq_false h2]; rfl
  · rw [if_neg h, decide_eq_false h]; rfl

/-! areas -/
def noMeet (l : List S36) (a : S36) (j : Nat) : Bool := !(meetB a (l.getD j z36))
def ascA (l : List S36) (i : Nat) : Bool := decide (i = 0) || decide ((l.getD (i - 1) z36).f0 < (l.getD i z36).f0)
def okA (l : List S36) (i : Nat) : Bool :=
  letB (l.getD i z36).f0 && ascA l i && coordB [(l.getD i z36).f1, (l.getD i z36).f2] && coordB [(l.getD i z36).f3, (l.getD i z36).f4] && decide ((l.getD i z36).f1 ≤ (l.getD i z36).f3) && decide ((l.getD i z36).f2 ≤ (l.getD i z36).f4) && AF (noMeet l (l.getD i z36)) 0 i
theorem areas_in (l : List S36) (hl : l.length ≤ 9223372036854775807) (i : Int) (hi0 : 0 ≤ i) (hi : i < l.length) (a : S36) (F : Nat) (r : Bool) (H : ∀ k, F < k → syllabaryref21_areas.l0 k l (i + 1) = some r) :
    ∀ (e k : Nat) (j : Int), 0 ≤ j → i - j = e → F + e + 1 < k → syllabaryref21_areas.l1 k l i j a.f0 a.f1 a.f2 a.f3 a.f4 = some (AF (noMeet l a) j.toNat e && r) := by
  intro e
  induction e with
  | zero =>
    intro k j h0 he hk
    obtain ⟨k, rfl⟩ : ∃ m, k = m + 1 := ⟨k - 1, by omega⟩
    simp only [syllabaryref21_areas.l1]
    rw [if_neg (by omega), wrap64_in' _ (by omega) (by omega), H k (by omega)]
    simp [AF]
  | succ e ih =>
    intro k j h0 he hk
    obtain ⟨k, rfl⟩ : ∃ m, k = m + 1 := ⟨k - 1, by omega⟩
    have ih' := ih k (j + 1) (by omega) (by omega) (by omega)
    rw [show (j + 1).toNat = j.toNat + 1 by omega] at ih'
    simp only [syllabaryref21_areas.l1]
    rw [if_pos (by omega), if_pos h0, if_pos (by omega), wrap64_in' _ (by omega) (by omega), ih']
    simp only [AF, noMeet, meetB]
    rw [show l.getD j.toNat z36 = rd_T36 l j from rfl]
    generalize rd_T36 l j = b
    by_cases c1 : a.f1 ≤ b.f3
    · rw [if_pos c1, decide_eq_true c1]
      by_cases c2 : b.f1 ≤ a.f3
      · rw [if_pos c2, decide_eq_true c2]
        by_cases c3 : a.f2 ≤ b.f4
        · rw [if_pos c3, decide_eq_true c3]
          by_cases c4 : b.f2 ≤ a.f4
          · rw [if_pos c4, decide_eq_true c4]; rfl
          · rw [if_neg c4, decide_eq_false c4]; simp
        · rw [if_neg c3, decide_eq_false c3]; simp
      · rw [if_neg c2, decide_eq_false c2]; simp
    · rw [if_neg c1, decide_eq_false c1]; simp
theorem areas_f (l : List S36) (hl : l.length ≤ 9223372036854775807) : ∀ (d k : Nat) (i : Int), 0 ≤ i → (l.length : Int) - i = d → (l.length + 4) * d < k →
    syllabaryref21_areas.l0 k l i = some (AF (okA l) i.toNat d && decide (l.length ≤ 26)) := by
  intro d
  induction d with
  | zero =>
    intro k i h0 hd hk
    obtain ⟨k, rfl⟩ : ∃ m, k = m + 1 := ⟨k - 1, by omega⟩
    simp only [syllabaryref21_areas.l0]
    rw [if_neg (by omega)]
    simp only [AF, Bool.true_and, Option.some.injEq]
    exact decide_eq_decide.2 (by omega)
  | succ d ih =>
    intro k i h0 hd hk
    rw [Nat.mul_succ] at hk
    obtain ⟨k, rfl⟩ : ∃ m, k = m + 2 := ⟨k - 2, by omega⟩
    have hin := areas_in l hl i h0 (by omega) (rd_T36 l i) ((l.length + 4) * d) _ (fun k hk => ih k (i + 1) (by omega) (by omega) hk) i.toNat k 0 (by omega) (by omega) (by omega)
    rw [show (i + 1).toNat = i.toNat + 1 by omega] at hin
    have hj : ∀ b, syllabaryref21_areas.j1 (k + 1) l i b (rd_T36 l i).f0 (rd_T36 l i).f1 (rd_T36 l i).f2 (rd_T36 l i).f3 (rd_T36 l i).f4 = some (!b && (AF (noMeet l (rd_T36 l i)) 0 i.toNat && (AF (okA l) (i.toNat + 1) d && decide (l.length ≤ 26)))) := by
      intro b
      simp only [syllabaryref21_areas.j1]
      cases b
      · rw [if_neg (by decide), hin]; rfl
      · rw [if_pos rfl]; rfl
    simp only [syllabaryref21_areas.l0]
    rw [if_pos (by omega), if_pos h0]
    simp only [AF, okA, ascA, letter_f, inside_f, Option.bind_some]
    rw [show l.getD i.toNat z36 = rd_T36 l i from rfl]
    by_cases ci : i > 0
    · have hw : wrap64 (i - 1) = i - 1 := wrap64_in' _ (by omega) (by omega)
      rw [if_pos ci, hw, if_pos (show 0 ≤ i - 1 by omega), if_pos (show i - 1 < (l.length : Int) by omega)]
      rw [show l.getD (i.toNat - 1) z36 = rd_T36 l (i - 1) by unfold rd_T36; rw [show (i - 1).toNat = i.toNat - 1 by omega]]
      rw [decide_eq_false (show ¬ i.toNat = 0 by omega)]
      generalize rd_T36 l (i - 1) = p at hj ⊢
      simp only [hj]
      generalize rd_T36 l i = a
      generalize AF (noMeet l a) 0 i.toNat = m
      generalize AF (okA l) (i.toNat + 1) d = R
      generalize decide (l.length ≤ 26) = N
      generalize coordB [a.f1, a.f2] = q1
      generalize coordB [a.f3, a.f4] = q2
      generalize letB a.f0 = q0
      have e1 : decide (p.f0 < a.f0) = !(decide (a.f0 ≤ p.f0)) := by rw [← decide_not]; exact decide_eq_decide.2 (by omega)
      have e2 : decide (a.f1 ≤ a.f3) = !(decide (a.f1 > a.f3)) := by rw [← decide_not]; exact decide_eq_decide.2 (by omega)
      have e3 : decide (a.f2 ≤ a.f4) = !(decide (a.f2 > a.f4)) := by rw [← decide_not]; exact decide_eq_decide.2 (by omega)
      rw [e1, e2, e3]
      by_cases c1 : a.f0 ≤ p.f0
      · rw [if_pos c1, decide_eq_true c1]; cases q0 <;> simp
      · rw [if_neg c1, decide_eq_false c1]
        by_cases c2 : a.f1 > a.f3
        · rw [if_pos c2, decide_eq_true c2]; cases q0 <;> cases q1 <;> cases q2 <;> simp
        · rw [if_neg c2, decide_eq_false c2]; cases q0 <;> cases q1 <;> cases q2 <;> simp [Bool.and_assoc]
    · rw [if_neg ci]
      rw [decide_eq_true (show i.toNat = 0 by omega)]
      simp only [hj]
      generalize rd_T36 l i = a
      generalize AF (noMeet l a) 0 i.toNat = m
      generalize AF (okA l) (i.toNat + 1) d = R
      generalize decide (l.length ≤ 26) = N
      generalize coordB [a.f1, a.f2] = q1
      generalize coordB [a.f3, a.f4] = q2
      generalize letB a.f0 = q0
      have e2 : decide (a.f1 ≤ a.f3) = !(decide (a.f1 > a.f3)) := by rw [← decide_not]; exact decide_eq_decide.2 (by omega)
      have e3 : decide (a.f2 ≤ a.f4) = !(decide (a.f2 > a.f4)) := by rw [← decide_not]; exact decide_eq_decide.2 (by omega)
      rw [e2, e3]
      by_cases c2 : a.f1 > a.f3
      · rw [if_pos c2, decide_eq_true c2]; cases q0 <;> cases q1 <;> cases q2 <;> simp
      · rw [if_neg c2, decide_eq_false c2]; cases q0 <;> cases q1 <;> cases q2 <;> simp [Bool.and_assoc]

theorem all_getD {α : Type} (p : α → Bool) (d : α) (l : List α) : l.all p = true ↔ ∀ j, j < l.length → p (l.getD j d) = true := by
  rw [List.all_eq_true]
  constructor
  · intro h j hj
    rw [List.getD_eq_getElem?_getD, List.getElem?_eq_getElem hj]
    exact h _ (List.getElem_mem hj)
  · intro h x hx
    obtain ⟨j, hj, rfl⟩ := List.getElem_of_mem hx
    have := h j hj
    rw [List.getD_eq_getElem?_getD, List.getElem?_eq_getElem hj] at this
    exact this
theorem coordB_two (a b c d : Int) : coordB [a, b, c, d] = (coordB [a, b] && coordB [c, d]) := by
  simp [coordB, Bool.and_assoc]
theorem cmpI_lt (x y : Int) : cmpI x y < 0 ↔ x < y := by
  unfold cmpI
  by_cases h : x < y
  · rw [if_pos h]; simp [h]
  · rw [if_neg h]
    by_cases h2 : y < x
    · rw [if_pos h2]; simp [h]
    · rw [if_neg h2]; simp [h]
theorem take_any_getD (l : List S36) (a : S36) (i : Nat) (hi : i ≤ l.length) : (!((l.take i).any (meetB a))) = AF (noMeet l a) 0 i := by
  rw [Bool.eq_iff_iff, AF_iff]
  simp only [noMeet, Bool.not_eq_true', List.any_eq_false]
  constructor
  · intro h j _ hj
    have hlt : j < l.length := by omega
    rw [List.getD_eq_getElem?_getD, List.getElem?_eq_getElem hlt]
    have := h l[j] (by rw [List.mem_take_iff_getElem]; exact ⟨j, by omega, rfl⟩)
    simpa using this
  · intro h x hx
    obtain ⟨j, hj, rfl⟩ := List.mem_take_iff_getElem.1 hx
    have := h j (by omega) (by omega)
    rw [List.getD_eq_getElem?_getD, List.getElem?_eq_getElem (show j < l.length by omega)] at this
    simpa using this
theorem okA_all (l : List S36) : (AF (okA l) 0 l.length && decide (l.length ≤ 26)) = areasB l := by
  rw [Bool.eq_iff_iff]
  unfold areasB apartB
  simp only [Bool.and_eq_true, AF_iff, incB_iff (fun a b : S36 => cmpI a.f0 b.f0) z36, all_getD _ z36, cmpI_lt]
  simp only [areaPs, List.all_cons, List.all_nil, Bool.and_true, pts, coordB_two, List.all_eq_true, List.mem_range, okA, ascA, Bool.and_eq_true, Bool.or_eq_true, decide_eq_true_eq]
  constructor
  · rintro ⟨h, hn⟩
    refine ⟨⟨⟨hn, fun j hj => ?_⟩, fun j h1 hj => ?_⟩, fun i hi => ?_⟩
    · obtain ⟨⟨⟨⟨⟨⟨h1, h2⟩, h3⟩, h4⟩, h5⟩, h6⟩, h7⟩ := h j (by omega) (by omega)
      exact ⟨h1, ⟨h3, h4⟩, h5, h6⟩
    · obtain ⟨⟨⟨⟨⟨⟨_, h2⟩, h3⟩, h4⟩, h5⟩, h6⟩, h7⟩ := h j (by omega) (by omega)
      rcases h2 with h2 | h2
      · omega
      · exact h2
    · obtain ⟨⟨⟨⟨⟨⟨_, h2⟩, h3⟩, h4⟩, h5⟩, h6⟩, h7⟩ := h i (by omega) (by omega)
      rw [take_any_getD l _ i (by omega)]
      exact h7
  · rintro ⟨⟨⟨hn, h1⟩, h2⟩, h3⟩
    refine ⟨fun j _ hj => ?_, hn⟩
    obtain ⟨p1, ⟨p2, p3⟩, p4, p5⟩ := h1 j (by omega)
    refine ⟨⟨⟨⟨⟨⟨p1, ?_⟩, p2⟩, p3⟩, p4⟩, p5⟩, ?_⟩
    · by_cases e : j = 0
      · exact Or.inl e
      · exact Or.inr (h2 j (by omega) (by omega))
    · rw [← take_any_getD l _ j (by omega)]
      exact h3 j (by omega)
theorem areas_law (l : List S36) (hl : l.length ≤ 9223372036854775807) (k : Nat) (hk : (l.length + 4) * l.length < k) : syllabaryref21_areas.f k l = some (areasB l) := by
  have := areas_f l hl l.length k 0 (by omega) (by omega) hk
  unfold syllabaryref21_areas.f
  rw [this, ← okA_all]
  rfl
end Go.Proofs.Ytplhilglokbplaa
