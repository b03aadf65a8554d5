/- The reference's templates, chords and Valid answer as package area does. -/
import Derived.Test.YtplhilglokbplaaAsA
namespace Go.Proofs.Ytplhilglokbplaa
open Go.Shelf Go.RowKit Go.Proofs.YtplhilglokbplaaW.PrintWords Go.Proofs.YtplhilglokbplaaW.PrintLast Go.Proofs.YtplhilglokbplaaW.PrintMore PAll
set_option linter.unusedVariables false
set_option linter.unusedSimpArgs false

/-! templates -/
def okP (P : List S89) (j : Nat) : Bool := coordB [(P.getD j z89).f0, (P.getD j z89).f1]
def ascT (l : List S33) (i : Nat) : Bool := decide (i = 0) || decide ((l.getD (i - 1) z33).f0 < (l.getD i z33).f0)
def okT (l : List S33) (i : Nat) : Bool :=
  letB (l.getD i z33).f0 && ascT l i && decide (2 ≤ (l.getD i z33).f1.length) && decide ((l.getD i z33).f1.length ≤ 12) && AF (okP (l.getD i z33).f1) 0 (l.getD i z33).f1.length
theorem templates_in (l : List S33) (hl : l.length ≤ 9223372036854775807) (i : Int) (hi0 : 0 ≤ i) (hi : i < l.length) (P : List S89) (hP : (rd_T33 l i).f1 = P) (hPl : P.length ≤ 9223372036854775807) (F : Nat) (r : Bool) (H : ∀ k, F < k → syllabaryref21_templates.l0 k l (i + 1) = some r) :
    ∀ (e k : Nat) (j : Int), 0 ≤ j → (P.length : Int) - j = e → F + e + 1 < k → syllabaryref21_templates.l1 k l i j = some (AF (okP P) j.toNat e && r) := by
  intro e
  induction e with
  | zero =>
    intro k j h0 he hk
    obtain ⟨k, rfl⟩ : ∃ m, k = m + 1 := ⟨k - 1, by omega⟩
    simp only [syllabaryref21_templates.l1, hP]
    rw [if_pos hi0, if_pos hi, if_neg (by omega), wrap64_in' _ (by omega) (by omega), H k (by omega)]
    simp [AF]
  | succ e ih =>
    intro k j h0 he hk
    obtain ⟨k, rfl⟩ : ∃ m, k = m + 1 := ⟨k - 1, by omega⟩
    have ih' := ih k (j + 1) (by omega) (by omega) (by omega)
    rw [show (j + 1).toNat = j.toNat + 1 by omega] at ih'
    simp only [syllabaryref21_templates.l1, hP]
    rw [if_pos hi0, if_pos hi, if_pos (by omega), if_pos h0, wrap64_in' _ (by omega) (by omega), ih', inside_f, Option.bind_some]
    simp only [AF, okP]
    rw [show P.getD j.toNat z89 = rd_T89 P j from rfl]
    generalize coordB [(rd_T89 P j).f0, (rd_T89 P j).f1] = b
    cases b <;> simp
theorem templates_f (l : List S33) (hl : l.length ≤ 9223372036854775807) : ∀ (d k : Nat) (i : Int), 0 ≤ i → (l.length : Int) - i = d → 16 * d < k →
    syllabaryref21_templates.l0 k l i = some (AF (okT l) i.toNat d && decide (l.length ≤ 26)) := by
  intro d
  induction d with
  | zero =>
    intro k i h0 hd hk
    obtain ⟨k, rfl⟩ : ∃ m, k = m + 1 := ⟨k - 1, by omega⟩
    simp only [syllabaryref21_templates.l0]
    rw [if_neg (by omega)]
    simp only [AF, Bool.true_and, Option.some.injEq]
    exact decide_eq_decide.2 (by omega)
  | succ d ih =>
    intro k i h0 hd hk
    obtain ⟨k, rfl⟩ : ∃ m, k = m + 2 := ⟨k - 2, by omega⟩
    have hj : ∀ b, (b = false → (rd_T33 l i).f1.length ≤ 12) → syllabaryref21_templates.j1 (k + 1) l i b = some (!b && (AF (okP (rd_T33 l i).f1) 0 (rd_T33 l i).f1.length && (AF (okT l) (i.toNat + 1) d && decide (l.length ≤ 26)))) := by
      intro b hb
      simp only [syllabaryref21_templates.j1]
      cases b
      · have hb' := hb rfl
        have hin := templates_in l hl i h0 (by omega) _ rfl (by omega) (16 * d) _ (fun k hk => ih k (i + 1) (by omega) (by omega) hk) (rd_T33 l i).f1.length k 0 (by omega) (by omega) (by omega)
        rw [show (i + 1).toNat = i.toNat + 1 by omega] at hin
        rw [if_neg (by decide), hin]; rfl
      · rw [if_pos rfl]; rfl
    simp only [syllabaryref21_templates.l0]
    rw [if_pos (by omega), if_pos h0]
    simp only [AF, okT, ascT, letter_f, inside_f, Option.bind_some]
    rw [show l.getD i.toNat z33 = rd_T33 l i from rfl]
    have hr : ∀ m, AF (okP (rd_T33 l i).f1) 0 (rd_T33 l i).f1.length = m → True := fun _ _ => trivial
    by_cases ci : i > 0
    · have hw : wrap64 (i - 1) = i - 1 := wrap64_in' _ (by omega) (by omega)
      rw [if_pos ci, hw, if_pos (show 0 ≤ i - 1 by omega), if_pos (show i - 1 < (l.length : Int) by omega)]
      rw [show l.getD (i.toNat - 1) z33 = rd_T33 l (i - 1) by unfold rd_T33; rw [show (i - 1).toNat = i.toNat - 1 by omega]]
      rw [decide_eq_false (show ¬ i.toNat = 0 by omega)]
      generalize rd_T33 l (i - 1) = p at hj ⊢
      rw [hj true (by simp)]
      generalize rd_T33 l i = a at hj ⊢
      generalize letB a.f0 = q0
      have e1 : decide (p.f0 < a.f0) = !(decide (a.f0 ≤ p.f0)) := by rw [← decide_not]; exact decide_eq_decide.2 (by omega)
      rw [e1]
      by_cases c1 : a.f0 ≤ p.f0
      · rw [if_pos c1, decide_eq_true c1]; cases q0 <;> simp
      · rw [if_neg c1, decide_eq_false c1]
        by_cases c2 : (a.f1.length : Int) < 2
        · rw [if_pos c2, decide_eq_false (p := 2 ≤ a.f1.length) (by omega)]; cases q0 <;> simp
        · rw [if_neg c2, decide_eq_true (p := 2 ≤ a.f1.length) (by omega), hj _ (by simp; omega)]
          by_cases c3 : a.f1.length ≤ 12
          · rw [decide_eq_true c3, decide_eq_false (by omega)]; cases q0 <;> simp [Bool.and_assoc]
          · rw [decide_eq_false c3, decide_eq_true (by omega)]; cases q0 <;> simp
    · rw [if_neg ci]
      rw [decide_eq_true (show i.toNat = 0 by omega)]
      rw [hj true (by simp)]
      generalize rd_T33 l i = a at hj ⊢
      generalize letB a.f0 = q0
      by_cases c2 : (a.f1.length : Int) < 2
      · rw [if_pos c2, decide_eq_false (p := 2 ≤ a.f1.length) (by omega)]; cases q0 <;> simp
      · rw [if_neg c2, decide_eq_true (p := 2 ≤ a.f1.length) (by omega), hj _ (by simp; omega)]
        by_cases c3 : a.f1.length ≤ 12
        · rw [decide_eq_true c3, decide_eq_false (by omega)]; cases q0 <;> simp [Bool.and_assoc]
        · rw [decide_eq_false c3, decide_eq_true (by omega)]; cases q0 <;> simp
theorem okT_all (l : List S33) : (AF (okT l) 0 l.length && decide (l.length ≤ 26)) = templatesB l := by
  rw [Bool.eq_iff_iff]
  unfold templatesB
  simp only [Bool.and_eq_true, AF_iff, incB_iff (fun a b : S33 => cmpI a.f0 b.f0) z33, all_getD _ z33, cmpI_lt]
  simp only [templatePs, drawnB, List.all_cons, List.all_nil, Bool.and_true, all_getD _ z89, okT, okP, ascT, Bool.and_eq_true, Bool.or_eq_true, decide_eq_true_eq, AF_iff]
  constructor
  · rintro ⟨h, hn⟩
    refine ⟨⟨hn, fun j hj => ?_⟩, fun j h1 hj => ?_⟩
    · obtain ⟨⟨⟨⟨h1, h2⟩, h3⟩, h4⟩, h5⟩ := h j (by omega) (by omega)
      exact ⟨h1, ⟨h3, h4⟩, fun i hi => h5 i (by omega) (by omega)⟩
    · obtain ⟨⟨⟨⟨_, h2⟩, h3⟩, h4⟩, h5⟩ := h j (by omega) (by omega)
      rcases h2 with h2 | h2
      · omega
      · exact h2
  · rintro ⟨⟨hn, h1⟩, h2⟩
    refine ⟨fun j _ hj => ?_, hn⟩
    obtain ⟨p1, ⟨p2, p3⟩, p4⟩ := h1 j (by omega)
    refine ⟨⟨⟨⟨p1, ?_⟩, p2⟩, p3⟩, fun i _ hi => p4 i (by omega)⟩
    by_cases e : j = 0
    · exact Or.inl e
    · exact Or.inr (h2 j (by omega) (by omega))
theorem templates_law (l : List S33) (hl : l.length ≤ 9223372036854775807) (k : Nat) (hk : 16 * l.length < k) : syllabaryref21_templates.f k l = some (templatesB l) := by
  have := templates_f l hl l.length k 0 (by omega) (by omega) hk
  unfold syllabaryref21_templates.f
  rw [this, ← okT_all]
  rfl

/-! chords -/
theorem bytesOf_getD (s : ByteArray) (i : Nat) : (bytesOf s).getD i 0 = bt s i := by
  unfold bytesOf bt
  rw [List.getD_eq_getElem?_getD, List.getElem?_map]
  by_cases h : i < s.size
  · have : (i : Int).toNat < s.size := by simpa using h
    rw [dif_pos this, List.getElem?_eq_getElem (by rw [Array.length_toList]; exact h)]
    rfl
  · have : ¬ (i : Int).toNat < s.size := by simpa using h
    rw [dif_neg this, List.getElem?_eq_none (by rw [Array.length_toList]; exact Nat.le_of_not_lt h)]
    rfl
def okR (s : ByteArray) (i : Nat) : Bool := letB (bt s i) && (decide (i = 0) || decide (bt s ((i - 1 : Nat) : Int) < bt s i))
theorem rising_f (s : ByteArray) (hl : s.size ≤ 9223372036854775807) : ∀ (d k : Nat) (i : Nat), (s.size : Int) - i = d → d < k →
    syllabaryref21_Rising.l0 k s i = some (AF (okR s) i d && (decide (2 ≤ s.size) && decide (s.size ≤ 4))) := by
  intro d
  induction d with
  | zero =>
    intro k i hd hk
    obtain ⟨k, rfl⟩ : ∃ m, k = m + 1 := ⟨k - 1, by omega⟩
    simp only [syllabaryref21_Rising.l0]
    rw [if_neg (by omega)]
    simp only [AF, Bool.true_and]
    by_cases c : 2 ≤ s.size
    · rw [if_pos (by omega), decide_eq_true c, Bool.true_and]
      exact congrArg some (decide_eq_decide.2 (by omega))
    · rw [if_neg (by omega), decide_eq_false c]; rfl
  | succ d ih =>
    intro k i hd hk
    obtain ⟨k, rfl⟩ : ∃ m, k = m + 1 := ⟨k - 1, by omega⟩
    have ih' := ih k (i + 1) (by omega) (by omega)
    simp only [syllabaryref21_Rising.l0]
    rw [if_pos (by omega), if_pos (by omega), letter_f, Option.bind_some, wrap64_in' ((i : Int) + 1) (by omega) (by omega), show ((i : Int) + 1) = ((i + 1 : Nat) : Int) by omega, ih']
    simp only [AF, okR]
    generalize letB (bt s i) = q0
    by_cases ci : i = 0
    · rw [if_neg (show ¬ (i : Int) > 0 by omega), decide_eq_true ci]
      cases q0 <;> simp
    · have hw : wrap64 ((i : Int) - 1) = ((i - 1 : Nat) : Int) := by rw [wrap64_in' _ (by omega) (by omega)]; omega
      rw [if_pos (show (i : Int) > 0 by omega), hw, if_pos (show (0 : Int) ≤ ((i - 1 : Nat) : Int) by omega), if_pos (show ((i - 1 : Nat) : Int) < (s.size : Int) by omega), decide_eq_false ci]
      generalize bt s ((i - 1 : Nat) : Int) = p
      generalize bt s i = a
      have e1 : decide (p < a) = !(decide (a ≤ p)) := by rw [← decide_not]; exact decide_eq_decide.2 (by omega)
      rw [e1]
      by_cases c1 : a ≤ p
      · rw [if_pos c1, decide_eq_true c1]; cases q0 <;> simp
      · rw [if_neg c1, decide_eq_false c1]; cases q0 <;> simp
def risingB (s : ByteArray) : Bool := decide (2 ≤ s.size) && decide (s.size ≤ 4) && ((bytesOf s).all letB) && incB cmpI (bytesOf s)
theorem okR_all (s : ByteArray) : (AF (okR s) 0 s.size && (decide (2 ≤ s.size) && decide (s.size ≤ 4))) = risingB s := by
  rw [Bool.eq_iff_iff]
  unfold risingB
  simp only [Bool.and_eq_true, AF_iff, incB_iff cmpI (0 : Int), all_getD letB (0 : Int), cmpI_lt, bytesOf_length, bytesOf_getD, okR, Bool.or_eq_true, decide_eq_true_eq]
  constructor
  · rintro ⟨h, h2, h4⟩
    refine ⟨⟨⟨h2, h4⟩, fun j hj => (h j (by omega) (by omega)).1⟩, fun j h1 hj => ?_⟩
    rcases (h j (by omega) (by omega)).2 with e | e
    · omega
    · exact e
  · rintro ⟨⟨⟨h2, h4⟩, h1⟩, h3⟩
    refine ⟨fun j _ hj => ⟨h1 j (by omega), ?_⟩, h2, h4⟩
    by_cases e : j = 0
    · exact Or.inl e
    · exact Or.inr (h3 j (by omega) (by omega))
theorem rising_law (s : ByteArray) (hl : s.size ≤ 9223372036854775807) (k : Nat) (hk : s.size < k) : syllabaryref21_Rising.f k s = some (risingB s) := by
  have := rising_f s hl s.size k 0 (by omega) hk
  unfold syllabaryref21_Rising.f
  rw [← okR_all]
  exact this
def ascC (l : List S39) (i : Nat) : Bool := decide (i = 0) || Op.bytesLess (l.getD (i - 1) z39).f0.toList (l.getD i z39).f0.toList
def okC (l : List S39) (i : Nat) : Bool := risingB (l.getD i z39).f0 && letB (l.getD i z39).f1 && ascC l i
theorem chords_f (l : List S39) (hl : l.length ≤ 9223372036854775807) (M : Nat) (hM : ∀ i, (rd_T39 l i).f0.size ≤ M) (hs : ∀ i, iC (rd_T39 l i)) : ∀ (d k : Nat) (i : Int), 0 ≤ i → (l.length : Int) - i = d → M + d < k →
    syllabaryref21_chords.l0 k l i = some (AF (okC l) i.toNat d && decide (l.length ≤ 26)) := by
  intro d
  induction d with
  | zero =>
    intro k i h0 hd hk
    obtain ⟨k, rfl⟩ : ∃ m, k = m + 1 := ⟨k - 1, by omega⟩
    simp only [syllabaryref21_chords.l0]
    rw [if_neg (by omega)]
    simp only [AF, Bool.true_and, Option.some.injEq]
    exact decide_eq_decide.2 (by omega)
  | succ d ih =>
    intro k i h0 hd hk
    obtain ⟨k, rfl⟩ : ∃ m, k = m + 1 := ⟨k - 1, by omega⟩
    have ih' := ih k (i + 1) (by omega) (by omega) (by omega)
    rw [show (i + 1).toNat = i.toNat + 1 by omega] at ih'
    have hsz := hs i
    have hMi := hM i
    unfold iC at hsz
    simp only [syllabaryref21_chords.l0]
    rw [if_pos (by omega), if_pos h0, rising_law _ hsz k (by omega), wrap64_in' (i + 1) (by omega) (by omega), ih', letter_f]
    simp only [AF, okC, ascC, Option.bind_some]
    rw [show l.getD i.toNat z39 = rd_T39 l i from rfl]
    generalize risingB (rd_T39 l i).f0 = q0
    generalize letB (rd_T39 l i).f1 = q1
    by_cases ci : i > 0
    · have hw : wrap64 (i - 1) = i - 1 := wrap64_in' _ (by omega) (by omega)
      rw [if_pos ci, hw, if_pos (show 0 ≤ i - 1 by omega), if_pos (show i - 1 < (l.length : Int) by omega)]
      rw [show l.getD (i.toNat - 1) z39 = rd_T39 l (i - 1) by unfold rd_T39; rw [show (i - 1).toNat = i.toNat - 1 by omega]]
      rw [decide_eq_false (show ¬ i.toNat = 0 by omega)]
      generalize Op.bytesLess _ _ = q2
      cases q0 <;> cases q1 <;> cases q2 <;> simp
    · rw [if_neg ci, decide_eq_true (show i.toNat = 0 by omega)]
      cases q0 <;> cases q1 <;> simp
theorem cmpS_lt (x y : ByteArray) : cmpS x y < 0 ↔ Op.bytesLess x.toList y.toList = true := by
  unfold cmpS
  cases h : Op.bytesLess x.toList y.toList
  · simp only [Bool.false_eq_true, if_false, iff_false]
    split <;> decide
  · simp
theorem okC_all (l : List S39) : (AF (okC l) 0 l.length && decide (l.length ≤ 26)) = chordsB l := by
  rw [Bool.eq_iff_iff]
  unfold chordsB
  simp only [Bool.and_eq_true, AF_iff, incB_iff (fun a b : S39 => cmpS a.f0 b.f0) z39, all_getD _ z39, cmpS_lt]
  simp only [chordPs, List.all_cons, List.all_nil, Bool.and_true, okC, ascC, Bool.and_eq_true, Bool.or_eq_true, decide_eq_true_eq]
  have hp : ∀ a : S39, pressedB a = risingB a.f0 := fun a => rfl
  simp only [hp]
  constructor
  · rintro ⟨h, hn⟩
    refine ⟨⟨hn, fun j hj => ?_⟩, fun j h1 hj => ?_⟩
    · obtain ⟨⟨h1, h2⟩, h3⟩ := h j (by omega) (by omega)
      exact ⟨h2, h1⟩
    · obtain ⟨⟨_, _⟩, h3⟩ := h j (by omega) (by omega)
      rcases h3 with h2 | h2
      · omega
      · exact h2
  · rintro ⟨⟨hn, h1⟩, h2⟩
    refine ⟨fun j _ hj => ?_, hn⟩
    obtain ⟨p1, p2⟩ := h1 j (by omega)
    refine ⟨⟨p2, p1⟩, ?_⟩
    by_cases e : j = 0
    · exact Or.inl e
    · exact Or.inr (h2 j (by omega) (by omega))
theorem chords_law (l : List S39) (hl : l.length ≤ 9223372036854775807) (hs : ∀ i, iC (rd_T39 l i)) (k : Nat) (hk : 9223372036854775807 + l.length < k) : syllabaryref21_chords.f k l = some (chordsB l) := by
  have := chords_f l hl 9223372036854775807 hs hs l.length k 0 (by omega) (by omega) hk
  unfold syllabaryref21_chords.f
  rw [this, ← okC_all]
  rfl

/-- Both answer alike. -/
theorem reference_any (w : World) (A B C : Option Addr) (a b c : Nat) (la : List S36) (lt : List S33) (lc : List S39) (ha : Kd.C k36 w A la.length la) (hca : la.length ≤ a) (ht : Kd.C k33 w B lt.length lt) (hct : lt.length ≤ b) (hc : Kd.C k39 w C lc.length lc) (hcc : lc.length ≤ c) (hs : ∀ i, iC (rd_T39 lc i)) :
    Calls Try.prog 13 #[.agg #[.slice A la.length a, .slice B lt.length b, .slice C lc.length c]] w fun e w' => e = .returned (.bool (areasB la && templatesB lt && chordsB lc)) ∧ Below w.heap.size w w' := by
  refine syllabaryref21_Valid.calls ((la.length + 4) * la.length + 16 * lt.length + (9223372036854775807 + lc.length) + 1) A a la B b lt C c lc _ w ha hca ht hct hc hcc ?_
  unfold syllabaryref21_Valid.f
  rw [areas_law la ha.2.1 _ (by omega), templates_law lt ht.2.1 _ (by omega), chords_law lc hc.2.1 hs _ (by omega)]
  simp only [Option.bind_some]
  cases areasB la <;> cases templatesB lt <;> simp
end Go.Proofs.Ytplhilglokbplaa
