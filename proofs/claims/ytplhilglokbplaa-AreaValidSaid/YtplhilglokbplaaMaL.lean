/- R21.Made: the board it makes. R21.Made: its walk. -/
import Derived.Test.YtplhilglokbplaaAsB
import Derived.StillTailTactics
namespace Go.Proofs.Ytplhilglokbplaa
open Go.Shelf Go.RowKit Go.Proofs.YtplhilglokbplaaW.PrintWords Go.Proofs.YtplhilglokbplaaW.PrintLast Go.Proofs.YtplhilglokbplaaW.PrintMore PAll
set_option linter.unusedVariables false
set_option linter.unusedSimpArgs false

abbrev B2 := Int × Int
def kB2 : Kd B2 := Kd.pair (Kd.int .u8) (Kd.int .u8)
theorem at_B2 {w : World} {A : Option Addr} {n : Nat} {xs : List B2} (h : Kd.C kB2 w A n xs) (i : Int) (h0 : 0 ≤ i) (h1 : i < n) : ∃ ad, A = some ad ∧ w.cell? (ad.add (i.toNat * 2)) = some (.int .u8 (xs.getD i.toNat (0, 0)).1) ∧ w.cell? ⟨(ad.add (i.toNat * 2)).block, (ad.add (i.toNat * 2)).off + 1, none⟩ = some (.int .u8 (xs.getD i.toNat (0, 0)).2) := by
  obtain ⟨ad, c, e, _, hK, hc0⟩ := Kd.C_get h (0, 0) i h0 h1
  have hc : ∀ j u, c[j]? = some u → w.cell? (ad.add (i.toNat * 2 + j)) = some u := hc0
  obtain ⟨_, _, rfl, rfl, rfl⟩ := hK
  refine ⟨ad, e, hc 0 _ rfl, ?_⟩
  have := hc 1 _ rfl
  rwa [add_field _ _ _ (by decide)] at this

/-- Where the i-th area begins. -/
def mX (l : List B2) : Nat → Int
  | 0 => 0
  | i + 1 => if i % 5 = 4 then 0 else mX l i + ((l.getD i (0, 0)).1 % 21 + 1 + (l.getD i (0, 0)).1 / 21 % 9)
def mY (i : Nat) : Int := 22 * ((i / 5 : Nat) : Int)
def mA (l : List B2) (i : Nat) : S36 := ⟨97 + i, mX l i, mY i, mX l i + (l.getD i (0, 0)).1 % 21, mY i + (l.getD i (0, 0)).2 % 21⟩
def made (l : List B2) : List S36 := (List.range (min l.length 14)).map (mA l)
def IsB (l : List B2) : Prop := ∀ i, 0 ≤ (l.getD i (0, 0)).1 ∧ (l.getD i (0, 0)).1 ≤ 255 ∧ 0 ≤ (l.getD i (0, 0)).2 ∧ (l.getD i (0, 0)).2 ≤ 255
theorem mX_bound (l : List B2) (h : IsB l) : ∀ i, 0 ≤ mX l i ∧ mX l i ≤ 29 * ((i % 5 : Nat) : Int)
  | 0 => by simp [mX]
  | i + 1 => by
    have ih := mX_bound l h i
    have hi := h i
    unfold mX
    by_cases c : i % 5 = 4
    · rw [if_pos c]; omega
    · rw [if_neg c]
      generalize (l.getD i (0, 0)).1 = p at hi ⊢
      generalize mX l i = m at ih ⊢
      omega
/-- Rows begin anew behind five; in a row one begins behind the other's end. -/
theorem mX_next (l : List B2) (h : IsB l) (i : Nat) (c : i % 5 ≠ 4) : mX l i + (l.getD i (0, 0)).1 % 21 < mX l (i + 1) := by
  have hi := h i
  rw [mX, if_neg c]
  generalize (l.getD i (0, 0)).1 = p at hi ⊢
  generalize mX l i = m
  omega
theorem mX_row (l : List B2) (h : IsB l) (j : Nat) : ∀ d, (j % 5) + d + 1 < 5 → mX l j + (l.getD j (0, 0)).1 % 21 < mX l (j + d + 1)
  | 0, hd => mX_next l h j (by omega)
  | d + 1, hd => by
    have ih := mX_row l h j d (by omega)
    have hn := mX_next l h (j + d + 1) (by omega)
    have hi := h (j + d + 1)
    have : mX l (j + d + 1) ≤ mX l (j + d + 1) + (l.getD (j + d + 1) (0, 0)).1 % 21 := by omega
    show _ < mX l (j + d + 1 + 1)
    omega
theorem made_length (l : List B2) : (made l).length = min l.length 14 := by simp [made]
theorem made_getD (l : List B2) (i : Nat) (hi : i < min l.length 14) : (made l).getD i z36 = mA l i := by
  unfold made
  rw [List.getD_eq_getElem?_getD, List.getElem?_map, List.getElem?_range hi]
  rfl
theorem meet_x {a b : S36} (h : ¬ a.f1 ≤ b.f3) : meetB a b = false := by
  unfold meetB
  rw [decide_eq_false h]
  rfl
theorem meet_y {a b : S36} (h : ¬ a.f2 ≤ b.f4) : meetB a b = false := by
  unfold meetB
  rw [decide_eq_false h]
  simp
theorem made_areas (l : List B2) (h : IsB l) : areasB (made l) = true := by
  rw [← okA_all]
  have hlen := made_length l
  rw [Bool.and_eq_true, AF_iff, decide_eq_true_eq]
  refine ⟨fun j _ hj => ?_, by omega⟩
  rw [hlen] at hj
  have hb := mX_bound l h j
  have hi := h j
  unfold okA ascA
  rw [made_getD l j (by omega)]
  simp only [Bool.and_eq_true, Bool.or_eq_true, decide_eq_true_eq, AF_iff, noMeet]
  have hj14 : j < 14 := by omega
  refine ⟨⟨⟨⟨⟨⟨?_, ?_⟩, ?_⟩, ?_⟩, ?_⟩, ?_⟩, ?_⟩
  · simp [letB, mA]; omega
  · by_cases e : j = 0
    · exact Or.inl e
    · rw [made_getD l (j - 1) (by omega)]
      simp only [mA]
      omega
  · simp [coordB, mA, mY]; omega
  · show coordB [mX l j + (l.getD j (0, 0)).1 % 21, 22 * ((j / 5 : Nat) : Int) + (l.getD j (0, 0)).2 % 21] = true
    generalize (l.getD j (0, 0)).1 = p at hi ⊢
    generalize (l.getD j (0, 0)).2 = q at hi ⊢
    generalize mX l j = m at hb ⊢
    simp [coordB]
    omega
  · simp only [mA]
    omega
  · simp only [mA]
    omega
  · intro i _ hij
    rw [made_getD l i (by omega)]
    have hii := h i
    rw [Bool.not_eq_true']
    by_cases hrow : i / 5 = j / 5
    · have hx := mX_row l h i (j - i - 1) (by omega)
      rw [show i + (j - i - 1) + 1 = j by omega] at hx
      exact meet_x (show ¬ mX l j ≤ mX l i + (l.getD i (0, 0)).1 % 21 by omega)
    · refine meet_y (show ¬ 22 * ((j / 5 : Nat) : Int) ≤ 22 * ((i / 5 : Nat) : Int) + (l.getD i (0, 0)).2 % 21 from ?_)
      have : i / 5 < j / 5 := by omega
      generalize (l.getD i (0, 0)).2 = q at hii ⊢
      omega

end Go.Proofs.Ytplhilglokbplaa
namespace Go.Proofs.Ytplhilglokbplaa
open Go.Shelf Go.RowKit Go.Proofs.YtplhilglokbplaaW.PrintWords Go.Proofs.YtplhilglokbplaaW.PrintLast Go.Proofs.YtplhilglokbplaaW.PrintMore PAll
set_option linter.unusedVariables false
set_option linter.unusedSimpArgs false

theorem range_snoc (l : List B2) (i : Nat) : (List.range (i + 1)).map (mA l) = (List.range i).map (mA l) ++ [mA l i] := by
  rw [List.range_succ, List.map_append]; rfl
theorem info36' : (Try.prog.info? 36).map (fun i => (i.zero, i.size, i.bytes)) = some (some (.agg #[.int .u8 0, .int .i64 0, .int .i64 0, .int .i64 0, .int .i64 0]), 5, 40) := by kernel_rfl
theorem World.block_size3 {W : World} {b : Nat} {o : Obj} (h : W.heap[b + 1 + 1]? = some o) : b + 3 ≤ W.heap.size := by
  have := (Array.getElem?_eq_some_iff.1 h).1
  omega
/-- What holds once an area was appended and the board's field set. -/
theorem made_step {w W1 w1 : World} {A' : Option Addr} {c' i : Nat} {xs : List S36} {a : S36} {v1 : Value} (hlen : xs.length = i)
    (HO1 : Kd.R k36 36 W1 w.heap.size (fun k => w.heap.size + 3 ≤ k) (.slice A' i c') xs)
    (HZ1 : W1.heap[w.heap.size]? = some (.cells #[.slice none 0 0, .slice none 0 0, .slice none 0 0] 26)) (HC1 : W1.heap[w.heap.size + 1]? = some (.cells #[.string ⟨#[97, 98]⟩, .int .u8 99, .string ⟨#[97, 98, 99]⟩, .int .u8 97] 39))
    (HW1 : W1.heap[w.heap.size + 1 + 1]? = some (.cells #[.slice A' i c', .slice none 0 0, .slice (some ⟨w.heap.size + 1, 0, none⟩) 2 2] 26))
    (ho2 : Kd.R k36 36 w1 w.heap.size (fun k => w.heap.size + 3 ≤ k) v1 (xs ++ [a])) (hb2 : Below w.heap.size w w1) (hg2 : W1.grownBy w1 (Value.slice A' i c').ownBlock) :
    ∃ A2 c2, v1 = .slice A2 (i + 1) c2 ∧ w1.cell? ⟨w.heap.size + 1 + 1, 0, none⟩ = some (.slice A' i c') ∧ w1.frozen? ⟨w.heap.size + 1 + 1, 0, none⟩ = false ∧
      (∀ {q : Addr} {x : Value}, w.cell? q = some x → (w1.setCell ⟨w.heap.size + 1 + 1, 0, none⟩ (.slice A2 (i + 1) c2)).cell? q = some x) ∧
      Below w.heap.size w (w1.setCell ⟨w.heap.size + 1 + 1, 0, none⟩ (.slice A2 (i + 1) c2)) ∧
      (w1.setCell ⟨w.heap.size + 1 + 1, 0, none⟩ (.slice A2 (i + 1) c2)).heap[w.heap.size]? = some (.cells #[.slice none 0 0, .slice none 0 0, .slice none 0 0] 26) ∧
      (w1.setCell ⟨w.heap.size + 1 + 1, 0, none⟩ (.slice A2 (i + 1) c2)).heap[w.heap.size + 1]? = some (.cells #[.string ⟨#[97, 98]⟩, .int .u8 99, .string ⟨#[97, 98, 99]⟩, .int .u8 97] 39) ∧
      (w1.setCell ⟨w.heap.size + 1 + 1, 0, none⟩ (.slice A2 (i + 1) c2)).heap[w.heap.size + 1 + 1]? = some (.cells #[.slice A2 (i + 1) c2, .slice none 0 0, .slice (some ⟨w.heap.size + 1, 0, none⟩) 2 2] 26) ∧
      Kd.R k36 36 (w1.setCell ⟨w.heap.size + 1 + 1, 0, none⟩ (.slice A2 (i + 1) c2)) w.heap.size (fun k => w.heap.size + 3 ≤ k) (.slice A2 (i + 1) c2) (xs ++ [a]) := by
  have hne : ∀ k, k < w.heap.size + 3 → k < W1.heap.size ∧ some k ≠ (Value.slice A' i c').ownBlock := fun k hk => ⟨Nat.lt_of_lt_of_le hk (World.block_size3 HW1), fun e => by have := HO1.1 k e.symm; omega⟩
  have HZ2 := (hg2.block _ (hne w.heap.size (by omega)).1 (hne _ (by omega)).2).trans HZ1
  have HC2 := (hg2.block _ (hne (w.heap.size + 1) (by omega)).1 (hne _ (by omega)).2).trans HC1
  have HW2 := (hg2.block _ (hne (w.heap.size + 1 + 1) (by omega)).1 (hne _ (by omega)).2).trans HW1
  obtain ⟨A2, c2, hv⟩ := Kd.R_slice ho2
  rw [show (xs ++ [a]).length = i + 1 by simp [hlen]] at hv
  subst hv
  have hB : Below w.heap.size w (w1.setCell ⟨w.heap.size + 1 + 1, 0, none⟩ (.slice A2 (i + 1) c2)) := hb2.setCell (show w.heap.size ≤ w.heap.size + 1 + 1 by omega) _
  refine ⟨A2, c2, rfl, (blk_cell HW2 0).trans rfl, blk_frozen HW2 0, fun {q x} hq => (hB.cell (World.block_lt_of_cell? w _ hq)).trans hq, hB, ?_, ?_, ?_, ?_⟩
  · rw [Below.heap_setCell w1 _ _ _ (show w.heap.size ≠ w.heap.size + 1 + 1 by omega)]; exact HZ2
  · rw [Below.heap_setCell w1 _ _ _ (show w.heap.size + 1 ≠ w.heap.size + 1 + 1 by omega)]; exact HC2
  · exact blk_set HW2 0 _
  · exact Kd.R_far ho2 (fun k hk => by show k ≠ w.heap.size + 1 + 1; omega) _
theorem three_sets {wx : World} {g : Nat} {x y z : Value} (h : wx.heap[g]? = some (.cells #[x, y, z] 26)) (a b c : Value) :
    (((wx.setCell ⟨g, 0, none⟩ a).setCell ⟨g, 1, none⟩ b).setCell ⟨g, 2, none⟩ c).heap[g]? = some (.cells #[a, b, c] 26) :=
  blk_set (blk_set (blk_set h 0 a) 1 b) 2 c
theorem results_board {fn : Func} {tmps : Array Value} {w : World} {g : Nat} {x y z : Value} (h : fn.results = #[.cell 2 26]) (hg : tmps.getD 2 undef = .pointer (some ⟨g, 0, none⟩)) (hb : w.heap[g]? = some (.cells #[x, y, z] 26)) :
    (results fn tmps).run Try.prog w = .ok (.agg #[x, y, z]) w := by
  have c0 := blk_cell hb 0
  have c1 := blk_cell hb 1
  have c2 := blk_cell hb 2
  simp at c0 c1 c2
  have hu := Try.underlying26
  unfold results
  rw [h]
  simp only [List.size_toArray, Array.mapM_eq_mapM_toList] 
  simp
  simp at hg
  rw [hg]
  go_simp
/-- What Made leaves: the areas, the templates' block T, the chords' block. -/
def MadeIn (w wx : World) (l : List B2) (A' : Option Addr) (c' T : Nat) : Prop :=
  Below w.heap.size w wx ∧ wx.heap[w.heap.size + 1]? = some (.cells #[.string ⟨#[97, 98]⟩, .int .u8 99, .string ⟨#[97, 98, 99]⟩, .int .u8 97] 39) ∧
  wx.heap[w.heap.size + 1 + 1]? = some (.cells #[.slice A' (min l.length 14) c', .slice (some ⟨T, 0, none⟩) 2 2, .slice (some ⟨w.heap.size + 1, 0, none⟩) 2 2] 26) ∧
  Kd.R k36 36 wx w.heap.size (fun k => w.heap.size + 3 ≤ k) (.slice A' (min l.length 14) c') (made l) ∧
  ∃ P1 P2, w.heap.size + 3 ≤ T ∧ wx.heap[T]? = some (.cells #[.int .u8 97, .slice (some ⟨P1, 0, none⟩) 2 2, .int .u8 98, .slice (some ⟨P2, 0, none⟩) 3 3] 33) ∧
    w.heap.size + 3 ≤ P1 ∧ wx.heap[P1]? = some (.cells #[.int .i64 0, .int .i64 0, .int .i64 20, .int .i64 20] 89) ∧
    w.heap.size + 3 ≤ P2 ∧ wx.heap[P2]? = some (.cells #[.int .i64 20, .int .i64 0, .int .i64 0, .int .i64 20, .int .i64 20, .int .i64 40] 89)
theorem made_tail {w wo : World} {l : List B2} {A' : Option Addr} {c' : Nat} (HB : Below w.heap.size w wo)
    (HZ : wo.heap[w.heap.size]? = some (.cells #[.slice none 0 0, .slice none 0 0, .slice none 0 0] 26)) (HC : wo.heap[w.heap.size + 1]? = some (.cells #[.string ⟨#[97, 98]⟩, .int .u8 99, .string ⟨#[97, 98, 99]⟩, .int .u8 97] 39))
    (HW : wo.heap[w.heap.size + 1 + 1]? = some (.cells #[.slice A' (min l.length 14) c', .slice none 0 0, .slice (some ⟨w.heap.size + 1, 0, none⟩) 2 2] 26))
    (HO : Kd.R k36 36 wo w.heap.size (fun k => w.heap.size + 3 ≤ k) (.slice A' (min l.length 14) c') ((List.range (min l.length 14)).map (mA l))) :
    MadeIn w ((((wo.alloc (.cells #[.int .i64 0, .int .i64 0, .int .i64 20, .int .i64 20] 89)).alloc (.cells #[.int .i64 20, .int .i64 0, .int .i64 0, .int .i64 20, .int .i64 20, .int .i64 40] 89)).alloc (.cells #[.int .u8 97, .slice (some ⟨wo.heap.size, 0, none⟩) 2 2, .int .u8 98, .slice (some ⟨wo.heap.size + 1, 0, none⟩) 3 3] 33)).setCell ⟨w.heap.size + 1 + 1, 1, none⟩ (.slice (some ⟨wo.heap.size + 1 + 1, 0, none⟩) 2 2)) l A' c' (wo.heap.size + 1 + 1) ∧
    ((((wo.alloc (.cells #[.int .i64 0, .int .i64 0, .int .i64 20, .int .i64 20] 89)).alloc (.cells #[.int .i64 20, .int .i64 0, .int .i64 0, .int .i64 20, .int .i64 20, .int .i64 40] 89)).alloc (.cells #[.int .u8 97, .slice (some ⟨wo.heap.size, 0, none⟩) 2 2, .int .u8 98, .slice (some ⟨wo.heap.size + 1, 0, none⟩) 3 3] 33)).setCell ⟨w.heap.size + 1 + 1, 1, none⟩ (.slice (some ⟨wo.heap.size + 1 + 1, 0, none⟩) 2 2)).heap[w.heap.size]? = some (.cells #[.slice none 0 0, .slice none 0 0, .slice none 0 0] 26) := by
  have hsz := World.block_size3 HW
  have n1 := heap_alloc_new wo (.cells #[.int .i64 0, .int .i64 0, .int .i64 20, .int .i64 20] 89)
  have s1 : (wo.alloc (.cells #[.int .i64 0, .int .i64 0, .int .i64 20, .int .i64 20] 89)).heap.size = wo.heap.size + 1 := by simp
  replace HZ := blk_alloc HZ (.cells #[.int .i64 0, .int .i64 0, .int .i64 20, .int .i64 20] 89)
  replace HC := blk_alloc HC (.cells #[.int .i64 0, .int .i64 0, .int .i64 20, .int .i64 20] 89)
  replace HW := blk_alloc HW (.cells #[.int .i64 0, .int .i64 0, .int .i64 20, .int .i64 20] 89)
  replace HB := below_alloc HB (.cells #[.int .i64 0, .int .i64 0, .int .i64 20, .int .i64 20] 89)
  replace HO := Kd.R_alloc HO (.cells #[.int .i64 0, .int .i64 0, .int .i64 20, .int .i64 20] 89)
  generalize wo.alloc (.cells #[.int .i64 0, .int .i64 0, .int .i64 20, .int .i64 20] 89) = w1 at *
  have n2 := heap_alloc_new w1 (.cells #[.int .i64 20, .int .i64 0, .int .i64 0, .int .i64 20, .int .i64 20, .int .i64 40] 89)
  have s2 : (w1.alloc (.cells #[.int .i64 20, .int .i64 0, .int .i64 0, .int .i64 20, .int .i64 20, .int .i64 40] 89)).heap.size = w1.heap.size + 1 := by simp
  replace HZ := blk_alloc HZ (.cells #[.int .i64 20, .int .i64 0, .int .i64 0, .int .i64 20, .int .i64 20, .int .i64 40] 89)
  replace HC := blk_alloc HC (.cells #[.int .i64 20, .int .i64 0, .int .i64 0, .int .i64 20, .int .i64 20, .int .i64 40] 89)
  replace HW := blk_alloc HW (.cells #[.int .i64 20, .int .i64 0, .int .i64 0, .int .i64 20, .int .i64 20, .int .i64 40] 89)
  replace HB := below_alloc HB (.cells #[.int .i64 20, .int .i64 0, .int .i64 0, .int .i64 20, .int .i64 20, .int .i64 40] 89)
  replace HO := Kd.R_alloc HO (.cells #[.int .i64 20, .int .i64 0, .int .i64 0, .int .i64 20, .int .i64 20, .int .i64 40] 89)
  replace n1 := blk_alloc n1 (.cells #[.int .i64 20, .int .i64 0, .int .i64 0, .int .i64 20, .int .i64 20, .int .i64 40] 89)
  generalize w1.alloc (.cells #[.int .i64 20, .int .i64 0, .int .i64 0, .int .i64 20, .int .i64 20, .int .i64 40] 89) = w2 at *
  have n3 := heap_alloc_new w2 (.cells #[.int .u8 97, .slice (some ⟨wo.heap.size, 0, none⟩) 2 2, .int .u8 98, .slice (some ⟨wo.heap.size + 1, 0, none⟩) 3 3] 33)
  have s3 : (w2.alloc (.cells #[.int .u8 97, .slice (some ⟨wo.heap.size, 0, none⟩) 2 2, .int .u8 98, .slice (some ⟨wo.heap.size + 1, 0, none⟩) 3 3] 33)).heap.size = w2.heap.size + 1 := by simp
  replace HZ := blk_alloc HZ (.cells #[.int .u8 97, .slice (some ⟨wo.heap.size, 0, none⟩) 2 2, .int .u8 98, .slice (some ⟨wo.heap.size + 1, 0, none⟩) 3 3] 33)
  replace HC := blk_alloc HC (.cells #[.int .u8 97, .slice (some ⟨wo.heap.size, 0, none⟩) 2 2, .int .u8 98, .slice (some ⟨wo.heap.size + 1, 0, none⟩) 3 3] 33)
  replace HW := blk_alloc HW (.cells #[.int .u8 97, .slice (some ⟨wo.heap.size, 0, none⟩) 2 2, .int .u8 98, .slice (some ⟨wo.heap.size + 1, 0, none⟩) 3 3] 33)
  replace HB := below_alloc HB (.cells #[.int .u8 97, .slice (some ⟨wo.heap.size, 0, none⟩) 2 2, .int .u8 98, .slice (some ⟨wo.heap.size + 1, 0, none⟩) 3 3] 33)
  replace HO := Kd.R_alloc HO (.cells #[.int .u8 97, .slice (some ⟨wo.heap.size, 0, none⟩) 2 2, .int .u8 98, .slice (some ⟨wo.heap.size + 1, 0, none⟩) 3 3] 33)
  replace n1 := blk_alloc n1 (.cells #[.int .u8 97, .slice (some ⟨wo.heap.size, 0, none⟩) 2 2, .int .u8 98, .slice (some ⟨wo.heap.size + 1, 0, none⟩) 3 3] 33)
  replace n2 := blk_alloc n2 (.cells #[.int .u8 97, .slice (some ⟨wo.heap.size, 0, none⟩) 2 2, .int .u8 98, .slice (some ⟨wo.heap.size + 1, 0, none⟩) 3 3] 33)
  generalize w2.alloc (.cells #[.int .u8 97, .slice (some ⟨wo.heap.size, 0, none⟩) 2 2, .int .u8 98, .slice (some ⟨wo.heap.size + 1, 0, none⟩) 3 3] 33) = w3 at *
  rw [s2, s1] at n3
  rw [s1] at n2
  have far : ∀ g, g ≠ w.heap.size + 1 + 1 → ∀ u, (w3.setCell ⟨w.heap.size + 1 + 1, 1, none⟩ u).heap[g]? = w3.heap[g]? := fun g hg u => Below.heap_setCell w3 _ _ _ hg
  refine ⟨⟨HB.setCell (show w.heap.size ≤ w.heap.size + 1 + 1 by omega) _, ?_, ?_, ?_, wo.heap.size, wo.heap.size + 1, by omega, ?_, by omega, ?_, by omega, ?_⟩, ?_⟩
  · rw [far _ (by omega)]; exact HC
  · exact blk_set HW 1 _
  · exact Kd.R_far HO (fun k hk => by show k ≠ w.heap.size + 1 + 1; omega) _
  · rw [far _ (by omega)]; exact n3
  · rw [far _ (by omega)]; exact n1
  · rw [far _ (by omega)]; exact n2
  · rw [far _ (by omega)]; exact HZ
theorem made_behind {w wx : World} {l : List B2} {A' : Option Addr} {c' T : Nat} (h : MadeIn w wx l A' c' T) (a b c : Value) : MadeIn w (((wx.setCell ⟨w.heap.size, 0, none⟩ a).setCell ⟨w.heap.size, 1, none⟩ b).setCell ⟨w.heap.size, 2, none⟩ c) l A' c' T := by
  obtain ⟨HB, HC, HW, HO, P1, P2, t, hT, t1, h1, t2, h2⟩ := h
  have far : ∀ g, g ≠ w.heap.size → (((wx.setCell ⟨w.heap.size, 0, none⟩ a).setCell ⟨w.heap.size, 1, none⟩ b).setCell ⟨w.heap.size, 2, none⟩ c).heap[g]? = wx.heap[g]? := fun g hg =>
    ((Below.heap_setCell _ _ _ _ hg).trans (Below.heap_setCell _ _ _ _ hg)).trans (Below.heap_setCell _ _ _ _ hg)
  refine ⟨((HB.setCell (Nat.le_refl _) _).setCell (Nat.le_refl _) _).setCell (Nat.le_refl _) _, ?_, ?_, ?_, P1, P2, t, ?_, t1, ?_, t2, ?_⟩
  · rw [far _ (by omega)]; exact HC
  · rw [far _ (by omega)]; exact HW
  · exact Kd.R_far (Kd.R_far (Kd.R_far HO (fun k hk => by show k ≠ w.heap.size; omega) _) (fun k hk => by show k ≠ w.heap.size; omega) _) (fun k hk => by show k ≠ w.heap.size; omega) _
  · rw [far _ (by omega)]; exact hT
  · rw [far _ (by omega)]; exact h1
  · rw [far _ (by omega)]; exact h2
end Go.Proofs.Ytplhilglokbplaa
