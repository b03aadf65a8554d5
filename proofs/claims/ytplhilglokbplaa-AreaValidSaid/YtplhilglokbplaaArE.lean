/- The closures of package area: what each of them answers. The closures of package area as predicates and comparisons. -/
import Derived.Test.YtplhilglokbplaaArC
import Derived.Test.YtplhilglokbplaaQa
import Derived.WalkLawsBesides
import Derived.Shelf.Abstract
namespace Go.Proofs.Ytplhilglokbplaa
open Go.RowKit Go.Proofs.YtplhilglokbplaaW.PrintWords Go.Proofs.YtplhilglokbplaaW.PrintLast Go.Proofs.YtplhilglokbplaaW.PrintMore PAll
set_option linter.unusedVariables false
set_option linter.unusedSimpArgs false

def letB (c : Int) : Bool := decide (97 ≤ c) && decide (c ≤ 122)
theorem letter_any (c : Int) (w : World) : Calls Try.prog 94 #[.int .u8 c] w fun e w' => e = .returned (.bool (letB c)) ∧ Below w.heap.size w w' := by
  unfold letB
  by_cases h : 97 ≤ c
  · by_cases h2 : c ≤ 122
    all_goals
      go_enter Try.func94, Try.ntmps94
      go_wp2
      go_ret
      exact ⟨by simp [h, h2], Below.refl _ _⟩
  · have hd : decide (97 ≤ c) = false := decide_eq_false h
    rw [hd]
    go_enter Try.func94, Try.ntmps94
    go_wp2
    go_ret
    exact ⟨rfl, Below.refl _ _⟩

def cmpI (x y : Int) : Int := if x < y then -1 else if y < x then 1 else 0
theorem compare82_any (x y : Int) (w : World) : Calls Try.prog 82 #[.int .u8 x, .int .u8 y] w fun e w' => e = .returned (.int .i64 (cmpI x y)) ∧ Below w.heap.size w w' := by
  unfold cmpI
  have hx : (x != x) = false := by simp
  have hy : (y != y) = false := by simp
  by_cases h : x < y
  · rw [if_pos h]
    have hd : decide (x < y) = true := decide_eq_true h
    go_enter Try.func82, Try.ntmps82
    go_wp2
    go_ret
    exact ⟨rfl, Below.refl _ _⟩
  · rw [if_neg h]
    have hd : decide (x < y) = false := decide_eq_false h
    by_cases h2 : y < x
    · rw [if_pos h2]
      have hd2 : decide (y < x) = true := decide_eq_true h2
      go_enter Try.func82, Try.ntmps82
      go_wp2
      go_ret
      exact ⟨rfl, Below.refl _ _⟩
    · rw [if_neg h2]
      have hd2 : decide (y < x) = false := decide_eq_false h2
      go_enter Try.func82, Try.ntmps82
      go_wp2
      go_ret
      exact ⟨rfl, Below.refl _ _⟩
theorem compare90_any (x y : Int) (w : World) : Calls Try.prog 90 #[.int .i64 x, .int .i64 y] w fun e w' => e = .returned (.int .i64 (cmpI x y)) ∧ Below w.heap.size w w' := by
  unfold cmpI
  have hx : (x != x) = false := by simp
  have hy : (y != y) = false := by simp
  by_cases h : x < y
  · rw [if_pos h]
    have hd : decide (x < y) = true := decide_eq_true h
    go_enter Try.func90, Try.ntmps90
    go_wp2
    go_ret
    exact ⟨rfl, Below.refl _ _⟩
  · rw [if_neg h]
    have hd : decide (x < y) = false := decide_eq_false h
    by_cases h2 : y < x
    · rw [if_pos h2]
      have hd2 : decide (y < x) = true := decide_eq_true h2
      go_enter Try.func90, Try.ntmps90
      go_wp2
      go_ret
      exact ⟨rfl, Below.refl _ _⟩
    · rw [if_neg h2]
      have hd2 : decide (y < x) = false := decide_eq_false h2
      go_enter Try.func90, Try.ntmps90
      go_wp2
      go_ret
      exact ⟨rfl, Below.refl _ _⟩
def cmpS (x y : ByteArray) : Int := if Op.bytesLess x.toList y.toList then -1 else if x.toList == y.toList then 0 else 1
theorem compare108_any (x y : ByteArray) (w : World) : Calls Try.prog 108 #[.string x, .string y] w fun e w' => e = .returned (.int .i64 (cmpS x y)) ∧ Below w.heap.size w w' := by
  unfold cmpS
  have hx : (x.toList == x.toList) = true := by simp
  have hy : (y.toList == y.toList) = true := by simp
  cases h : Op.bytesLess x.toList y.toList with
  | true =>
    go_enter Try.func108, Try.ntmps108
    go_wp2
    go_ret
    exact ⟨rfl, Below.refl _ _⟩
  | false =>
    cases h2 : (x.toList == y.toList)
    all_goals
      go_enter Try.func108, Try.ntmps108
      go_wp2
      go_ret
      exact ⟨rfl, Below.refl _ _⟩

def meetB (a b : S36) : Bool := decide (a.f1 ≤ b.f3) && (decide (b.f1 ≤ a.f3) && (decide (a.f2 ≤ b.f4) && decide (b.f2 ≤ a.f4)))
theorem meet_any (a b : S36) (w : World) : Calls Try.prog 100 #[eA a, eA b] w fun e w' => e = .returned (.bool (meetB a b)) ∧ Below w.heap.size w w' := by
  unfold meetB eA
  obtain ⟨k, x0, y0, x1, y1⟩ := a
  obtain ⟨k', x0', y0', x1', y1'⟩ := b
  have hB := ((Below.refl w.heap.size w).alloc (Nat.le_refl _) (Obj.cells #[Value.int .u8 k, Value.int .i64 x0, Value.int .i64 y0, Value.int .i64 x1, Value.int .i64 y1] 36)).alloc (by simp) (Obj.cells #[Value.int .u8 k', Value.int .i64 x0', Value.int .i64 y0', Value.int .i64 x1', Value.int .i64 y1'] 36)
  have HB := Aside0.mk hB
  clear hB
  dsimp only
  by_cases h1 : x0 ≤ x1'
  · by_cases h2 : x0' ≤ x1
    · by_cases h3 : y0 ≤ y1'
      · by_cases h4 : y0' ≤ y1
        all_goals
          go_enter Try.func100, Try.ntmps100
          go_wp2
          go_ret
          exact ⟨by simp [h1, h2, h3, h4], HB.out⟩
      · have hd : decide (y0 ≤ y1') = false := decide_eq_false h3
        go_enter Try.func100, Try.ntmps100
        go_wp2
        go_ret
        exact ⟨by simp [h1, h2, hd], HB.out⟩
    · have hd : decide (x0' ≤ x1) = false := decide_eq_false h2
      go_enter Try.func100, Try.ntmps100
      go_wp2
      go_ret
      exact ⟨by simp [h1, hd], HB.out⟩
  · have hd : decide (x0 ≤ x1') = false := decide_eq_false h1
    go_enter Try.func100, Try.ntmps100
    go_wp2
    go_ret
    exact ⟨by simp [hd], HB.out⟩
end Go.Proofs.Ytplhilglokbplaa
namespace Go.Proofs.Ytplhilglokbplaa
open Go.Shelf Go.RowKit Go.Proofs.YtplhilglokbplaaW.PrintWords Go.Proofs.YtplhilglokbplaaW.PrintLast Go.Proofs.YtplhilglokbplaaW.PrintMore PAll
set_option linter.unusedVariables false
set_option linter.unusedSimpArgs false

def coordB (l : List Int) : Bool := l.all fun v => decide (0 ≤ v) && decide (v ≤ 1000)
theorem wrap64_in' (n : Int) (h0 : -9223372036854775808 ≤ n) (h1 : n ≤ 9223372036854775807) : wrap64 n = n := IntWalk.wrap64_in n ⟨h0, h1⟩

theorem coords_f (l : List Int) (hl : l.length ≤ 9223372036854775807) : ∀ (d k : Nat) (i : Int), 0 ≤ i → i ≤ l.length → (l.length : Int) - i = d → d < k →
    area_coordinates.l0 k l (l.length : Int) i = some (coordB (l.drop i.toNat)) := by
  intro d
  induction d with
  | zero =>
    intro k i h0 h1 hd hk
    obtain ⟨k, rfl⟩ : ∃ m, k = m + 1 := ⟨k - 1, by omega⟩
    simp only [area_coordinates.l0]
    rw [if_neg (by omega), List.drop_eq_nil_of_le (by omega)]
    rfl
  | succ d ih =>
    intro k i h0 h1 hd hk
    obtain ⟨k, rfl⟩ : ∃ m, k = m + 1 := ⟨k - 1, by omega⟩
    have hlt : i.toNat < l.length := by omega
    have hr : rd l i = l[i.toNat] := by unfold rd; rw [List.getD_eq_getElem?_getD, List.getElem?_eq_getElem hlt]; rfl
    rw [List.drop_eq_getElem_cons hlt]
    simp only [area_coordinates.l0]
    rw [if_pos (by omega), if_pos h0, if_pos (by omega), hr]
    generalize l[i.toNat] = v
    unfold coordB
    simp only [List.all_cons]
    by_cases c1 : v < 0
    · rw [if_pos c1, decide_eq_false (by omega)]; rfl
    · rw [if_neg c1]
      by_cases c2 : v > 1000
      · rw [if_pos c2, decide_eq_false (p := v ≤ 1000) (by omega)]; simp
      · rw [if_neg c2, wrap64_in' _ (by omega) (by omega), ih k (i + 1) (by omega) (by omega) (by omega) (by omega), decide_eq_true (by omega), decide_eq_true (by omega)]
        rw [show (i + 1).toNat = i.toNat + 1 by omega]
        rfl

theorem coordinates_any (w : World) (A : Option Addr) (c : Nat) (l : List Int) (hr : Kd.C (Kd.int .i64) w A l.length l) (hc : l.length ≤ c) :
    Calls Try.prog 77 #[.slice A l.length c] w fun e w' => e = .returned (.bool (coordB l)) ∧ Below w.heap.size w w' :=
  (area_coordinates.calls (l.length + 1) A c l (coordB l) w hr hc (by
    have := coords_f l hr.2.1 l.length (l.length + 1) 0 (by omega) (by omega) (by omega) (by omega)
    simpa [area_coordinates.f] using this)).mono fun _ _ ⟨he, hd⟩ => ⟨he, hd.below⟩

/-- A row of whole numbers in a block. -/
theorem C_block {w : World} {b : Nat} {e : TypeId} {fr : Nat × Nat} {k : IntKind} (xs : List Int) (h : w.heap[b]? = some (.cells (nums k xs).toArray e fr)) (hl : xs.length ≤ 9223372036854775807) : Kd.C (Kd.int k) w (some ⟨b, 0, none⟩) xs.length xs := by
  refine ⟨rfl, hl, fun _ => ⟨_, rfl, fun j p hj => ⟨[.int k p], rfl, rfl, fun i u hu => ?_⟩⟩⟩
  have hi : i = 0 := by
    rcases i with _ | i
    · rfl
    · simp at hu
  subst hi
  simp at hu
  subst hu
  rw [add_plain]
  have hsz : (Kd.int k).sz = 1 := rfl
  simp [World.cell?, h, nums, hsz, hj]

def pts : S36 → List Int := fun x => [x.f1, x.f2, x.f3, x.f4]
theorem cmpF92 (w0 : World) : CmpF Try.prog w0 eA (fun _ => True) id (fun a b : S36 => cmpI a.f0 b.f0) (.func (.func 92) #[] #[]) := by
  refine ⟨92, #[], rfl, enters_of Try.func92 (by kernel_rfl) rfl, fun w x y hb _ _ => ?_⟩
  rw [Array.append_empty]
  clear hb
  simp only [id]
  obtain ⟨k, x0, y0, x1, y1⟩ := x
  obtain ⟨k', x0', y0', x1', y1'⟩ := y
  unfold eA
  dsimp only
  have hB := ((Below.refl w.heap.size w).alloc (Nat.le_refl _) (Obj.cells #[Value.int .u8 k, Value.int .i64 x0, Value.int .i64 y0, Value.int .i64 x1, Value.int .i64 y1] 36)).alloc (by simp) (Obj.cells #[Value.int .u8 k', Value.int .i64 x0', Value.int .i64 y0', Value.int .i64 x1', Value.int .i64 y1'] 36)
  have HB := Aside0.mk hB
  clear hB
  go_enter Try.func92, Try.ntmps92
  go_wp2_with fail
  refine (compare82_any k k' _).mono ?_
  rintro e w' ⟨rfl, hb'⟩
  have HB' := Aside0.mk hb'
  clear hb'
  go_wp2
  go_ret
  exact ⟨rfl, below_then HB.out HB.out.size HB'.out⟩
theorem predF93 (w0 : World) : PredF Try.prog w0 eA (fun _ => True) id (fun a : S36 => letB a.f0) (.func (.func 93) #[] #[]) := by
  refine ⟨93, #[], rfl, enters_of Try.func93 (by kernel_rfl) rfl, fun w x hb _ => ?_⟩
  rw [Array.append_empty]
  clear hb
  simp only [id]
  obtain ⟨k, x0, y0, x1, y1⟩ := x
  unfold eA
  dsimp only
  have hB := ((Below.refl w.heap.size w).alloc (Nat.le_refl _) (Obj.cells #[Value.int .u8 k, Value.int .i64 x0, Value.int .i64 y0, Value.int .i64 x1, Value.int .i64 y1] 36))
  have HB := Aside0.mk hB
  clear hB
  go_enter Try.func93, Try.ntmps93
  go_wp2_with fail
  refine (letter_any k _).mono ?_
  rintro e w' ⟨rfl, hb'⟩
  have HB' := Aside0.mk hb'
  clear hb'
  go_wp2
  go_ret
  exact ⟨rfl, below_then HB.out HB.out.size HB'.out⟩
theorem predF95 (w0 : World) : PredF Try.prog w0 eA (fun _ => True) id (fun a : S36 => coordB (pts a)) (.func (.func 95) #[] #[]) := by
  refine ⟨95, #[], rfl, enters_of Try.func95 (by kernel_rfl) rfl, fun w x hb _ => ?_⟩
  rw [Array.append_empty]
  clear hb
  simp only [id]
  obtain ⟨k, x0, y0, x1, y1⟩ := x
  unfold eA pts
  dsimp only
  go_enter Try.func95, Try.ntmps95
  go_wp2_with fail
  have hB := ((Below.refl w.heap.size w).alloc (Nat.le_refl _) (Obj.cells #[Value.int .u8 k, Value.int .i64 x0, Value.int .i64 y0, Value.int .i64 x1, Value.int .i64 y1] 36)).alloc (by simp) (Obj.cells #[Value.int .i64 x0, Value.int .i64 y0, Value.int .i64 x1, Value.int .i64 y1] 3)
  have HB := Aside0.mk hB
  clear hB
  generalize hW : ((w.alloc (Obj.cells #[Value.int .u8 k, Value.int .i64 x0, Value.int .i64 y0, Value.int .i64 x1, Value.int .i64 y1] 36)).alloc (Obj.cells #[Value.int .i64 x0, Value.int .i64 y0, Value.int .i64 x1, Value.int .i64 y1] 3)) = W at HB ⊢
  have hcall := coordinates_any W (some ⟨w.heap.size + 1, 0, none⟩) 4 [x0, y0, x1, y1] (C_block (fr := (0, 0)) (e := 3) [x0, y0, x1, y1] (by rw [← hW, show w.heap.size + 1 = (w.alloc (Obj.cells #[Value.int .u8 k, Value.int .i64 x0, Value.int .i64 y0, Value.int .i64 x1, Value.int .i64 y1] 36)).heap.size by simp]; exact heap_alloc_new _ _) (by simp)) (by simp)
  clear hW
  refine hcall.mono ?_
  rintro e w' ⟨rfl, hb'⟩
  have HB' := Aside0.mk hb'
  clear hb' hcall
  go_wp2
  go_ret
  exact ⟨rfl, below_then HB.out HB.out.size HB'.out⟩
theorem predF96 (w0 : World) : PredF Try.prog w0 eA (fun _ => True) id (fun a : S36 => decide (a.f1 ≤ a.f3) && decide (a.f2 ≤ a.f4)) (.func (.func 96) #[] #[]) := by
  refine ⟨96, #[], rfl, enters_of Try.func96 (by kernel_rfl) rfl, fun w x hb _ => ?_⟩
  rw [Array.append_empty]
  clear hb
  simp only [id]
  obtain ⟨k, x0, y0, x1, y1⟩ := x
  unfold eA
  dsimp only
  have hB := ((Below.refl w.heap.size w).alloc (Nat.le_refl _) (Obj.cells #[Value.int .u8 k, Value.int .i64 x0, Value.int .i64 y0, Value.int .i64 x1, Value.int .i64 y1] 36))
  have HB := Aside0.mk hB
  clear hB
  by_cases h1 : x0 ≤ x1
  · by_cases h2 : y0 ≤ y1
    all_goals
      go_enter Try.func96, Try.ntmps96
      go_wp2
      go_ret
      exact ⟨by simp [h1, h2], HB.out⟩
  · have hd : decide (x0 ≤ x1) = false := decide_eq_false h1
    go_enter Try.func96, Try.ntmps96
    go_wp2
    go_ret
    exact ⟨by simp [hd], HB.out⟩
end Go.Proofs.Ytplhilglokbplaa
