/- Touch: what it answers, and an own row of choices as the sort holds it. -/
import Derived.Test.YtplhilglokbplaaSoB
import Derived.Test.YtplhilglokbplaaQa
namespace Go.Proofs.Ytplhilglokbplaa
open Go.Shelf Go.RowKit Go.Lib Go.Proofs.YtplhilglokbplaaW.PrintWords Go.Proofs.YtplhilglokbplaaW.PrintLast Go.Proofs.YtplhilglokbplaaW.PrintMore PAll
open Go.Sort hiding Below
set_option linter.unusedVariables false
set_option linter.unusedSimpArgs false

theorem holds_of_R {w : World} {base : Nat} {ok : Nat → Prop} {v : Value} {xs : List S84} (h : Kd.R k84 84 w base ok v xs) (hn : 0 < xs.length) :
    ∃ g cap, v = .slice (some ⟨g, 0, none⟩) xs.length cap ∧ ok g ∧ g < w.heap.size ∧ HoldsK cH 2 w g 0 xs.toArray := by
  obtain ⟨h0, inner, ⟨hl, hv⟩, hr⟩ := h
  rcases hv with ⟨_, hz⟩ | ⟨g, cap, cur, rfl, hb, hh, hnc, hcm, hcs, ht⟩
  · omega
  refine ⟨g, cap, rfl, h0 g rfl, blk_lt hh, ?_⟩
  intro j hj
  rw [size_flatK] at hj
  simp only [List.size_toArray] at hj
  rw [Nat.zero_add]
  refine ⟨?_, blk_frozen hh j⟩
  rw [blk_cell hh j, get_flatK _ _ _ _ (by simpa using hj)]
  have hlt : j / 2 < xs.length := by omega
  have h1 := k84_openM (hr.2 (j / 2) xs[j / 2] (List.getElem?_eq_getElem hlt))
  have hsz : k84.sz = 2 := rfl
  rw [hsz] at h1 ht hcs hl
  have h2 : cur[j]? = inner[j]? := by
    rw [← ht, List.getElem?_take, if_pos (by omega)]
    simp
  rw [h2]
  have h3 : ((inner.drop (j / 2 * 2)).take 2)[j % 2]? = inner[j]? := by
    rw [List.getElem?_take, if_pos (by omega), List.getElem?_drop]
    congr 1
    omega
  rw [← h3, h1]
  have h4 : xs.toArray[j / 2]! = xs[j / 2] := by simp [hlt]
  rw [h4]
  rcases Nat.mod_two_eq_zero_or_one j with e | e <;> rw [e] <;> rfl

/-! the shift of a key -/
def shiftL : List S103 → Int → Int × Int
  | [], _ => (0, 0)
  | t :: r, key => if t.f0 = key ∧ 4 ≤ t.f3 then (wrap64 (Int.tdiv t.f1 t.f3), wrap64 (Int.tdiv t.f2 t.f3)) else shiftL r key
theorem shift_f (l : List S103) (key : Int) (hl : l.length ≤ 9223372036854775807) : ∀ (d k : Nat) (i : Int), 0 ≤ i → i ≤ l.length → (l.length : Int) - i = d → d < k →
    area_Shift.l0 k key l (l.length : Int) i = some (shiftL (l.drop i.toNat) key) := by
  intro d
  induction d with
  | zero =>
    intro k i h0 h1 hd hk
    obtain ⟨k, rfl⟩ : ∃ m, k = m + 1 := ⟨k - 1, by omega⟩
    simp only [area_Shift.l0]
    rw [if_neg (by omega), List.drop_eq_nil_of_le (by omega)]
    rfl
  | succ d ih =>
    intro k i h0 h1 hd hk
    obtain ⟨k, rfl⟩ : ∃ m, k = m + 1 := ⟨k - 1, by omega⟩
    have hlt : i.toNat < l.length := by omega
    have hr : rd_T103 l i = l[i.toNat] := by unfold rd_T103; rw [List.getD_eq_getElem?_getD, List.getElem?_eq_getElem hlt]; rfl
    rw [List.drop_eq_getElem_cons hlt]
    simp only [area_Shift.l0]
    rw [if_pos (by omega), if_pos h0, if_pos (by omega), hr, wrap64_in' (i + 1) (by omega) (by omega), ih k (i + 1) (by omega) (by omega) (by omega) (by omega), show (i + 1).toNat = i.toNat + 1 by omega]
    generalize l[i.toNat] = t
    rw [shiftL]
    by_cases c1 : t.f0 = key
    · rw [if_pos c1]
      by_cases c2 : t.f3 ≥ 4
      · rw [if_pos c2, if_neg (by omega), if_pos ⟨c1, c2⟩]
      · rw [if_neg c2, if_neg (by rintro ⟨_, h⟩; exact c2 h)]
    · rw [if_neg c1, if_neg (by rintro ⟨h, _⟩; exact c1 h)]
theorem shift_any (w : World) (A : Option Addr) (c : Nat) (l : List S103) (key : Int) (hr : Kd.C k103 w A l.length l) (hc : l.length ≤ c) :
    Calls Try.prog 40 #[.slice A l.length c, .int .u8 key] w fun e w' => e = .returned (.agg #[.int .i64 (shiftL l key).1, .int .i64 (shiftL l key).2]) ∧ Below w.heap.size w w' :=
  area_Shift.calls (l.length + 1) A c l key _ _ w hr hc (by
    have := shift_f l key hr.2.1 l.length (l.length + 1) 0 (by omega) (by omega) (by omega) (by omega)
    simpa [area_Shift.f] using this)
/-- The cost of a touch. -/
def beyondL (v low high : Int) : Int := mx (mx (wrap64 (low - v)) (wrap64 (v - high))) 0
def priceL (a : S36) (s : Int × Int) (x y : Int) : Int :=
  wrap64 (Int.tdiv (wrap64 (wrap64 (beyondL (wrap64 (x - s.1)) a.f1 a.f3 * beyondL (wrap64 (x - s.1)) a.f1 a.f3) + wrap64 (beyondL (wrap64 (y - s.2)) a.f2 a.f4 * beyondL (wrap64 (y - s.2)) a.f2 a.f4))) 16)
theorem price_any (w : World) (a : S36) (s : Int × Int) (x y : Int) :
    Calls Try.prog 87 #[.agg #[.int .u8 a.f0, .int .i64 a.f1, .int .i64 a.f2, .int .i64 a.f3, .int .i64 a.f4], .agg #[.int .i64 s.1, .int .i64 s.2], .agg #[.int .i64 x, .int .i64 y]] w fun e w' => e = .returned (.int .i64 (priceL a s x y)) ∧ Below w.heap.size w w' :=
  area_price.calls _ _ _ _ _ _ _ _ _ _ w rfl
/-- The choice of one area, and the slot of a touch. -/
def choice1 (lt : List S103) (x y : Int) (a : S36) : Option S84 := if priceL a (shiftL lt a.f0) x y ≤ 1000 then some ⟨a.f0, priceL a (shiftL lt a.f0) x y⟩ else none
def slotL (la : List S36) (lt : List S103) (x y : Int) : List S84 := la.filterMap (choice1 lt x y)
theorem slot_rises (la : List S36) (lt : List S103) (x y : Int) (h : la.Pairwise fun a b => a.f0 < b.f0) : Rises (slotL la lt x y) := by
  unfold Rises slotL
  rw [List.pairwise_filterMap]
  refine h.imp fun {a b} hab c hc d hd => ?_
  unfold choice1 at hc hd
  split at hc <;> split at hd <;> simp at hc hd
  subst hc hd
  exact hab
end Go.Proofs.Ytplhilglokbplaa
