/- law21.sanity: the plain values. law21.sanity: the calls it makes, at its own board. -/
import Derived.Test.YtplhilglokbplaaAdB
import Derived.Test.YtplhilglokbplaaAsB
namespace Go.Proofs.Ytplhilglokbplaa
open Go.Shelf Go.RowKit Go.Lib Go.Proofs.YtplhilglokbplaaW.PrintWords Go.Proofs.YtplhilglokbplaaW.PrintLast Go.Proofs.YtplhilglokbplaaW.PrintMore PAll
set_option linter.unusedVariables false
set_option linter.unusedSimpArgs false
/-- The board of two areas. -/
def la2 : List S36 := [⟨97, 0, 0, 9, 9⟩, ⟨98, 10, 0, 19, 9⟩]
theorem two_f : syllabarylaw21_two.f = some (la2, [], []) := rfl
theorem slot_4_4 : slotL la2 [] 4 4 = [⟨97, 0⟩, ⟨98, 2⟩] := by kernel_rfl
theorem slot_30_5 : slotL la2 [] 30 5 = [⟨97, 27⟩, ⟨98, 7⟩] := by kernel_rfl
theorem slot_far : slotL la2 [] 1000 1000 = [] := by kernel_rfl
theorem idx_a : idxF (fun a : S36 => a.f0 == 97) la2 = 0 := by kernel_rfl
theorem idx_c : idxF (fun a : S36 => a.f0 == 99) la2 = -1 := by kernel_rfl
theorem tap_a : (⟨97, wrap64 (0 + wrap64 (7 - (midL (rd_T36 la2 0)).1)), wrap64 (0 + wrap64 (2 - (midL (rd_T36 la2 0)).2)), 1⟩ : S103) = ⟨97, 3, -2, 1⟩ := by kernel_rfl
theorem shift_a : shiftL [⟨97, 13, -9, 4⟩] 97 = (3, -2) := by kernel_rfl
theorem shift_none : shiftL [⟨97, 3, -2, 1⟩] 97 = (0, 0) := by kernel_rfl
theorem two_valid : (areasB la2 && templatesB [] && chordsB []) = true := by kernel_rfl
theorem bad_valid : (areasB [⟨97, 0, 0, 9, 0⟩, ⟨98, 9, 0, 12, 0⟩] && templatesB [] && chordsB []) = false := by kernel_rfl
theorem coord_44 : coordB [4, 4] = true ∧ coordB [30, 5] = true ∧ coordB [1001, 0] = false ∧ coordB [1000, 1000] = true ∧ coordB [7, 2] = true := by decide
theorem two_rises : la2.Pairwise fun p q => p.f0 < q.f0 := by
  unfold la2
  simp
end Go.Proofs.Ytplhilglokbplaa
namespace Go.Proofs.Ytplhilglokbplaa
open Go.Shelf Go.RowKit Go.Lib Go.Proofs.YtplhilglokbplaaW.PrintWords Go.Proofs.YtplhilglokbplaaW.PrintLast Go.Proofs.YtplhilglokbplaaW.PrintMore PAll
set_option linter.unusedVariables false
set_option linter.unusedSimpArgs false

/-- The value of the board of two areas. -/
def boardV (A B C : Option Addr) (a nb b nc c : Nat) : Value := .agg #[.slice A 2 a, .slice B nb b, .slice C nc c]
theorem noTaps (W : World) : Kd.C k103 W none 0 [] := ⟨rfl, by simp, fun h => absurd h (by decide)⟩
theorem touch2 (W : World) (A B C : Option Addr) (a nb b nc c : Nat) (ha : Kd.C k36 W A 2 la2) (x y : Int) (hxy : coordB [x, y] = true) (s : List S84) (hs : slotL la2 [] x y = s) (hne : s ≠ []) :
    Calls Try.prog 36 #[boardV A B C a nb b nc c, .slice none 0 0, .agg #[.int .i64 x, .int .i64 y]] W fun e w' => ∃ v, e = .returned (.tuple #[v, .int .i64 0]) ∧ Kd.R k84 84 w' W.heap.size (fun _ => True) v s ∧ Below W.heap.size W w' :=
  (touch_any W A B C none a nb b nc c 0 la2 [] x y ha (noTaps W) (Nat.le_refl _) hxy (by decide) two_rises).mono fun e w' ⟨hb, h⟩ => by
    rcases h with ⟨h0, _⟩ | ⟨v, _, hr, he⟩
    · rw [hs] at h0; exact absurd h0 hne
    · rw [hs] at hr; exact ⟨v, he, hr, hb⟩
theorem touch2_far (W : World) (A B C : Option Addr) (a nb b nc c : Nat) (ha : Kd.C k36 W A 2 la2) :
    Calls Try.prog 36 #[boardV A B C a nb b nc c, .slice none 0 0, .agg #[.int .i64 1000, .int .i64 1000]] W fun e w' => e = .returned (.tuple #[.slice none 0 0, .int .i64 210]) ∧ Below W.heap.size W w' :=
  (touch_any W A B C none a nb b nc c 0 la2 [] 1000 1000 ha (noTaps W) (Nat.le_refl _) coord_44.2.2.2.1 (by decide) two_rises).mono fun e w' ⟨hb, h⟩ => by
    rcases h with ⟨_, he⟩ | ⟨v, hn, hr, he⟩
    · exact ⟨he, hb⟩
    · exact absurd slot_far hn
theorem adapt2_a (W : World) (A B C : Option Addr) (a nb b nc c : Nat) (ha : Kd.C k36 W A 2 la2) :
    Calls Try.prog 33 #[boardV A B C a nb b nc c, .slice none 0 0, .int .u8 97, .agg #[.int .i64 7, .int .i64 2]] W fun e w' => ∃ v, e = .returned (.tuple #[v, .int .i64 0]) ∧ Kd.R k103 103 w' W.heap.size (fun _ => True) v [⟨97, 3, -2, 1⟩] ∧ Below W.heap.size W w' :=
  (adapt_nil W A B C a nb b nc c la2 97 7 2 ha coord_44.2.2.2.2).mono fun e w' ⟨hb, h⟩ => by
    rw [idx_a] at h
    rcases h with ⟨h0, _⟩ | ⟨_, v, hr, he⟩
    · exact absurd h0 (by decide)
    · rw [tap_a] at hr; exact ⟨v, he, hr, hb⟩
theorem adapt2_c (W : World) (A B C : Option Addr) (a nb b nc c : Nat) (ha : Kd.C k36 W A 2 la2) :
    Calls Try.prog 33 #[boardV A B C a nb b nc c, .slice none 0 0, .int .u8 99, .agg #[.int .i64 7, .int .i64 2]] W fun e w' => e = .returned (.tuple #[.slice none 0 0, .int .i64 210]) ∧ Below W.heap.size W w' :=
  (adapt_nil W A B C a nb b nc c la2 99 7 2 ha coord_44.2.2.2.2).mono fun e w' ⟨hb, h⟩ => by
    rw [idx_c] at h
    rcases h with ⟨_, he⟩ | ⟨h0, _⟩
    · exact ⟨he, hb⟩
    · exact absurd h0 (by decide)
end Go.Proofs.Ytplhilglokbplaa
