/- Touch outside the board's coordinates. -/
import Derived.Test.YtplhilglokbplaaToB
namespace Go.Proofs.Ytplhilglokbplaa
open Go.Shelf Go.RowKit Go.Lib Go.Proofs.YtplhilglokbplaaW.PrintWords Go.Proofs.YtplhilglokbplaaW.PrintLast Go.Proofs.YtplhilglokbplaaW.PrintMore PAll
set_option linter.unusedVariables false
set_option linter.unusedSimpArgs false
theorem touch_out (w : World) (A B C T : Value) (x y : Int) (hA : ∃ a n c, A = .slice a n c) (hB : ∃ a n c, B = .slice a n c) (hC : ∃ a n c, C = .slice a n c) (hxy : coordB [x, y] = false) :
    Calls Try.prog 36 #[.agg #[A, B, C], T, .agg #[.int .i64 x, .int .i64 y]] w fun e w' => Below w.heap.size w w' ∧ e = .returned (.tuple #[.slice none 0 0, .int .i64 1]) := by
  obtain ⟨a1, n1, c1, rfl⟩ := hA
  obtain ⟨a2, n2, c2, rfl⟩ := hB
  obtain ⟨a3, n3, c3, rfl⟩ := hC
  have hw2 : ∃ w2, w2 = (w.alloc (.cells #[.slice a1 n1 c1, .slice a2 n2 c2, .slice a3 n3 c3] 26)).alloc (.cells #[.int .i64 x, .int .i64 y] 89) := ⟨_, rfl⟩
  obtain ⟨w2, hw2⟩ := hw2
  have hp2 := heap_alloc_new (w.alloc (.cells #[.slice a1 n1 c1, .slice a2 n2 c2, .slice a3 n3 c3] 26)) (.cells #[.int .i64 x, .int .i64 y] 89)
  rw [show (w.alloc (Obj.cells #[.slice a1 n1 c1, .slice a2 n2 c2, .slice a3 n3 c3] 26)).heap.size = w.heap.size + 1 by simp] at hp2
  have hB2 : Below w.heap.size w w2 := by rw [hw2]; exact below_alloc (below_alloc (Below.refl _ _) _) _
  rw [← hw2] at hp2
  have hcall : Calls Try.prog 77 #[.slice (some ⟨w2.heap.size, 0, none⟩) 2 2] (w2.alloc (.cells #[.int .i64 x, .int .i64 y] 3)) fun e w' => e = .returned (.bool false) ∧ Below (w2.alloc (.cells #[.int .i64 x, .int .i64 y] 3)).heap.size (w2.alloc (.cells #[.int .i64 x, .int .i64 y] 3)) w' := by
    have := coordinates_any (w2.alloc (.cells #[.int .i64 x, .int .i64 y] 3)) (some ⟨w2.heap.size, 0, none⟩) 2 [x, y] (C_block (fr := (0, 0)) (e := 3) [x, y] (heap_alloc_new w2 (.cells #[.int .i64 x, .int .i64 y] 3)) (by simp)) (by simp)
    rwa [hxy] at this
  have HW := Aside0.mk hw2
  have HB2 := Aside0.mk hB2
  have HCALL := Aside0.mk hcall
  have c0 := blk_cell hp2 0
  have c1 := blk_cell hp2 1
  simp at c0 c1
  clear hxy hB2 hp2 hcall
  go_enter Try.func36, Try.ntmps36
  go_upto_region 1 with fail
  rw [← HW.out]
  clear hw2
  go_wp2_with fail
  refine HCALL.out.mono ?_
  rintro e w3 ⟨rfl, hb3⟩
  have HB3 : Aside0 (Below w2.heap.size w2 w3) := ⟨below_then (below1 _) (below_size (below1 _)) hb3⟩
  clear hb3 c0 c1
  go_wp2
  go_ret2
  exact ⟨below_then HB2.out HB2.out.size HB3.out, rfl⟩
end Go.Proofs.Ytplhilglokbplaa
