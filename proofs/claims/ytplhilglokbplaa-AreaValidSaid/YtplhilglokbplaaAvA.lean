/- law21.AreaValid: its walk. -/
import Derived.Test.YtplhilglokbplaaAvL
import Derived.StillTailTactics
import Derived.Test.YtplhilglokbplaaRgA
namespace Go.Proofs.Ytplhilglokbplaa
open Go.Shelf Go.RowKit Go.Lib Go.Proofs.YtplhilglokbplaaW.PrintWords Go.Proofs.YtplhilglokbplaaW.PrintLast Go.Proofs.YtplhilglokbplaaW.PrintMore PAll
set_option linter.unusedVariables false
set_option linter.unusedSimpArgs false

set_option maxRecDepth 100000 in
set_option maxHeartbeats 4000000 in
theorem area_valid_any (w : World) (A B C : Option Addr) (a b c : Nat) (la : List S36) (lt : List S33) (lc : List S39) (ha : Kd.C k36 w A la.length la) (hca : la.length ≤ a) (ht : Kd.C k33 w B lt.length lt) (hct : lt.length ≤ b) (hc : Kd.C k39 w C lc.length lc) (hcc : lc.length ≤ c) (hs : ∀ i, iC (rd_T39 lc i))
    (L : Option Addr) (cl : Nat) (l : List B2) (hl : Kd.C kB2 w L l.length l) (hB : IsB l) (x0 x1 x2 x3 : Int) (hw0 : -32768 ≤ x0 ∧ x0 ≤ 32767) (hw1 : -32768 ≤ x1 ∧ x1 ≤ 32767) (hw2 : -32768 ≤ x2 ∧ x2 ≤ 32767) (hw3 : -32768 ≤ x3 ∧ x3 ≤ 32767) :
    Calls Try.prog 3 #[.agg #[.slice A la.length a, .slice B lt.length b, .slice C lc.length c], .slice L l.length cl, .agg #[.int .i16 x0, .int .i16 x1, .int .i16 x2, .int .i16 x3]] w fun e w' => e = .returned (.bool true) ∧ Below w.heap.size w w' := by
  have hW : ∃ W2, W2 = (w.alloc (.cells #[.slice A la.length a, .slice B lt.length b, .slice C lc.length c] 26)).alloc (.cells #[.int .i16 x0, .int .i16 x1, .int .i16 x2, .int .i16 x3] 29) := ⟨_, rfl⟩
  obtain ⟨W2, hW⟩ := hW
  have hb2 := blk_alloc (heap_alloc_new w (.cells #[.slice A la.length a, .slice B lt.length b, .slice C lc.length c] 26)) (.cells #[.int .i16 x0, .int .i16 x1, .int .i16 x2, .int .i16 x3] 29)
  have hp2 := heap_alloc_new (w.alloc (.cells #[.slice A la.length a, .slice B lt.length b, .slice C lc.length c] 26)) (.cells #[.int .i16 x0, .int .i16 x1, .int .i16 x2, .int .i16 x3] 29)
  rw [show (w.alloc (.cells #[.slice A la.length a, .slice B lt.length b, .slice C lc.length c] 26)).heap.size = w.heap.size + 1 by simp] at hp2
  have hB2 : Below w.heap.size w W2 := by rw [hW]; exact below2 _ _
  rw [← hW] at hb2 hp2
  have HW := Aside0.mk hW
  have HB2 := Aside0.mk hB2
  have HBB := Aside0.mk hb2
  have HPP := Aside0.mk hp2
  have HA := Aside0.mk ha
  have HCA := Aside0.mk hca
  have HT := Aside0.mk ht
  have HCT := Aside0.mk hct
  have HC := Aside0.mk hc
  have HCC := Aside0.mk hcc
  have HS := Aside0.mk hs
  have HL := Aside0.mk hl
  have HIB := Aside0.mk hB
  have H0 := Aside0.mk hw0
  have H1 := Aside0.mk hw1
  have H2 := Aside0.mk hw2
  have H3 := Aside0.mk hw3
  have hla := ha.2.1
  have hlt := ht.2.1
  have hlc := hc.2.1
  clear ha hca ht hct hc hcc hs hl hB hw0 hw1 hw2 hw3 hB2 hb2 hp2
  go_enter Try.func3, Try.ntmps3
  go_wp2_with fail
  rw [← HW.out]
  clear hW
  refine (sanity_any _).mono ?_
  rintro e W3 ⟨rfl, hb3⟩
  have HB3 := Aside0.mk hb3
  have HBB3 := Aside0.mk (blk_below HBB.out hb3)
  have HPP3 := Aside0.mk (blk_below HPP.out hb3)
  have HB03 := Aside0.mk (below_then HB2.out HB2.out.size hb3)
  clear hb3
  have c0 : W3.cell? ⟨w.heap.size, 0, none⟩ = some (.slice A la.length a) := (blk_cell HBB3.out 0).trans rfl
  have c1 : W3.cell? ⟨w.heap.size, 1, none⟩ = some (.slice B lt.length b) := (blk_cell HBB3.out 1).trans rfl
  have c2 : W3.cell? ⟨w.heap.size, 2, none⟩ = some (.slice C lc.length c) := (blk_cell HBB3.out 2).trans rfl
  rcases Nat.lt_or_ge 6 la.length with h6 | h6
  · have d1 : decide (6 < (la.length : Int)) = true := decide_eq_true (by omega)
    clear h6
    go_wp2
    go_ret
    exact ⟨rfl, HB03.out⟩
  rcases Nat.lt_or_ge 6 lt.length with h7 | h7
  · have d1 : decide (6 < (la.length : Int)) = false := decide_eq_false (by omega)
    have d2 : decide (6 < (lt.length : Int)) = true := decide_eq_true (by omega)
    clear h6 h7
    go_wp2
    go_ret
    exact ⟨rfl, HB03.out⟩
  rcases Nat.lt_or_ge 6 lc.length with h8 | h8
  · have d1 : decide (6 < (la.length : Int)) = false := decide_eq_false (by omega)
    have d2 : decide (6 < (lt.length : Int)) = false := decide_eq_false (by omega)
    have d3 : decide (6 < (lc.length : Int)) = true := decide_eq_true (by omega)
    clear h6 h7 h8
    go_wp2
    go_ret
    exact ⟨rfl, HB03.out⟩
  have d1 : decide (6 < (la.length : Int)) = false := decide_eq_false (by omega)
  have d2 : decide (6 < (lt.length : Int)) = false := decide_eq_false (by omega)
  have d3 : decide (6 < (lc.length : Int)) = false := decide_eq_false (by omega)
  clear h6 h7 h8
  go_wp2
  go_loopg [8] lt.length (fun gg v8 wr => ∃ (i : Nat) (I : Int), v8 = .int .i64 I ∧ Aside0 (I = (i : Int)) ∧ Aside0 (i ≤ lt.length) ∧ Aside0 (lt.length - i ≤ gg) ∧ wr = W3)
  case atStart => exact ⟨0, 0, rfl, ⟨rfl⟩, ⟨by omega⟩, ⟨by omega⟩, rfl⟩
  case round =>
    obtain ⟨i, I, rfl, HI, HIL, HG, rfl⟩ := hrel
    clear d1 d2 d3
    have eI := HI.out
    rcases Int.lt_or_le I lt.length with hlt2 | hlt2
    · have d1 : decide (I < (lt.length : Int)) = true := decide_eq_true hlt2
      have i0 : (0 : Int) ≤ I := by omega
      obtain ⟨ad, A1, k1, e, hx0, hx1, hle, hC1⟩ := at_T33 HT.out I i0 hlt2
      cases e
      replace hx1 := (HB03.out.cell (World.block_lt_of_cell? w _ hx1)).trans hx1
      have hat : I.toNat = i := by omega
      rw [hat] at hx1
      generalize har : rd_T33 lt I = r at hx1 hle hC1
      have hrl := hC1.2.1
      clear hx0 hle hC1 eI har
      rcases Nat.lt_or_ge 14 r.f1.length with h14 | h14
      · have d2 : decide (14 < (r.f1.length : Int)) = true := decide_eq_true (by omega)
        clear h14
        go_wp2
        go_ret
        exact ⟨rfl, HB03.out⟩
      · have d2 : decide (14 < (r.f1.length : Int)) = false := decide_eq_false (by omega)
        clear h14
        go_wp2
        go_roundg (gk - 1)
        case measure => have h1 := HG.out; have h3 := HI.out; omega
        case rel => exact ⟨i + 1, I + 1, rfl, ⟨by have := HI.out; omega⟩, ⟨by have := HI.out; omega⟩, ⟨by have := HI.out; have := HG.out; omega⟩, rfl⟩
    · have d1 : decide (I < (lt.length : Int)) = false := decide_eq_false (by omega)
      clear hlt2 eI HI HIL HG
      go_wp2_with fail
      refine (made_any wr L cl l (Kd.C_below HL.out HB03.out) HIB.out).mono ?_
      rintro e W5 ⟨A', c', T, rfl, hM⟩
      have HM := Aside0.mk (board_made hM)
      have hml := HM.out.2.1.2.1
      have HB5 := Aside0.mk hM.1
      have HML := Aside0.mk (made_length l)
      generalize made l = l0 at HM hml HML ⊢
      generalize wr.heap.size + 1 = ch at HM ⊢
      clear hM c0 c1 c2 d1
      go_upto_if 51 with fail
      have hW6 : ∃ W6, W6 = W5.alloc (.cells #[.slice A' l0.length c', .slice (some ⟨T, 0, none⟩) 2 2, .slice (some ⟨ch, 0, none⟩) 2 2] 26) := ⟨_, rfl⟩
      obtain ⟨W6, hW6⟩ := hW6
      have hM := HM.out
      rw [← hW6] at hM ⊢
      have HM6 := Aside0.mk hM
      have HB6 : Aside0 (Below wr.heap.size wr W6) := ⟨by rw [hW6]; exact below_alloc HB5.out _⟩
      have hz6 : W5.heap.size < W6.heap.size := by rw [hW6]; simp
      have hB5 := HB5.out.size
      clear hW6 hM HM
      generalize W5.heap.size = g5 at hz6 hB5 HM6 ⊢
      go_cut [10] from 51 to 112 (fun v10 wx => ∃ (A2 : Option Addr) (c2 : Nat) (l2 : List S36), Aside0 (BoardIn wx g5 A2 c2 T ch l2) ∧ Aside0 (Below wr.heap.size wr wx))
      case first =>
        -- FIRST BEGIN
        rcases Nat.lt_or_ge 0 l0.length with h0 | h0
        rotate_left
        · go_wp2
          go_meet
          case rel => exact ⟨A', c', l0, HM6, HB6⟩
        · have HN := Aside0.mk h0
          have k0 := blk_cell (blk_alloc HM6.out.1 (.cells #[] 36)) 0
          simp at k0
          have HAA := Aside0.mk (Kd.C_below HM6.out.2.1 (below1 (.cells #[] 36)))
          have HBG := Aside0.mk (blk_alloc HM6.out.1 (.cells #[] 36))
          go_upto_region 12 with (at_builtin; go_loud (refine Kd.R_append_rows k36 (Rr := k36.K (W6.alloc (.cells #[] 36))) (w0 := W6) W6.heap.size rfl (.tmp 52) (.tmp 54) 22 36 (.agg #[.int .u8 0, .int .i64 0, .int .i64 0, .int .i64 0, .int .i64 0]) 40 rfl Try.underlying22 info36' rfl (by decide) (by omega) (.slice (some ⟨W6.heap.size, 0, none⟩) 0 0) [] l0 A' l0.length c' (fun _ => True) (fun _ => False) rfl rfl ?aO ?aR ?aK (fun _ hk => hk.elim) ?aF ?aB ?aS ?aL ?_); (case aO => exact R_empty36 W6); (case aR => exact HAA.out); (case aK => exact k36_KM); (case aF => exact fun _ _ => trivial); (case aB => exact below1 _); (case aS => simp); (case aL => have := HML.out; simp; omega); intro v1 wa ho2 hb2 hg2 hat2; (have HO5 := Aside0.mk ho2); (have HB7 := Aside0.mk hb2); obtain ⟨A2, c2, rfl⟩ := Kd.R_slice ho2; (have k1 := blk_cell (blk_below HM6.out.1 hb2) 0); (have f1 := blk_frozen (blk_below HM6.out.1 hb2) 0); simp at k1; clear ho2 hb2 hg2 hat2 k0)
          have hW8 : ∃ W8, W8 = wa.setCell ⟨g5, 0, none⟩ (.slice A2 l0.length c2) := ⟨_, rfl⟩
          obtain ⟨W8, hW8⟩ := hW8
          have hg5 := blk_below HM6.out.1 HB7.out
          have hb8 := blk_set hg5 0 (.slice A2 l0.length c2)
          have ho8 := Kd.R_set HO5.out hg5 (by decide) 0 (.slice A2 l0.length c2)
          have hp8 := blk_far (p := ⟨g5, 0, none⟩) (blk_below (blk_below HPP3.out HB6.out) HB7.out) (by have := blk_lt HPP3.out; dsimp only; omega) (.slice A2 l0.length c2)
          have hB8 : Below wr.heap.size wr (wa.setCell ⟨g5, 0, none⟩ (.slice A2 l0.length c2)) := (below_then HB6.out HB6.out.size HB7.out).setCell (by exact hB5) _
          have ht8 : ∃ P1 P2, TplIn (wa.setCell ⟨g5, 0, none⟩ (.slice A2 l0.length c2)) T P1 P2 ch := by
            obtain ⟨P1, P2, h⟩ := HM6.out.2.2.2
            exact ⟨P1, P2, tpl_set (tpl_below h HB7.out) hg5 (Or.inl rfl) _ _⟩
          rw [← hW8] at hb8 ho8 hp8 hB8 ht8 ⊢
          have HT8' := Aside0.mk ht8
          have HO8 := Aside0.mk ho8
          have HG8 := Aside0.mk hb8
          have HP8 := Aside0.mk hp8
          have HB8 := Aside0.mk hB8
          clear hW8 hg5 hb8 ho8 hp8 hB8 ht8 k1 f1
          have k0 := (blk_cell HG8.out 0).trans rfl
          have p0 := (blk_cell HP8.out 0).trans rfl
          go_wp2
          have hK0 : 0 ≤ x0 % 256 % (l0.length : Int) := Int.emod_nonneg _ (by omega)
          have hK1 : x0 % 256 % (l0.length : Int) < l0.length := Int.emod_lt_of_pos _ (by omega)
          generalize x0 % 256 % (l0.length : Int) = KI at hK0 hK1 ⊢
          obtain ⟨g, cap, cur, hv8, hgb, hh8, hcap, hcs, hmx, hcur⟩ := row36_open HO8.out h0
          cases hv8
          have hKn : KI.toNat < l0.length := by omega
          obtain ⟨e0, e1, e2, e3, e4⟩ := hcur KI.toNat _ (List.getElem?_eq_getElem hKn)
          generalize l0[KI.toNat] = r8 at e0 e1 e2 e3 e4
          have p1 := (blk_cell HP8.out 1).trans rfl
          have p2 := (blk_cell HP8.out 2).trans rfl
          have p3 := (blk_cell HP8.out 3).trans rfl
          have q0 := (blk_cell hh8 (KI.toNat * 5)).trans e0
          have q1 := (blk_cell hh8 (KI.toNat * 5 + 1)).trans e1
          have q3 := (blk_cell hh8 (KI.toNat * 5 + 3)).trans e3
          have ff := blk_frozen hh8
          have HH8 := Aside0.mk hh8
          have HCU := Aside0.mk hcur
          have HMX := Aside0.mk hmx
          have HCP := Aside0.mk hcap
          have HT8 : Aside0 (∃ P1 P2, TplIn W8 T P1 P2 ch) := HT8'
          clear hh8 hcur hmx e0 e1 e2 e3 e4 hcap hcs p0
          have p0 := (blk_cell HP8.out 0).trans rfl
          obtain ⟨S1, hS1⟩ : ∃ S : World → Prop, S = fun W' => W'.cell? ⟨g5, 0, none⟩ = some (.slice (some ⟨g, 0, none⟩) l0.length c2) ∧ W'.cell? ⟨w.heap.size + 1, 1, none⟩ = some (.int .i16 x1) ∧ W'.cell? ⟨w.heap.size + 1, 2, none⟩ = some (.int .i16 x2) ∧ W'.cell? ⟨w.heap.size + 1, 3, none⟩ = some (.int .i16 x3) := ⟨_, rfl⟩
          obtain ⟨S2, hS2⟩ : ∃ S : World → Prop, S = fun W' => W'.cell? ⟨g, KI.toNat * 5, none⟩ = some (.int .u8 r8.f0) ∧ W'.cell? ⟨g, KI.toNat * 5 + 1, none⟩ = some (.int .i64 r8.f1) ∧ W'.cell? ⟨g, KI.toNat * 5 + 3, none⟩ = some (.int .i64 r8.f3) := ⟨_, rfl⟩
          obtain ⟨RR, hRR⟩ : ∃ R : Nat → World → World → Prop, R = fun i W W' => (S1 W → S1 W') ∧ (i ∉ [44, 47, 50] → S2 W → S2 W') := ⟨_, rfl⟩
          have HS1 : Aside0 (S1 W8.drew) := ⟨by rw [hS1]; exact ⟨k0, p1, p2, p3⟩⟩
          have HS2 : Aside0 (S2 W8.drew) := ⟨by rw [hS2]; exact ⟨q0, q1, q3⟩⟩
          have HS1e : Aside0 (∀ W', S1 W' → W'.cell? ⟨g5, 0, none⟩ = some (.slice (some ⟨g, 0, none⟩) l0.length c2) ∧ W'.cell? ⟨w.heap.size + 1, 1, none⟩ = some (.int .i16 x1) ∧ W'.cell? ⟨w.heap.size + 1, 2, none⟩ = some (.int .i16 x2) ∧ W'.cell? ⟨w.heap.size + 1, 3, none⟩ = some (.int .i16 x3)) := ⟨fun W' h => by rw [hS1] at h; exact h⟩
          have HS2e : Aside0 (∀ W', S2 W' → W'.cell? ⟨g, KI.toNat * 5, none⟩ = some (.int .u8 r8.f0) ∧ W'.cell? ⟨g, KI.toNat * 5 + 1, none⟩ = some (.int .i64 r8.f1) ∧ W'.cell? ⟨g, KI.toNat * 5 + 3, none⟩ = some (.int .i64 r8.f3)) := ⟨fun W' h => by rw [hS2] at h; exact h⟩
          have hRr : ∀ i W, RR i W W := fun i W => by rw [hRR]; exact ⟨id, fun _ => id⟩
          have hR1 : ∀ (j : Nat) W W', j ∉ ([] : List Nat) → RR j W W' → S1 W → S1 W' := fun j W W' _ h => by rw [hRR] at h; exact h.1
          have hR2 : ∀ (j : Nat) W W', j ∉ [44, 47, 50] → RR j W W' → S2 W → S2 W' := fun j W W' hj h => by rw [hRR] at h; exact h.2 hj
          have hne5 : g5 ≠ g := by omega
          have hne1 : w.heap.size + 1 ≠ g := by have := blk_lt HPP3.out; have := HB6.out.size; omega
          have hkeep : ∀ (j : Nat) W (i : Nat) u, j ∈ [44, 47, 50] → RR j W (W.setCell ⟨g, i, none⟩ u) := fun j W i u hj => by
            rw [hRR]
            refine ⟨fun h => ?_, fun h => absurd hj h⟩
            rw [hS1] at h ⊢
            have e5 : ∀ o, (W.setCell ⟨g, i, none⟩ u).cell? ⟨g5, o, none⟩ = W.cell? ⟨g5, o, none⟩ := fun o => World.cell?_of_block (Below.heap_setCell _ _ _ _ hne5)
            have e1 : ∀ o, (W.setCell ⟨g, i, none⟩ u).cell? ⟨w.heap.size + 1, o, none⟩ = W.cell? ⟨w.heap.size + 1, o, none⟩ := fun o => World.cell?_of_block (Below.heap_setCell _ _ _ _ hne1)
            exact ⟨(e5 0).trans h.1, (e1 1).trans h.2.1, (e1 2).trans h.2.2.1, (e1 3).trans h.2.2.2⟩
          clear hRR hS1 hS2 k0 p0 p1 p2 p3
          refine startR_ (n := 51) (R := RR) #[false, false, false, false, false, false, false, false, false, false, false, false, false, false, false, false, false, false, false, false, false, false, false, false, false, false, false, false, false, false, false, false, false, false, false, false, false, false, false, false, false, false, false, false, false, false, false, false, false, false, false] (by kernel_rfl) rfl rfl ?_
          refine takeR_ (i := 0) (N := some 65) (v := ?_) (a' := ?_) #[true, false, false, false, false, false, false, false, false, false, false, false, false, false, false, false, false, false, false, false, false, false, false, false, false, false, false, false, false, false, false, false, false, false, false, false, false, false, false, false, false, false, false, false, false, false, false, false, false, false, false] (fun _ => True) [] hRr (fun _ _ _ _ _ _ => trivial) rfl rfl (by kernel_rfl) (fun _ _ _ h => h) (Or.inl ⟨by rfl, ?_⟩) trivial ?_ ?_
          rotate_left
          · intro w' _
            go_simp
            with_reducible rfl
          rotate_left
          · simp only [Act.put, List.setIfInBounds_toArray, List.set_cons_zero, List.set_cons_succ, i64_w, i32_w]
            rfl
          refine takeR_ (i := 2) (N := some 67) (v := ?_) (a' := ?_) #[true, false, true, false, false, false, false, false, false, false, false, false, false, false, false, false, false, false, false, false, false, false, false, false, false, false, false, false, false, false, false, false, false, false, false, false, false, false, false, false, false, false, false, false, false, false, false, false, false, false, false] (fun _ => True) [] hRr (fun _ _ _ _ _ _ => trivial) rfl rfl (by kernel_rfl) (fun _ _ _ h => h) (Or.inl ⟨by rfl, ?_⟩) trivial ?_ ?_
          rotate_left
          · intro w' _
            go_simp
            with_reducible rfl
          rotate_left
          · simp only [Act.put, List.setIfInBounds_toArray, List.set_cons_zero, List.set_cons_succ, i64_w, i32_w]
            rfl
          refine takeR_ (i := 3) (N := some 68) (v := ?_) (a' := ?_) #[true, false, true, true, false, false, false, false, false, false, false, false, false, false, false, false, false, false, false, false, false, false, false, false, false, false, false, false, false, false, false, false, false, false, false, false, false, false, false, false, false, false, false, false, false, false, false, false, false, false, false] (fun _ => True) [] hRr (fun _ _ _ _ _ _ => trivial) rfl rfl (by kernel_rfl) (fun _ _ _ h => h) (Or.inl ⟨by rfl, ?_⟩) trivial ?_ ?_
          rotate_left
          · intro w' _
            go_simp
            with_reducible rfl
          rotate_left
          · simp only [Act.put, List.setIfInBounds_toArray, List.set_cons_zero, List.set_cons_succ, i64_w, i32_w]
            rfl
          refine takeR_ (i := 5) (N := some 70) (v := ?_) (a' := ?_) #[true, false, true, true, false, true, false, false, false, false, false, false, false, false, false, false, false, false, false, false, false, false, false, false, false, false, false, false, false, false, false, false, false, false, false, false, false, false, false, false, false, false, false, false, false, false, false, false, false, false, false] (fun _ => True) [] hRr (fun _ _ _ _ _ _ => trivial) rfl rfl (by kernel_rfl) (fun _ _ _ h => h) (Or.inl ⟨by rfl, ?_⟩) trivial ?_ ?_
          rotate_left
          · intro w' _
            go_simp
            with_reducible rfl
          rotate_left
          · simp only [Act.put, List.setIfInBounds_toArray, List.set_cons_zero, List.set_cons_succ, i64_w, i32_w]
            rfl
          refine takeR_ (i := 6) (N := some 71) (v := ?_) (a' := ?_) #[true, false, true, true, false, true, true, false, false, false, false, false, false, false, false, false, false, false, false, false, false, false, false, false, false, false, false, false, false, false, false, false, false, false, false, false, false, false, false, false, false, false, false, false, false, false, false, false, false, false, false] (fun _ => True) [] hRr (fun _ _ _ _ _ _ => trivial) rfl rfl (by kernel_rfl) (fun _ _ _ h => h) (Or.inl ⟨by rfl, ?_⟩) trivial ?_ ?_
          rotate_left
          · intro w' _
            go_simp
            with_reducible rfl
          rotate_left
          · simp only [Act.put, List.setIfInBounds_toArray, List.set_cons_zero, List.set_cons_succ, i64_w, i32_w]
            rfl
          refine takeR_ (i := 8) (N := some 73) (v := ?_) (a' := ?_) #[true, false, true, true, false, true, true, false, true, false, false, false, false, false, false, false, false, false, false, false, false, false, false, false, false, false, false, false, false, false, false, false, false, false, false, false, false, false, false, false, false, false, false, false, false, false, false, false, false, false, false] (fun _ => True) [] hRr (fun _ _ _ _ _ _ => trivial) rfl rfl (by kernel_rfl) (fun _ _ _ h => h) (Or.inl ⟨by rfl, ?_⟩) trivial ?_ ?_
          rotate_left
          · intro w' _
            go_simp
            with_reducible rfl
          rotate_left
          · simp only [Act.put, List.setIfInBounds_toArray, List.set_cons_zero, List.set_cons_succ, i64_w, i32_w]
            rfl
          refine takeR_ (i := 9) (N := some 74) (v := ?_) (a' := ?_) #[true, false, true, true, false, true, true, false, true, true, false, false, false, false, false, false, false, false, false, false, false, false, false, false, false, false, false, false, false, false, false, false, false, false, false, false, false, false, false, false, false, false, false, false, false, false, false, false, false, false, false] (fun _ => True) [] hRr (fun _ _ _ _ _ _ => trivial) rfl rfl (by kernel_rfl) (fun _ _ _ h => h) (Or.inl ⟨by rfl, ?_⟩) trivial ?_ ?_
          rotate_left
          · intro w' _
            go_simp
            with_reducible rfl
          rotate_left
          · simp only [Act.put, List.setIfInBounds_toArray, List.set_cons_zero, List.set_cons_succ, i64_w, i32_w]
            rfl
          refine takeR_ (i := 11) (N := some 76) (v := ?_) (a' := ?_) #[true, false, true, true, false, true, true, false, true, true, false, true, false, false, false, false, false, false, false, false, false, false, false, false, false, false, false, false, false, false, false, false, false, false, false, false, false, false, false, false, false, false, false, false, false, false, false, false, false, false, false] (fun _ => True) [] hRr (fun _ _ _ _ _ _ => trivial) rfl rfl (by kernel_rfl) (fun _ _ _ h => h) (Or.inl ⟨by rfl, ?_⟩) trivial ?_ ?_
          rotate_left
          · intro w' _
            go_simp
            with_reducible rfl
          rotate_left
          · simp only [Act.put, List.setIfInBounds_toArray, List.set_cons_zero, List.set_cons_succ, i64_w, i32_w]
            rfl
          refine takeR_ (i := 15) (N := some 80) (v := ?_) (a' := ?_) #[true, false, true, true, false, true, true, false, true, true, false, true, false, false, false, true, false, false, false, false, false, false, false, false, false, false, false, false, false, false, false, false, false, false, false, false, false, false, false, false, false, false, false, false, false, false, false, false, false, false, false] (fun _ => True) [] hRr (fun _ _ _ _ _ _ => trivial) rfl rfl (by kernel_rfl) (fun _ _ _ h => h) (Or.inl ⟨by rfl, ?_⟩) trivial ?_ ?_
          rotate_left
          · intro w' _
            go_simp
            with_reducible rfl
          rotate_left
          · simp only [Act.put, List.setIfInBounds_toArray, List.set_cons_zero, List.set_cons_succ, i64_w, i32_w]
            rfl
          refine takeR_ (i := 20) (N := some 85) (v := ?_) (a' := ?_) #[true, false, true, true, false, true, true, false, true, true, false, true, false, false, false, true, false, false, false, false, true, false, false, false, false, false, false, false, false, false, false, false, false, false, false, false, false, false, false, false, false, false, false, false, false, false, false, false, false, false, false] (fun _ => True) [] hRr (fun _ _ _ _ _ _ => trivial) rfl rfl (by kernel_rfl) (fun _ _ _ h => h) (Or.inl ⟨by rfl, ?_⟩) trivial ?_ ?_
          rotate_left
          · intro w' _
            go_simp
            with_reducible rfl
          rotate_left
          · simp only [Act.put, List.setIfInBounds_toArray, List.set_cons_zero, List.set_cons_succ, i64_w, i32_w]
            rfl
          refine takeR_ (i := 22) (N := some 87) (v := ?_) (a' := ?_) #[true, false, true, true, false, true, true, false, true, true, false, true, false, false, false, true, false, false, false, false, true, false, true, false, false, false, false, false, false, false, false, false, false, false, false, false, false, false, false, false, false, false, false, false, false, false, false, false, false, false, false] (fun _ => True) [] hRr (fun _ _ _ _ _ _ => trivial) rfl rfl (by kernel_rfl) (fun _ _ _ h => h) (Or.inl ⟨by rfl, ?_⟩) trivial ?_ ?_
          rotate_left
          · intro w' _
            go_simp
            with_reducible rfl
          rotate_left
          · simp only [Act.put, List.setIfInBounds_toArray, List.set_cons_zero, List.set_cons_succ, i64_w, i32_w]
            rfl
          refine takeR_ (i := 26) (N := some 91) (v := ?_) (a' := ?_) #[true, false, true, true, false, true, true, false, true, true, false, true, false, false, false, true, false, false, false, false, true, false, true, false, false, false, true, false, false, false, false, false, false, false, false, false, false, false, false, false, false, false, false, false, false, false, false, false, false, false, false] (fun _ => True) [] hRr (fun _ _ _ _ _ _ => trivial) rfl rfl (by kernel_rfl) (fun _ _ _ h => h) (Or.inl ⟨by rfl, ?_⟩) trivial ?_ ?_
          rotate_left
          · intro w' _
            go_simp
            with_reducible rfl
          rotate_left
          · simp only [Act.put, List.setIfInBounds_toArray, List.set_cons_zero, List.set_cons_succ, i64_w, i32_w]
            rfl
          refine takeR_ (i := 31) (N := some 96) (v := ?_) (a' := ?_) #[true, false, true, true, false, true, true, false, true, true, false, true, false, false, false, true, false, false, false, false, true, false, true, false, false, false, true, false, false, false, false, true, false, false, false, false, false, false, false, false, false, false, false, false, false, false, false, false, false, false, false] (fun _ => True) [] hRr (fun _ _ _ _ _ _ => trivial) rfl rfl (by kernel_rfl) (fun _ _ _ h => h) (Or.inl ⟨by rfl, ?_⟩) trivial ?_ ?_
          rotate_left
          · intro w' _
            go_simp
            with_reducible rfl
          rotate_left
          · simp only [Act.put, List.setIfInBounds_toArray, List.set_cons_zero, List.set_cons_succ, i64_w, i32_w]
            rfl
          refine takeR_ (i := 33) (N := some 98) (v := ?_) (a' := ?_) #[true, false, true, true, false, true, true, false, true, true, false, true, false, false, false, true, false, false, false, false, true, false, true, false, false, false, true, false, false, false, false, true, false, true, false, false, false, false, false, false, false, false, false, false, false, false, false, false, false, false, false] (fun _ => True) [] hRr (fun _ _ _ _ _ _ => trivial) rfl rfl (by kernel_rfl) (fun _ _ _ h => h) (Or.inl ⟨by rfl, ?_⟩) trivial ?_ ?_
          rotate_left
          · intro w' _
            go_simp
            with_reducible rfl
          rotate_left
          · simp only [Act.put, List.setIfInBounds_toArray, List.set_cons_zero, List.set_cons_succ, i64_w, i32_w]
            rfl
          refine takeR_ (i := 37) (N := some 102) (v := ?_) (a' := ?_) #[true, false, true, true, false, true, true, false, true, true, false, true, false, false, false, true, false, false, false, false, true, false, true, false, false, false, true, false, false, false, false, true, false, true, false, false, false, true, false, false, false, false, false, false, false, false, false, false, false, false, false] (fun _ => True) [] hRr (fun _ _ _ _ _ _ => trivial) rfl rfl (by kernel_rfl) (fun _ _ _ h => h) (Or.inl ⟨by rfl, ?_⟩) trivial ?_ ?_
          rotate_left
          · intro w' _
            go_simp
            with_reducible rfl
          rotate_left
          · simp only [Act.put, List.setIfInBounds_toArray, List.set_cons_zero, List.set_cons_succ, i64_w, i32_w]
            rfl
          refine takeR_ (i := 1) (N := some 66) (v := ?_) (a' := ?_) #[true, true, true, true, false, true, true, false, true, true, false, true, false, false, false, true, false, false, false, false, true, false, true, false, false, false, true, false, false, false, false, true, false, true, false, false, false, true, false, false, false, false, false, false, false, false, false, false, false, false, false] (S1) [] hRr hR1 rfl rfl (by kernel_rfl) (fun _ _ _ h => h) (Or.inl ⟨by rfl, ?_⟩) HS1.out ?_ ?_
          rotate_left
          · intro w' hs; obtain ⟨s0, s1, s2, s3⟩ := HS1e.out w' hs; clear hs
            go_simp
            with_reducible rfl
          rotate_left
          · simp only [Act.put, List.setIfInBounds_toArray, List.set_cons_zero, List.set_cons_succ, i64_w, i32_w]
            rfl
          refine takeR_ (i := 4) (N := some 69) (v := ?_) (a' := ?_) #[true, true, true, true, true, true, true, false, true, true, false, true, false, false, false, true, false, false, false, false, true, false, true, false, false, false, true, false, false, false, false, true, false, true, false, false, false, true, false, false, false, false, false, false, false, false, false, false, false, false, false] (S1) [] hRr hR1 rfl rfl (by kernel_rfl) (fun _ _ _ h => h) (Or.inl ⟨by rfl, ?_⟩) HS1.out ?_ ?_
          rotate_left
          · intro w' hs; obtain ⟨s0, s1, s2, s3⟩ := HS1e.out w' hs; clear hs
            go_simp
            with_reducible rfl
          rotate_left
          · simp only [Act.put, List.setIfInBounds_toArray, List.set_cons_zero, List.set_cons_succ, i64_w, i32_w]
            rfl
          refine takeR_ (i := 7) (N := some 72) (v := ?_) (a' := ?_) #[true, true, true, true, true, true, true, true, true, true, false, true, false, false, false, true, false, false, false, false, true, false, true, false, false, false, true, false, false, false, false, true, false, true, false, false, false, true, false, false, false, false, false, false, false, false, false, false, false, false, false] (S1) [] hRr hR1 rfl rfl (by kernel_rfl) (fun _ _ _ h => h) (Or.inl ⟨by rfl, ?_⟩) HS1.out ?_ ?_
          rotate_left
          · intro w' hs; obtain ⟨s0, s1, s2, s3⟩ := HS1e.out w' hs; clear hs
            go_simp
            with_reducible rfl
          rotate_left
          · simp only [Act.put, List.setIfInBounds_toArray, List.set_cons_zero, List.set_cons_succ, i64_w, i32_w]
            rfl
          refine takeR_ (i := 10) (N := some 75) (v := ?_) (a' := ?_) #[true, true, true, true, true, true, true, true, true, true, true, true, false, false, false, true, false, false, false, false, true, false, true, false, false, false, true, false, false, false, false, true, false, true, false, false, false, true, false, false, false, false, false, false, false, false, false, false, false, false, false] (S1) [] hRr hR1 rfl rfl (by kernel_rfl) (fun _ _ _ h => h) (Or.inl ⟨by rfl, ?_⟩) HS1.out ?_ ?_
          rotate_left
          · intro w' hs; obtain ⟨s0, s1, s2, s3⟩ := HS1e.out w' hs; clear hs
            go_simp
            with_reducible rfl
          rotate_left
          · simp only [Act.put, List.setIfInBounds_toArray, List.set_cons_zero, List.set_cons_succ, i64_w, i32_w]
            rfl
          refine takeR_ (i := 12) (N := some 77) (v := ?_) (a' := ?_) #[true, true, true, true, true, true, true, true, true, true, true, true, true, false, false, true, false, false, false, false, true, false, true, false, false, false, true, false, false, false, false, true, false, true, false, false, false, true, false, false, false, false, false, false, false, false, false, false, false, false, false] (fun _ => True) [] hRr (fun _ _ _ _ _ _ => trivial) rfl rfl (by kernel_rfl) (fun _ _ _ h => h) (Or.inl ⟨by rfl, ?_⟩) trivial ?_ ?_
          rotate_left
          · intro w' _
            go_simp
            with_reducible rfl
          rotate_left
          · simp only [Act.put, List.setIfInBounds_toArray, List.set_cons_zero, List.set_cons_succ, i64_w, i32_w]
            rfl
          refine takeR_ (i := 13) (N := some 78) (v := ?_) (a' := ?_) #[true, true, true, true, true, true, true, true, true, true, true, true, true, true, false, true, false, false, false, false, true, false, true, false, false, false, true, false, false, false, false, true, false, true, false, false, false, true, false, false, false, false, false, false, false, false, false, false, false, false, false] (fun _ => True) [] hRr (fun _ _ _ _ _ _ => trivial) rfl rfl (by kernel_rfl) (fun _ _ _ h => h) (Or.inl ⟨by rfl, ?_⟩) trivial ?_ ?_
          rotate_left
          · intro w' _
            go_simp
            with_reducible rfl
          rotate_left
          · simp only [Act.put, List.setIfInBounds_toArray, List.set_cons_zero, List.set_cons_succ, i64_w, i32_w]
            rfl
          refine takeR_ (i := 14) (N := some 79) (v := ?_) (a' := ?_) #[true, true, true, true, true, true, true, true, true, true, true, true, true, true, true, true, false, false, false, false, true, false, true, false, false, false, true, false, false, false, false, true, false, true, false, false, false, true, false, false, false, false, false, false, false, false, false, false, false, false, false] (S2) [44, 47, 50] hRr hR2 rfl rfl (by kernel_rfl) (fun _ _ _ h => h) (Or.inl ⟨by rfl, ?_⟩) HS2.out ?_ ?_
          rotate_left
          · intro w' hs; obtain ⟨s0, s1, s2⟩ := HS2e.out w' hs; clear hs
            go_simp
            with_reducible rfl
          rotate_left
          · simp only [Act.put, List.setIfInBounds_toArray, List.set_cons_zero, List.set_cons_succ, i64_w, i32_w]
            rfl
          refine takeR_ (i := 16) (N := some 81) (v := ?_) (a' := ?_) #[true, true, true, true, true, true, true, true, true, true, true, true, true, true, true, true, true, false, false, false, true, false, true, false, false, false, true, false, false, false, false, true, false, true, false, false, false, true, false, false, false, false, false, false, false, false, false, false, false, false, false] (S1) [] hRr hR1 rfl rfl (by kernel_rfl) (fun _ _ _ h => h) (Or.inl ⟨by rfl, ?_⟩) HS1.out ?_ ?_
          rotate_left
          · intro w' hs; obtain ⟨s0, s1, s2, s3⟩ := HS1e.out w' hs; clear hs
            go_simp
            with_reducible rfl
          rotate_left
          · simp only [Act.put, List.setIfInBounds_toArray, List.set_cons_zero, List.set_cons_succ, i64_w, i32_w]
            rfl
          refine takeR_ (i := 17) (N := some 82) (v := ?_) (a' := ?_) #[true, true, true, true, true, true, true, true, true, true, true, true, true, true, true, true, true, true, false, false, true, false, true, false, false, false, true, false, false, false, false, true, false, true, false, false, false, true, false, false, false, false, false, false, false, false, false, false, false, false, false] (fun _ => True) [] hRr (fun _ _ _ _ _ _ => trivial) rfl rfl (by kernel_rfl) (fun _ _ _ h => h) (Or.inl ⟨by rfl, ?_⟩) trivial ?_ ?_
          rotate_left
          · intro w' _
            go_simp
            with_reducible rfl
          rotate_left
          · simp only [Act.put, List.setIfInBounds_toArray, List.set_cons_zero, List.set_cons_succ, i64_w, i32_w]
            rfl
          refine takeR_ (i := 18) (N := some 83) (v := ?_) (a' := ?_) #[true, true, true, true, true, true, true, true, true, true, true, true, true, true, true, true, true, true, true, false, true, false, true, false, false, false, true, false, false, false, false, true, false, true, false, false, false, true, false, false, false, false, false, false, false, false, false, false, false, false, false] (fun _ => True) [] hRr (fun _ _ _ _ _ _ => trivial) rfl rfl (by kernel_rfl) (fun _ _ _ h => h) (Or.inl ⟨by rfl, ?_⟩) trivial ?_ ?_
          rotate_left
          · intro w' _
            go_simp
            with_reducible rfl
          rotate_left
          · simp only [Act.put, List.setIfInBounds_toArray, List.set_cons_zero, List.set_cons_succ, i64_w, i32_w]
            rfl
          refine takeR_ (i := 19) (N := some 84) (v := ?_) (a' := ?_) #[true, true, true, true, true, true, true, true, true, true, true, true, true, true, true, true, true, true, true, true, true, false, true, false, false, false, true, false, false, false, false, true, false, true, false, false, false, true, false, false, false, false, false, false, false, false, false, false, false, false, false] (fun _ => True) [] hRr (fun _ _ _ _ _ _ => trivial) rfl rfl (by kernel_rfl) (fun _ _ _ h => h) (Or.inl ⟨by rfl, ?_⟩) trivial ?_ ?_
          rotate_left
          · intro w' _
            go_simp
            with_reducible rfl
          rotate_left
          · simp only [Act.put, List.setIfInBounds_toArray, List.set_cons_zero, List.set_cons_succ, i64_w, i32_w]
            rfl
          refine takeR_ (i := 21) (N := some 86) (v := ?_) (a' := ?_) #[true, true, true, true, true, true, true, true, true, true, true, true, true, true, true, true, true, true, true, true, true, true, true, false, false, false, true, false, false, false, false, true, false, true, false, false, false, true, false, false, false, false, false, false, false, false, false, false, false, false, false] (S1) [] hRr hR1 rfl rfl (by kernel_rfl) (fun _ _ _ h => h) (Or.inl ⟨by rfl, ?_⟩) HS1.out ?_ ?_
          rotate_left
          · intro w' hs; obtain ⟨s0, s1, s2, s3⟩ := HS1e.out w' hs; clear hs
            go_simp
            with_reducible rfl
          rotate_left
          · simp only [Act.put, List.setIfInBounds_toArray, List.set_cons_zero, List.set_cons_succ, i64_w, i32_w]
            rfl
          refine takeR_ (i := 23) (N := some 88) (v := ?_) (a' := ?_) #[true, true, true, true, true, true, true, true, true, true, true, true, true, true, true, true, true, true, true, true, true, true, true, true, false, false, true, false, false, false, false, true, false, true, false, false, false, true, false, false, false, false, false, false, false, false, false, false, false, false, false] (fun _ => True) [] hRr (fun _ _ _ _ _ _ => trivial) rfl rfl (by kernel_rfl) (fun _ _ _ h => h) (Or.inl ⟨by rfl, ?_⟩) trivial ?_ ?_
          rotate_left
          · intro w' _
            go_simp
            with_reducible rfl
          rotate_left
          · simp only [Act.put, List.setIfInBounds_toArray, List.set_cons_zero, List.set_cons_succ, i64_w, i32_w]
            rfl
          refine takeR_ (i := 24) (N := some 89) (v := ?_) (a' := ?_) #[true, true, true, true, true, true, true, true, true, true, true, true, true, true, true, true, true, true, true, true, true, true, true, true, true, false, true, false, false, false, false, true, false, true, false, false, false, true, false, false, false, false, false, false, false, false, false, false, false, false, false] (fun _ => True) [] hRr (fun _ _ _ _ _ _ => trivial) rfl rfl (by kernel_rfl) (fun _ _ _ h => h) (Or.inl ⟨by rfl, ?_⟩) trivial ?_ ?_
          rotate_left
          · intro w' _
            go_simp
            with_reducible rfl
          rotate_left
          · simp only [Act.put, List.setIfInBounds_toArray, List.set_cons_zero, List.set_cons_succ, i64_w, i32_w]
            rfl
          refine takeR_ (i := 25) (N := some 90) (v := ?_) (a' := ?_) #[true, true, true, true, true, true, true, true, true, true, true, true, true, true, true, true, true, true, true, true, true, true, true, true, true, true, true, false, false, false, false, true, false, true, false, false, false, true, false, false, false, false, false, false, false, false, false, false, false, false, false] (S2) [44, 47, 50] hRr hR2 rfl rfl (by kernel_rfl) (fun _ _ _ h => h) (Or.inl ⟨by rfl, ?_⟩) HS2.out ?_ ?_
          rotate_left
          · intro w' hs; obtain ⟨s0, s1, s2⟩ := HS2e.out w' hs; clear hs
            go_simp
            with_reducible rfl
          rotate_left
          · simp only [Act.put, List.setIfInBounds_toArray, List.set_cons_zero, List.set_cons_succ, i64_w, i32_w]
            rfl
          refine takeR_ (i := 27) (N := some 92) (v := ?_) (a' := ?_) #[true, true, true, true, true, true, true, true, true, true, true, true, true, true, true, true, true, true, true, true, true, true, true, true, true, true, true, true, false, false, false, true, false, true, false, false, false, true, false, false, false, false, false, false, false, false, false, false, false, false, false] (S1) [] hRr hR1 rfl rfl (by kernel_rfl) (fun _ _ _ h => h) (Or.inl ⟨by rfl, ?_⟩) HS1.out ?_ ?_
          rotate_left
          · intro w' hs; obtain ⟨s0, s1, s2, s3⟩ := HS1e.out w' hs; clear hs
            go_simp
            with_reducible rfl
          rotate_left
          · simp only [Act.put, List.setIfInBounds_toArray, List.set_cons_zero, List.set_cons_succ, i64_w, i32_w]
            rfl
          refine takeR_ (i := 28) (N := some 93) (v := ?_) (a' := ?_) #[true, true, true, true, true, true, true, true, true, true, true, true, true, true, true, true, true, true, true, true, true, true, true, true, true, true, true, true, true, false, false, true, false, true, false, false, false, true, false, false, false, false, false, false, false, false, false, false, false, false, false] (fun _ => True) [] hRr (fun _ _ _ _ _ _ => trivial) rfl rfl (by kernel_rfl) (fun _ _ _ h => h) (Or.inl ⟨by rfl, ?_⟩) trivial ?_ ?_
          rotate_left
          · intro w' _
            go_simp
            with_reducible rfl
          rotate_left
          · simp only [Act.put, List.setIfInBounds_toArray, List.set_cons_zero, List.set_cons_succ, i64_w, i32_w]
            rfl
          refine takeR_ (i := 29) (N := some 94) (v := ?_) (a' := ?_) #[true, true, true, true, true, true, true, true, true, true, true, true, true, true, true, true, true, true, true, true, true, true, true, true, true, true, true, true, true, true, false, true, false, true, false, false, false, true, false, false, false, false, false, false, false, false, false, false, false, false, false] (fun _ => True) [] hRr (fun _ _ _ _ _ _ => trivial) rfl rfl (by kernel_rfl) (fun _ _ _ h => h) (Or.inl ⟨by rfl, ?_⟩) trivial ?_ ?_
          rotate_left
          · intro w' _
            go_simp
            with_reducible rfl
          rotate_left
          · simp only [Act.put, List.setIfInBounds_toArray, List.set_cons_zero, List.set_cons_succ, i64_w, i32_w]
            rfl
          refine takeR_ (i := 30) (N := some 95) (v := ?_) (a' := ?_) #[true, true, true, true, true, true, true, true, true, true, true, true, true, true, true, true, true, true, true, true, true, true, true, true, true, true, true, true, true, true, true, true, false, true, false, false, false, true, false, false, false, false, false, false, false, false, false, false, false, false, false] (fun _ => True) [] hRr (fun _ _ _ _ _ _ => trivial) rfl rfl (by kernel_rfl) (fun _ _ _ h => h) (Or.inl ⟨by rfl, ?_⟩) trivial ?_ ?_
          rotate_left
          · intro w' _
            go_simp
            with_reducible rfl
          rotate_left
          · simp only [Act.put, List.setIfInBounds_toArray, List.set_cons_zero, List.set_cons_succ, i64_w, i32_w]
            rfl
          refine takeR_ (i := 32) (N := some 97) (v := ?_) (a' := ?_) #[true, true, true, true, true, true, true, true, true, true, true, true, true, true, true, true, true, true, true, true, true, true, true, true, true, true, true, true, true, true, true, true, true, true, false, false, false, true, false, false, false, false, false, false, false, false, false, false, false, false, false] (S1) [] hRr hR1 rfl rfl (by kernel_rfl) (fun _ _ _ h => h) (Or.inl ⟨by rfl, ?_⟩) HS1.out ?_ ?_
          rotate_left
          · intro w' hs; obtain ⟨s0, s1, s2, s3⟩ := HS1e.out w' hs; clear hs
            go_simp
            with_reducible rfl
          rotate_left
          · simp only [Act.put, List.setIfInBounds_toArray, List.set_cons_zero, List.set_cons_succ, i64_w, i32_w]
            rfl
          refine takeR_ (i := 34) (N := some 99) (v := ?_) (a' := ?_) #[true, true, true, true, true, true, true, true, true, true, true, true, true, true, true, true, true, true, true, true, true, true, true, true, true, true, true, true, true, true, true, true, true, true, true, false, false, true, false, false, false, false, false, false, false, false, false, false, false, false, false] (fun _ => True) [] hRr (fun _ _ _ _ _ _ => trivial) rfl rfl (by kernel_rfl) (fun _ _ _ h => h) (Or.inl ⟨by rfl, ?_⟩) trivial ?_ ?_
          rotate_left
          · intro w' _
            go_simp
            with_reducible rfl
          rotate_left
          · simp only [Act.put, List.setIfInBounds_toArray, List.set_cons_zero, List.set_cons_succ, i64_w, i32_w]
            rfl
          refine takeR_ (i := 35) (N := some 100) (v := ?_) (a' := ?_) #[true, true, true, true, true, true, true, true, true, true, true, true, true, true, true, true, true, true, true, true, true, true, true, true, true, true, true, true, true, true, true, true, true, true, true, true, false, true, false, false, false, false, false, false, false, false, false, false, false, false, false] (fun _ => True) [] hRr (fun _ _ _ _ _ _ => trivial) rfl rfl (by kernel_rfl) (fun _ _ _ h => h) (Or.inl ⟨by rfl, ?_⟩) trivial ?_ ?_
          rotate_left
          · intro w' _
            go_simp
            with_reducible rfl
          rotate_left
          · simp only [Act.put, List.setIfInBounds_toArray, List.set_cons_zero, List.set_cons_succ, i64_w, i32_w]
            rfl
          refine takeR_ (i := 36) (N := some 101) (v := ?_) (a' := ?_) #[true, true, true, true, true, true, true, true, true, true, true, true, true, true, true, true, true, true, true, true, true, true, true, true, true, true, true, true, true, true, true, true, true, true, true, true, true, true, false, false, false, false, false, false, false, false, false, false, false, false, false] (S2) [44, 47, 50] hRr hR2 rfl rfl (by kernel_rfl) (fun _ _ _ h => h) (Or.inl ⟨by rfl, ?_⟩) HS2.out ?_ ?_
          rotate_left
          · intro w' hs; obtain ⟨s0, s1, s2⟩ := HS2e.out w' hs; clear hs
            go_simp
            with_reducible rfl
          rotate_left
          · simp only [Act.put, List.setIfInBounds_toArray, List.set_cons_zero, List.set_cons_succ, i64_w, i32_w]
            rfl
          refine takeR_ (i := 42) (N := some 107) (v := ?_) (a' := ?_) #[true, true, true, true, true, true, true, true, true, true, true, true, true, true, true, true, true, true, true, true, true, true, true, true, true, true, true, true, true, true, true, true, true, true, true, true, true, true, false, false, false, false, true, false, false, false, false, false, false, false, false] (fun _ => True) [] hRr (fun _ _ _ _ _ _ => trivial) rfl rfl (by kernel_rfl) (fun _ _ _ h => h) (Or.inl ⟨by rfl, ?_⟩) trivial ?_ ?_
          rotate_left
          · intro w' _
            go_simp
            with_reducible rfl
          rotate_left
          · simp only [Act.put, List.setIfInBounds_toArray, List.set_cons_zero, List.set_cons_succ, i64_w, i32_w]
            rfl
          refine takeR_ (i := 43) (N := some 108) (v := ?_) (a' := ?_) #[true, true, true, true, true, true, true, true, true, true, true, true, true, true, true, true, true, true, true, true, true, true, true, true, true, true, true, true, true, true, true, true, true, true, true, true, true, true, false, false, false, false, true, true, false, false, false, false, false, false, false] (fun _ => True) [] hRr (fun _ _ _ _ _ _ => trivial) rfl rfl (by kernel_rfl) (fun _ _ _ h => h) (Or.inl ⟨by rfl, ?_⟩) trivial ?_ ?_
          rotate_left
          · intro w' _
            go_simp
            with_reducible rfl
          rotate_left
          · simp only [Act.put, List.setIfInBounds_toArray, List.set_cons_zero, List.set_cons_succ, i64_w, i32_w]
            rfl
          refine takeR_ (i := 38) (N := some 103) (v := ?_) (a' := ?_) #[true, true, true, true, true, true, true, true, true, true, true, true, true, true, true, true, true, true, true, true, true, true, true, true, true, true, true, true, true, true, true, true, true, true, true, true, true, true, true, false, false, false, true, true, false, false, false, false, false, false, false] (S1) [] hRr hR1 rfl rfl (by kernel_rfl) (fun _ _ _ h => h) (Or.inl ⟨by rfl, ?_⟩) HS1.out ?_ ?_
          rotate_left
          · intro w' hs; obtain ⟨s0, s1, s2, s3⟩ := HS1e.out w' hs; clear hs
            go_simp
            with_reducible rfl
          rotate_left
          · simp only [Act.put, List.setIfInBounds_toArray, List.set_cons_zero, List.set_cons_succ, i64_w, i32_w]
            rfl
          refine takeR_ (i := 39) (N := some 104) (v := ?_) (a' := ?_) #[true, true, true, true, true, true, true, true, true, true, true, true, true, true, true, true, true, true, true, true, true, true, true, true, true, true, true, true, true, true, true, true, true, true, true, true, true, true, true, true, false, false, true, true, false, false, false, false, false, false, false] (fun _ => True) [] hRr (fun _ _ _ _ _ _ => trivial) rfl rfl (by kernel_rfl) (fun _ _ _ h => h) (Or.inl ⟨by rfl, ?_⟩) trivial ?_ ?_
          rotate_left
          · intro w' _
            go_simp
            with_reducible rfl
          rotate_left
          · simp only [Act.put, List.setIfInBounds_toArray, List.set_cons_zero, List.set_cons_succ, i64_w, i32_w]
            rfl
          refine takeR_ (i := 40) (N := some 105) (v := ?_) (a' := ?_) #[true, true, true, true, true, true, true, true, true, true, true, true, true, true, true, true, true, true, true, true, true, true, true, true, true, true, true, true, true, true, true, true, true, true, true, true, true, true, true, true, true, false, true, true, false, false, false, false, false, false, false] (fun _ => True) [] hRr (fun _ _ _ _ _ _ => trivial) rfl rfl (by kernel_rfl) (fun _ _ _ h => h) (Or.inl ⟨by rfl, ?_⟩) trivial ?_ ?_
          rotate_left
          · intro w' _
            go_simp
            with_reducible rfl
          rotate_left
          · simp only [Act.put, List.setIfInBounds_toArray, List.set_cons_zero, List.set_cons_succ, i64_w, i32_w]
            rfl
          refine takeR_ (i := 41) (N := some 106) (v := ?_) (a' := ?_) #[true, true, true, true, true, true, true, true, true, true, true, true, true, true, true, true, true, true, true, true, true, true, true, true, true, true, true, true, true, true, true, true, true, true, true, true, true, true, true, true, true, true, true, true, false, false, false, false, false, false, false] (fun _ => True) [] hRr (fun _ _ _ _ _ _ => trivial) rfl rfl (by kernel_rfl) (fun _ _ _ h => h) (Or.inl ⟨by rfl, ?_⟩) trivial ?_ ?_
          rotate_left
          · intro w' _
            go_simp
            with_reducible rfl
          rotate_left
          · simp only [Act.put, List.setIfInBounds_toArray, List.set_cons_zero, List.set_cons_succ, i64_w, i32_w]
            rfl
          refine oneR_ (i := 44) (N := none) #[true, true, true, true, true, true, true, true, true, true, true, true, true, true, true, true, true, true, true, true, true, true, true, true, true, true, true, true, true, true, true, true, true, true, true, true, true, true, true, true, true, true, true, true, true, false, false, false, false, false, false] rfl rfl (by kernel_rfl) (fun K hK => ?_)
          refine skip_ (w1 := ?_) (by rfl) rfl ?_ ?_
          rotate_left
          · go_simp
            rfl
          refine hK.out _ _ (hkeep 44 _ _ _ (by decide)) ?_
          clear hK K
          refine takeR_ (i := 45) (N := some 109) (v := ?_) (a' := ?_) #[true, true, true, true, true, true, true, true, true, true, true, true, true, true, true, true, true, true, true, true, true, true, true, true, true, true, true, true, true, true, true, true, true, true, true, true, true, true, true, true, true, true, true, true, true, true, false, false, false, false, false] (fun _ => True) [] hRr (fun _ _ _ _ _ _ => trivial) rfl rfl (by kernel_rfl) (fun _ _ _ h => h) (Or.inl ⟨by rfl, ?_⟩) trivial ?_ ?_
          rotate_left
          · intro w' _
            go_simp
            with_reducible rfl
          rotate_left
          · simp only [Act.put, List.setIfInBounds_toArray, List.set_cons_zero, List.set_cons_succ, i64_w, i32_w]
            rfl
          refine takeR_ (i := 46) (N := some 110) (v := ?_) (a' := ?_) #[true, true, true, true, true, true, true, true, true, true, true, true, true, true, true, true, true, true, true, true, true, true, true, true, true, true, true, true, true, true, true, true, true, true, true, true, true, true, true, true, true, true, true, true, true, true, true, false, false, false, false] (fun _ => True) [] hRr (fun _ _ _ _ _ _ => trivial) rfl rfl (by kernel_rfl) (fun _ _ _ h => h) (Or.inl ⟨by rfl, ?_⟩) trivial ?_ ?_
          rotate_left
          · intro w' _
            go_simp
            with_reducible rfl
          rotate_left
          · simp only [Act.put, List.setIfInBounds_toArray, List.set_cons_zero, List.set_cons_succ, i64_w, i32_w]
            rfl
          refine oneR_ (i := 47) (N := none) #[true, true, true, true, true, true, true, true, true, true, true, true, true, true, true, true, true, true, true, true, true, true, true, true, true, true, true, true, true, true, true, true, true, true, true, true, true, true, true, true, true, true, true, true, true, true, true, true, false, false, false] rfl rfl (by kernel_rfl) (fun K hK => ?_)
          refine skip_ (w1 := ?_) (by rfl) rfl ?_ ?_
          rotate_left
          · go_simp
            rfl
          refine hK.out _ _ (hkeep 47 _ _ _ (by decide)) ?_
          clear hK K
          refine takeR_ (i := 48) (N := some 111) (v := ?_) (a' := ?_) #[true, true, true, true, true, true, true, true, true, true, true, true, true, true, true, true, true, true, true, true, true, true, true, true, true, true, true, true, true, true, true, true, true, true, true, true, true, true, true, true, true, true, true, true, true, true, true, true, true, false, false] (fun _ => True) [] hRr (fun _ _ _ _ _ _ => trivial) rfl rfl (by kernel_rfl) (fun _ _ _ h => h) (Or.inl ⟨by rfl, ?_⟩) trivial ?_ ?_
          rotate_left
          · intro w' _
            go_simp
            with_reducible rfl
          rotate_left
          · simp only [Act.put, List.setIfInBounds_toArray, List.set_cons_zero, List.set_cons_succ, i64_w, i32_w]
            rfl
          refine takeR_ (i := 49) (N := some 112) (v := ?_) (a' := ?_) #[true, true, true, true, true, true, true, true, true, true, true, true, true, true, true, true, true, true, true, true, true, true, true, true, true, true, true, true, true, true, true, true, true, true, true, true, true, true, true, true, true, true, true, true, true, true, true, true, true, true, false] (fun _ => True) [] hRr (fun _ _ _ _ _ _ => trivial) rfl rfl (by kernel_rfl) (fun _ _ _ h => h) (Or.inl ⟨by rfl, ?_⟩) trivial ?_ ?_
          rotate_left
          · intro w' _
            go_simp
            with_reducible rfl
          rotate_left
          · simp only [Act.put, List.setIfInBounds_toArray, List.set_cons_zero, List.set_cons_succ, i64_w, i32_w]
            rfl
          refine oneR_ (i := 50) (N := none) #[true, true, true, true, true, true, true, true, true, true, true, true, true, true, true, true, true, true, true, true, true, true, true, true, true, true, true, true, true, true, true, true, true, true, true, true, true, true, true, true, true, true, true, true, true, true, true, true, true, true, true] rfl rfl (by kernel_rfl) (fun K hK => ?_)
          refine skip_ (w1 := ?_) (by rfl) rfl ?_ ?_
          rotate_left
          · go_simp
            rfl
          refine hK.out _ _ (hkeep 50 _ _ _ (by decide)) ?_
          clear hK K
          refine doneR_ (by kernel_rfl) ?_
          go_wp2
          go_meet
          case rel =>
            obtain ⟨P1, P2, ht⟩ := HT8.out
            obtain ⟨⟨l2, h1⟩, h2⟩ := board_after HG8.out HH8.out HCU.out HMX.out HCP.out hKn ht HB8.out (by have := HB6.out.size; omega) _ _ _
            exact ⟨_, _, l2, ⟨h1⟩, ⟨h2⟩⟩
      case rest =>
        obtain ⟨A2, c2, l2, HM2, HB2c⟩ := hcut
        clear HM6 HML hml HB5 hz6
        go_wp2_with fail
        refine (made_any wc L cl l (Kd.C_below HL.out (below_then HB03.out HB03.out.size HB2c.out)) HIB.out).mono ?_
        rintro e Wd ⟨Ad, cd, Td, rfl, hM⟩
        have hWE : ∃ We, We = Wd.alloc (.cells #[.slice Ad (made l).length cd, .slice (some ⟨Td, 0, none⟩) 2 2, .slice (some ⟨wc.heap.size + 1, 0, none⟩) 2 2] 26) := ⟨_, rfl⟩
        obtain ⟨We, hWE⟩ := hWE
        have HBDE : Aside0 (Below wc.heap.size wc We) := ⟨by rw [hWE]; exact below_alloc hM.1 _⟩
        have HBE : Aside0 (Below wr.heap.size wr We) := ⟨below_then HB2c.out HB2c.out.size HBDE.out⟩
        have HPE := Aside0.mk (blk_below HPP3.out HBE.out)
        have HTD : Aside0 (wc.heap.size ≤ Td) := ⟨by obtain ⟨_, _, h, _⟩ := hM.2.2.2.2; omega⟩
        obtain ⟨P1, P2, hDI⟩ := din_made hM
        have HME := Aside0.mk hDI
        have HLD := Aside0.mk (made_length l)
        have HWE := Aside0.mk hWE
        clear hDI
        have hgd : wc.heap.size ≤ Wd.heap.size := hM.1.size
        go_upto_region 15 with fail
        rw [← HWE.out]
        have hM := HME.out
        rw [← HWE.out] at hM
        have HME2 := Aside0.mk hM
        clear hWE hM HME HWE
        generalize made l = l0d at HME2 HLD ⊢
        generalize Wd.heap.size = gd at hgd HME2 ⊢
        have hchd : ∃ x, x = wc.heap.size + 1 := ⟨_, rfl⟩
        obtain ⟨chd, hchd⟩ := hchd
        rw [← hchd] at HME2 ⊢
        have HCHD := Aside0.mk hchd
        clear hchd
        obtain ⟨D, hD⟩ : ∃ D, (IntKind.u8.wrap x0).tmod 6 = D := ⟨_, rfl⟩
        have hD0 : 0 ≤ D := by rw [← hD]; exact (u8_tmod x0 6 (by decide)).1
        have hD1 : D < 6 := by rw [← hD]; exact (u8_tmod x0 6 (by decide)).2
        obtain ⟨sD, hsD, h6⟩ := six_get D hD0 hD1
        have hTP := HME2.out.2.2.2.2.2
        obtain ⟨S1, hS1⟩ : ∃ S : World → Prop, S = fun W' => W'.cell? ⟨gd, 2, none⟩ = some (.slice (some ⟨chd, 0, none⟩) 2 2) ∧ W'.cell? ⟨w.heap.size + 1, 0, none⟩ = some (.int .i16 x0) := ⟨_, rfl⟩
        obtain ⟨S3, hS3⟩ : ∃ S : World → Prop, S = fun W' => W'.cell? ⟨We.heap.size, D.toNat, none⟩ = some (.string sD) := ⟨_, rfl⟩
        obtain ⟨RR, hRR⟩ : ∃ R : Nat → World → World → Prop, R = fun i W W' => (S1 W → S1 W') ∧ (i ∉ [11] → S3 W → S3 W') := ⟨_, rfl⟩
        have hk2 : We.cell? ⟨gd, 2, none⟩ = some (.slice (some ⟨chd, 0, none⟩) 2 2) := (blk_cell HME2.out.1 2).trans rfl
        have hp0 : We.cell? ⟨w.heap.size + 1, 0, none⟩ = some (.int .i16 x0) := (blk_cell HPE.out 0).trans rfl
        have HS1 : Aside0 (S1 We.drew) := ⟨by rw [hS1]; exact ⟨hk2, hp0⟩⟩
        have HS1e : Aside0 (∀ W', S1 W' → W'.cell? ⟨gd, 2, none⟩ = some (.slice (some ⟨chd, 0, none⟩) 2 2) ∧ W'.cell? ⟨w.heap.size + 1, 0, none⟩ = some (.int .i16 x0)) := ⟨fun W' h => by rw [hS1] at h; exact h⟩
        have HS3e : Aside0 (∀ W', S3 W' → W'.cell? ⟨We.heap.size, D.toNat, none⟩ = some (.string sD)) := ⟨fun W' h => by rw [hS3] at h; exact h⟩
        have HS3d : Aside0 (∀ W', W'.heap[We.heap.size]? = some (.cells six 9) → S3 W') := ⟨fun W' h => by rw [hS3]; exact (blk_cell h _).trans h6⟩
        have hRr : ∀ i W, RR i W W := fun i W => by rw [hRR]; exact ⟨id, fun _ => id⟩
        have hR1 : ∀ (j : Nat) W W', j ∉ ([] : List Nat) → RR j W W' → S1 W → S1 W' := fun j W W' _ h => by rw [hRR] at h; exact h.1
        have hR3 : ∀ (j : Nat) W W', j ∉ [11] → RR j W W' → S3 W → S3 W' := fun j W W' hj h => by rw [hRR] at h; exact h.2 hj
        have hbelS : ∀ W W', Below W.heap.size W W' → S1 W → S1 W' := fun W W' hB h => by rw [hS1] at h ⊢; exact ⟨cell_of_below hB h.1, cell_of_below hB h.2⟩
        have hbelR : ∀ (j : Nat) W W', Below W.heap.size W W' → RR j W W' := fun j W W' hB => by
          rw [hRR]
          exact ⟨hbelS W W' hB, fun _ h => by rw [hS3] at h ⊢; exact cell_of_below hB h⟩
        have hne1 : gd ≠ chd := blk_ne HME2.out.1 hTP (by decide)
        have hne2 : w.heap.size + 1 ≠ chd := blk_ne HPE.out hTP (by decide)
        have hkeep : ∀ (j : Nat) W (i : Nat) u, j ∈ [11] → RR j W (W.setCell ⟨chd, i, none⟩ u) := fun j W i u hj => by
          rw [hRR]
          refine ⟨fun h => ?_, fun h => absurd hj h⟩
          rw [hS1] at h ⊢
          exact ⟨cell_of_far hne1 h.1, cell_of_far hne2 h.2⟩
        have q2 : ∀ o, (We.alloc o).cell? ⟨chd, 2, none⟩ = some (.string ⟨#[97, 98, 99]⟩) := fun o => (blk_cell (blk_alloc hTP o) 2).trans rfl
        have ff : ∀ o i, (We.alloc o).frozen? ⟨chd, i, none⟩ = false := fun o => blk_frozen (blk_alloc hTP o)
        have HSD := Aside0.mk hsD
        clear hRR hS1 hS3 hk2 hp0 h6 hTP hsD
        refine startR_ (n := 12) (R := RR) #[false, false, false, false, false, false, false, false, false, false, false, false] (by kernel_rfl) rfl rfl ?_
        refine takeR_ (i := 0) (N := some 115) (v := ?_) (a' := ?_) #[true, false, false, false, false, false, false, false, false, false, false, false] (fun _ => True) [] hRr (fun _ _ _ _ _ _ => trivial) rfl rfl (by kernel_rfl) (fun _ _ _ h => h) (Or.inl ⟨by rfl, ?_⟩) trivial ?_ ?_
        rotate_left
        · intro w' _
          go_simp
          with_reducible rfl
        rotate_left
        · simp only [Act.put, List.setIfInBounds_toArray, List.set_cons_zero, List.set_cons_succ, i64_w, i32_w]
          rfl
        refine takeR_ (i := 3) (N := some 118) (v := ?_) (a' := ?_) #[true, false, false, true, false, false, false, false, false, false, false, false] (fun _ => True) [] hRr (fun _ _ _ _ _ _ => trivial) rfl rfl (by kernel_rfl) (fun _ _ _ h => h) (Or.inl ⟨by rfl, ?_⟩) trivial ?_ ?_
        rotate_left
        · intro w' _
          go_simp
          with_reducible rfl
        rotate_left
        · simp only [Act.put, List.setIfInBounds_toArray, List.set_cons_zero, List.set_cons_succ, i64_w, i32_w]
          rfl
        refine takeR_ (i := 1) (N := some 116) (v := ?_) (a' := ?_) #[true, true, false, true, false, false, false, false, false, false, false, false] (fun W => S1 W) [] hRr hR1 rfl rfl (by kernel_rfl) (fun _ _ _ h => h) (Or.inl ⟨by rfl, ?_⟩) HS1.out ?_ ?_
        rotate_left
        · intro w' hs; obtain ⟨s0, s1⟩ := HS1e.out w' hs; clear hs
          go_simp
          with_reducible rfl
        rotate_left
        · simp only [Act.put, List.setIfInBounds_toArray, List.set_cons_zero, List.set_cons_succ, i64_w, i32_w]
          rfl
        refine takeR_ (i := 4) (N := some 119) (v := ?_) (a' := ?_) #[true, true, false, true, true, false, false, false, false, false, false, false] (fun W => S1 W) [] hRr hR1 rfl rfl (by kernel_rfl) (fun _ _ _ h => h) (Or.inl ⟨by rfl, ?_⟩) HS1.out ?_ ?_
        rotate_left
        · intro w' hs; obtain ⟨s0, s1⟩ := HS1e.out w' hs; clear hs
          go_simp
          with_reducible rfl
        rotate_left
        · simp only [Act.put, List.setIfInBounds_toArray, List.set_cons_zero, List.set_cons_succ, i64_w, i32_w]
          rfl
        refine takeR_ (i := 5) (N := some 120) (v := ?_) (a' := ?_) #[true, true, false, true, true, true, false, false, false, false, false, false] (fun _ => True) [] hRr (fun _ _ _ _ _ _ => trivial) rfl rfl (by kernel_rfl) (fun _ _ _ h => h) (Or.inl ⟨by rfl, ?_⟩) trivial ?_ ?_
        rotate_left
        · intro w' _
          go_simp
          with_reducible rfl
        rotate_left
        · simp only [Act.put, List.setIfInBounds_toArray, List.set_cons_zero, List.set_cons_succ, i64_w, i32_w]
          rfl
        refine takeR_ (i := 6) (N := some 121) (v := ?_) (a' := ?_) #[true, true, false, true, true, true, true, false, false, false, false, false] (fun _ => True) [] hRr (fun _ _ _ _ _ _ => trivial) rfl rfl (by kernel_rfl) (fun _ _ _ h => h) (Or.inl ⟨by rfl, ?_⟩) trivial ?_ ?_
        rotate_left
        · intro w' _
          go_simp
          with_reducible rfl
        rotate_left
        · simp only [Act.put, List.setIfInBounds_toArray, List.set_cons_zero, List.set_cons_succ, i64_w, i32_w]
          rfl
        refine oneR_ (i := 2) (N := some 117) #[true, true, true, true, true, true, true, false, false, false, false, false] rfl rfl (by kernel_rfl) (fun K hK => ?_)
        refine value_ (w1 := ?_) (v := ?_) (by rfl) rfl ?_ ?_
        rotate_left 2
        · go_simp
          constructor
          · rfl
          · rfl
        refine hK.out _ _ (hbelR 2 _ _ (below1 _)) ?_
        clear hK K
        refine normR_ (a' := ?_) ?_ ?_
        rotate_left
        · show Act.put _ (some 117) _ = _
          simp only [Act.put, List.setIfInBounds_toArray, List.set_cons_zero, List.set_cons_succ, i64_w, i32_w]
          rfl
        refine takeR_ (i := 7) (N := some 122) (v := ?_) (a' := ?_) #[true, true, true, true, true, true, true, true, false, false, false, false] (fun _ => True) [] hRr (fun _ _ _ _ _ _ => trivial) rfl rfl (by kernel_rfl) (fun _ _ _ h => h) (Or.inl ⟨by rfl, ?_⟩) trivial ?_ ?_
        rotate_left
        · intro w' _
          go_simp
          with_reducible rfl
        rotate_left
        · simp only [Act.put, List.setIfInBounds_toArray, List.set_cons_zero, List.set_cons_succ, i64_w, i32_w]
          rfl
        refine takeR_ (i := 8) (N := some 123) (v := ?_) (a' := ?_) #[true, true, true, true, true, true, true, true, true, false, false, false] (fun W => S3 W) [11] hRr hR3 rfl rfl (by kernel_rfl) (fun _ _ _ h => h) (Or.inl ⟨by rfl, ?_⟩) (HS3d.out _ (by exact heap_alloc_new We (.cells six 9))) ?_ ?_
        rotate_left
        · intro w' hs; have s0 := HS3e.out w' hs; clear hs
          go_simp
          with_reducible rfl
        rotate_left
        · simp only [Act.put, List.setIfInBounds_toArray, List.set_cons_zero, List.set_cons_succ, i64_w, i32_w]
          rfl
        refine takeR_ (i := 9) (N := some 124) (v := ?_) (a' := ?_) #[true, true, true, true, true, true, true, true, true, true, false, false] (fun _ => True) [] hRr (fun _ _ _ _ _ _ => trivial) rfl rfl (by kernel_rfl) (fun _ _ _ h => h) (Or.inl ⟨by rfl, ?_⟩) trivial ?_ ?_
        rotate_left
        · intro w' _
          go_simp
          with_reducible rfl
        rotate_left
        · simp only [Act.put, List.setIfInBounds_toArray, List.set_cons_zero, List.set_cons_succ, i64_w, i32_w]
          rfl
        refine takeR_ (i := 10) (N := some 125) (v := ?_) (a' := ?_) #[true, true, true, true, true, true, true, true, true, true, true, false] (fun _ => True) [] hRr (fun _ _ _ _ _ _ => trivial) rfl rfl (by kernel_rfl) (fun _ _ _ h => h) (Or.inl ⟨by rfl, ?_⟩) trivial ?_ ?_
        rotate_left
        · intro w' _
          go_simp
          with_reducible rfl
        rotate_left
        · simp only [Act.put, List.setIfInBounds_toArray, List.set_cons_zero, List.set_cons_succ, i64_w, i32_w]
          rfl
        refine oneR_ (i := 11) (N := none) #[true, true, true, true, true, true, true, true, true, true, true, true] rfl rfl (by kernel_rfl) (fun K hK => ?_)
        refine skip_ (w1 := ?_) (by rfl) rfl ?_ ?_
        rotate_left
        · go_simp
          rfl
        refine hK.out _ _ (hkeep 11 _ _ _ (by decide)) ?_
        clear hK K
        refine doneR_ (by kernel_rfl) ?_
        clear q2 ff hbelS hbelR hkeep hRr hR1 hR3 HS1 HS1e HS3e HS3d
        go_upto_region 16 with fail
        have hWf : ∃ Wf, Wf = ((We.alloc (.cells #[.string ⟨#[97, 98, 99]⟩, .string ⟨#[97, 98, 99, 100, 101]⟩, .string ⟨#[99, 98]⟩, .string ⟨#[97, 97, 98]⟩, .string ⟨#[97]⟩, .string ⟨#[97, 98]⟩] 9)).setCell ⟨chd, 2, none⟩ (.string sD)).drew := ⟨_, rfl⟩
        obtain ⟨Wf, hWf⟩ := hWf
        have HDf : Aside0 (DIn Wf gd Ad cd Td P1 P2 chd l0d (.slice (some ⟨P1, 0, none⟩) 2 2) sD) := ⟨by rw [hWf]; exact din_below (din_str (din_below HME2.out (below1 _)) sD) (below_drew (Below.refl _ _))⟩
        have HBcf : Aside0 (Below wc.heap.size wc Wf) := ⟨by rw [hWf]; exact ((below_alloc HBDE.out _).setCell (by have := HCHD.out; dsimp only; omega) _).drew⟩
        have HPf : Aside0 (Wf.heap[w.heap.size + 1]? = some (.cells #[.int .i16 x0, .int .i16 x1, .int .i16 x2, .int .i16 x3] 29)) := ⟨blk_below (blk_below HPP3.out HB2c.out) HBcf.out⟩
        rw [← hWf]
        clear hWf hD hD0 hD1 hne1 hne2
        have hTP := HDf.out.2.2.1
        obtain ⟨E, hE⟩ : ∃ E, (IntKind.u8.wrap x1).tmod 3 = E := ⟨_, rfl⟩
        have hE0 : 0 ≤ E := by rw [← hE]; exact (u8_tmod x1 3 (by decide)).1
        have hE1 : E ≤ 2 := by have := (u8_tmod x1 3 (by decide)).2; rw [hE] at this; omega
        obtain ⟨S1, hS1⟩ : ∃ S : World → Prop, S = fun W' => W'.cell? ⟨gd, 1, none⟩ = some (.slice (some ⟨Td, 0, none⟩) 2 2) ∧ W'.cell? ⟨w.heap.size + 1, 1, none⟩ = some (.int .i16 x1) := ⟨_, rfl⟩
        obtain ⟨S3, hS3⟩ : ∃ S : World → Prop, S = fun W' => W'.cell? ⟨Td, 1, none⟩ = some (.slice (some ⟨P1, 0, none⟩) 2 2) := ⟨_, rfl⟩
        obtain ⟨RR, hRR⟩ : ∃ R : Nat → World → World → Prop, R = fun i W W' => (S1 W → S1 W') ∧ (i ∉ [14] → S3 W → S3 W') := ⟨_, rfl⟩
        have hk1 : Wf.cell? ⟨gd, 1, none⟩ = some (.slice (some ⟨Td, 0, none⟩) 2 2) := (blk_cell HDf.out.1 1).trans rfl
        have hp1 : Wf.cell? ⟨w.heap.size + 1, 1, none⟩ = some (.int .i16 x1) := (blk_cell HPf.out 1).trans rfl
        have q1 : Wf.cell? ⟨Td, 1, none⟩ = some (.slice (some ⟨P1, 0, none⟩) 2 2) := (blk_cell hTP 1).trans rfl
        have HS1 : Aside0 (S1 Wf.drew) := ⟨by rw [hS1]; exact ⟨hk1, hp1⟩⟩
        have HS3 : Aside0 (S3 Wf.drew) := ⟨by rw [hS3]; exact q1⟩
        have HS1e : Aside0 (∀ W', S1 W' → W'.cell? ⟨gd, 1, none⟩ = some (.slice (some ⟨Td, 0, none⟩) 2 2) ∧ W'.cell? ⟨w.heap.size + 1, 1, none⟩ = some (.int .i16 x1)) := ⟨fun W' h => by rw [hS1] at h; exact h⟩
        have HS3e : Aside0 (∀ W', S3 W' → W'.cell? ⟨Td, 1, none⟩ = some (.slice (some ⟨P1, 0, none⟩) 2 2)) := ⟨fun W' h => by rw [hS3] at h; exact h⟩
        have hRr : ∀ i W, RR i W W := fun i W => by rw [hRR]; exact ⟨id, fun _ => id⟩
        have hR1 : ∀ (j : Nat) W W', j ∉ ([] : List Nat) → RR j W W' → S1 W → S1 W' := fun j W W' _ h => by rw [hRR] at h; exact h.1
        have hR3 : ∀ (j : Nat) W W', j ∉ [14] → RR j W W' → S3 W → S3 W' := fun j W W' hj h => by rw [hRR] at h; exact h.2 hj
        have hne1 : gd ≠ Td := blk_ne HDf.out.1 hTP (by decide)
        have hne2 : w.heap.size + 1 ≠ Td := blk_ne HPf.out hTP (by decide)
        have hkeep : ∀ (j : Nat) W (i : Nat) u, j ∈ [14] → RR j W (W.setCell ⟨Td, i, none⟩ u) := fun j W i u hj => by
          rw [hRR]
          refine ⟨fun h => ?_, fun h => absurd hj h⟩
          rw [hS1] at h ⊢
          exact ⟨cell_of_far hne1 h.1, cell_of_far hne2 h.2⟩
        have ff : ∀ i, Wf.frozen? ⟨Td, i, none⟩ = false := blk_frozen hTP
        clear hRR hS1 hS3 hk1 hp1 hTP
        refine startR_ (n := 15) (R := RR) #[false, false, false, false, false, false, false, false, false, false, false, false, false, false, false] (by kernel_rfl) rfl rfl ?_
        refine takeR_ (i := 0) (N := some 126) (v := ?_) (a' := ?_) #[true, false, false, false, false, false, false, false, false, false, false, false, false, false, false] (fun _ => True) [] hRr (fun _ _ _ _ _ _ => trivial) rfl rfl (by kernel_rfl) (fun _ _ _ h => h) (Or.inl ⟨by rfl, ?_⟩) trivial ?_ ?_
        rotate_left
        · intro w' _
          go_simp
          with_reducible rfl
        rotate_left
        · simp only [Act.put, List.setIfInBounds_toArray, List.set_cons_zero, List.set_cons_succ, i64_w, i32_w]
          rfl
        refine takeR_ (i := 2) (N := some 128) (v := ?_) (a' := ?_) #[true, false, true, false, false, false, false, false, false, false, false, false, false, false, false] (fun _ => True) [] hRr (fun _ _ _ _ _ _ => trivial) rfl rfl (by kernel_rfl) (fun _ _ _ h => h) (Or.inl ⟨by rfl, ?_⟩) trivial ?_ ?_
        rotate_left
        · intro w' _
          go_simp
          with_reducible rfl
        rotate_left
        · simp only [Act.put, List.setIfInBounds_toArray, List.set_cons_zero, List.set_cons_succ, i64_w, i32_w]
          rfl
        refine takeR_ (i := 7) (N := some 133) (v := ?_) (a' := ?_) #[true, false, true, false, false, false, false, true, false, false, false, false, false, false, false] (fun _ => True) [] hRr (fun _ _ _ _ _ _ => trivial) rfl rfl (by kernel_rfl) (fun _ _ _ h => h) (Or.inl ⟨by rfl, ?_⟩) trivial ?_ ?_
        rotate_left
        · intro w' _
          go_simp
          with_reducible rfl
        rotate_left
        · simp only [Act.put, List.setIfInBounds_toArray, List.set_cons_zero, List.set_cons_succ, i64_w, i32_w]
          rfl
        refine takeR_ (i := 1) (N := some 127) (v := ?_) (a' := ?_) #[true, true, true, false, false, false, false, true, false, false, false, false, false, false, false] (fun W => S1 W) [] hRr hR1 rfl rfl (by kernel_rfl) (fun _ _ _ h => h) (Or.inl ⟨by rfl, ?_⟩) HS1.out ?_ ?_
        rotate_left
        · intro w' hs; obtain ⟨s0, s1⟩ := HS1e.out w' hs; clear hs
          go_simp
          with_reducible rfl
        rotate_left
        · simp only [Act.put, List.setIfInBounds_toArray, List.set_cons_zero, List.set_cons_succ, i64_w, i32_w]
          rfl
        refine takeR_ (i := 3) (N := some 129) (v := ?_) (a' := ?_) #[true, true, true, true, false, false, false, true, false, false, false, false, false, false, false] (fun W => S1 W) [] hRr hR1 rfl rfl (by kernel_rfl) (fun _ _ _ h => h) (Or.inl ⟨by rfl, ?_⟩) HS1.out ?_ ?_
        rotate_left
        · intro w' hs; obtain ⟨s0, s1⟩ := HS1e.out w' hs; clear hs
          go_simp
          with_reducible rfl
        rotate_left
        · simp only [Act.put, List.setIfInBounds_toArray, List.set_cons_zero, List.set_cons_succ, i64_w, i32_w]
          rfl
        refine takeR_ (i := 4) (N := some 130) (v := ?_) (a' := ?_) #[true, true, true, true, true, false, false, true, false, false, false, false, false, false, false] (fun _ => True) [] hRr (fun _ _ _ _ _ _ => trivial) rfl rfl (by kernel_rfl) (fun _ _ _ h => h) (Or.inl ⟨by rfl, ?_⟩) trivial ?_ ?_
        rotate_left
        · intro w' _
          go_simp
          with_reducible rfl
        rotate_left
        · simp only [Act.put, List.setIfInBounds_toArray, List.set_cons_zero, List.set_cons_succ, i64_w, i32_w]
          rfl
        refine takeR_ (i := 5) (N := some 131) (v := ?_) (a' := ?_) #[true, true, true, true, true, true, false, true, false, false, false, false, false, false, false] (fun _ => True) [] hRr (fun _ _ _ _ _ _ => trivial) rfl rfl (by kernel_rfl) (fun _ _ _ h => h) (Or.inl ⟨by rfl, ?_⟩) trivial ?_ ?_
        rotate_left
        · intro w' _
          go_simp
          with_reducible rfl
        rotate_left
        · simp only [Act.put, List.setIfInBounds_toArray, List.set_cons_zero, List.set_cons_succ, i64_w, i32_w]
          rfl
        refine takeR_ (i := 6) (N := some 132) (v := ?_) (a' := ?_) #[true, true, true, true, true, true, true, true, false, false, false, false, false, false, false] (fun W => S3 W) [14] hRr hR3 rfl rfl (by kernel_rfl) (fun _ _ _ h => h) (Or.inl ⟨by rfl, ?_⟩) HS3.out ?_ ?_
        rotate_left
        · intro w' hs; have s0 := HS3e.out w' hs; clear hs
          go_simp
          with_reducible rfl
        rotate_left
        · simp only [Act.put, List.setIfInBounds_toArray, List.set_cons_zero, List.set_cons_succ, i64_w, i32_w]
          rfl
        refine takeR_ (i := 8) (N := some 134) (v := ?_) (a' := ?_) #[true, true, true, true, true, true, true, true, true, false, false, false, false, false, false] (fun W => S1 W) [] hRr hR1 rfl rfl (by kernel_rfl) (fun _ _ _ h => h) (Or.inl ⟨by rfl, ?_⟩) HS1.out ?_ ?_
        rotate_left
        · intro w' hs; obtain ⟨s0, s1⟩ := HS1e.out w' hs; clear hs
          go_simp
          with_reducible rfl
        rotate_left
        · simp only [Act.put, List.setIfInBounds_toArray, List.set_cons_zero, List.set_cons_succ, i64_w, i32_w]
          rfl
        refine takeR_ (i := 9) (N := some 135) (v := ?_) (a' := ?_) #[true, true, true, true, true, true, true, true, true, true, false, false, false, false, false] (fun _ => True) [] hRr (fun _ _ _ _ _ _ => trivial) rfl rfl (by kernel_rfl) (fun _ _ _ h => h) (Or.inl ⟨by rfl, ?_⟩) trivial ?_ ?_
        rotate_left
        · intro w' _
          go_simp
          with_reducible rfl
        rotate_left
        · simp only [Act.put, List.setIfInBounds_toArray, List.set_cons_zero, List.set_cons_succ, i64_w, i32_w]
          rfl
        refine takeR_ (i := 10) (N := some 136) (v := ?_) (a' := ?_) #[true, true, true, true, true, true, true, true, true, true, true, false, false, false, false] (fun _ => True) [] hRr (fun _ _ _ _ _ _ => trivial) rfl rfl (by kernel_rfl) (fun _ _ _ h => h) (Or.inl ⟨by rfl, ?_⟩) trivial ?_ ?_
        rotate_left
        · intro w' _
          go_simp
          with_reducible rfl
        rotate_left
        · simp only [Act.put, List.setIfInBounds_toArray, List.set_cons_zero, List.set_cons_succ, i64_w, i32_w]
          rfl
        refine takeR_ (i := 11) (N := some 137) (v := ?_) (a' := ?_) #[true, true, true, true, true, true, true, true, true, true, true, true, false, false, false] (fun _ => True) [] hRr (fun _ _ _ _ _ _ => trivial) rfl rfl (by kernel_rfl) (fun _ _ _ h => h) (Or.inl ⟨by rfl, ?_⟩) trivial ?_ ?_
        rotate_left
        · intro w' _
          go_simp
          with_reducible rfl
        rotate_left
        · simp only [Act.put, List.setIfInBounds_toArray, List.set_cons_zero, List.set_cons_succ, i64_w, i32_w]
          rfl
        refine takeR_ (i := 12) (N := some 138) (v := ?_) (a' := ?_) #[true, true, true, true, true, true, true, true, true, true, true, true, true, false, false] (fun _ => True) [] hRr (fun _ _ _ _ _ _ => trivial) rfl rfl (by kernel_rfl) (fun _ _ _ h => h) (Or.inl ⟨by rfl, ?_⟩) trivial ?_ ?_
        rotate_left
        · intro w' _
          go_simp
          with_reducible rfl
        rotate_left
        · simp only [Act.put, List.setIfInBounds_toArray, List.set_cons_zero, List.set_cons_succ, i64_w, i32_w]
          rfl
        refine takeR_ (i := 13) (N := some 139) (v := ?_) (a' := ?_) #[true, true, true, true, true, true, true, true, true, true, true, true, true, true, false] (fun _ => True) [] hRr (fun _ _ _ _ _ _ => trivial) rfl rfl (by kernel_rfl) (fun _ _ _ h => h) (Or.inl ⟨by rfl, ?_⟩) trivial ?_ ?_
        rotate_left
        · intro w' _
          go_simp
          with_reducible rfl
        rotate_left
        · simp only [Act.put, List.setIfInBounds_toArray, List.set_cons_zero, List.set_cons_succ, i64_w, i32_w]
          rfl
        refine oneR_ (i := 14) (N := none) #[true, true, true, true, true, true, true, true, true, true, true, true, true, true, true] rfl rfl (by kernel_rfl) (fun K hK => ?_)
        refine skip_ (w1 := ?_) (by rfl) rfl ?_ ?_
        rotate_left
        · go_simp
          rfl
        refine hK.out _ _ (hkeep 14 _ _ _ (by decide)) ?_
        clear hK K
        refine doneR_ (by kernel_rfl) ?_
        clear hkeep hRr hR1 hR3 HS1 HS1e HS3 HS3e ff q1
        go_upto_region 17 with fail
        have hWg : ∃ Wg, Wg = (Wf.setCell ⟨Td, 1, none⟩ (.slice (some ⟨P1, 0, none⟩) E.toNat 2)).drew := ⟨_, rfl⟩
        obtain ⟨Wg, hWg⟩ := hWg
        have HDg : Aside0 (DIn Wg gd Ad cd Td P1 P2 chd l0d (.slice (some ⟨P1, 0, none⟩) E.toNat 2) sD) := ⟨by rw [hWg]; exact din_below (din_pts HDf.out _) (below_drew (Below.refl _ _))⟩
        have HBcg : Aside0 (Below wc.heap.size wc Wg) := ⟨by rw [hWg]; exact (HBcf.out.setCell (by exact HTD.out) _).drew⟩
        rw [← hWg]
        have HBwg : Aside0 (Below w.heap.size w Wg) := ⟨below_then HB03.out HB03.out.size (below_then HB2c.out HB2c.out.size HBcg.out)⟩
        have HBg : Aside0 (Wg.heap[w.heap.size]? = some (.cells #[.slice A la.length a, .slice B lt.length b, .slice C lc.length c] 26)) := ⟨blk_below (blk_below HBB3.out HB2c.out) HBcg.out⟩
        have HMg := Aside0.mk (board_below HM2.out HBcg.out)
        have HEn : Aside0 (E.toNat ≤ 2) := ⟨by omega⟩
        clear hWg hE hE0 hE1 hne1 hne2
        have hb0 := both_any Wg A B C a b c la lt lc (Kd.C_below HA.out HBwg.out) HCA.out (Kd.C_below HT.out HBwg.out) HCT.out (Kd.C_below HC.out HBwg.out) HCC.out HS.out
        have hb1 := both_board HMg.out
        have hb2 := both_din HDg.out HEn.out HSD.out
        generalize (areasB la && templatesB lt && chordsB lc) = v0 at hb0
        generalize (areasB l2 && templatesB tpl2 && chordsB ch2) = v1 at hb1
        generalize (areasB l0d && templatesB (tplD E.toNat) && chordsB (chD sD)) = v2 at hb2
        have HV0 := Aside0.mk hb0
        have HV1 := Aside0.mk hb1
        have HV2 := Aside0.mk hb2
        obtain ⟨SS, hSS⟩ : ∃ S : World → Prop, S = fun W' => Below Wg.heap.size Wg W' := ⟨_, rfl⟩
        have hRR : ∃ R : Nat → World → World → Prop, R = fun i W W' => SS W → SS W' := ⟨_, rfl⟩
        obtain ⟨RR, hRR⟩ := hRR
        have HSb : Aside0 (∀ W', SS W' → Below Wg.heap.size Wg W') := ⟨fun W' h => by rw [hSS] at h; exact h⟩
        have HSw : Aside0 (∀ W', SS W' → Below w.heap.size w W') := ⟨fun W' h => by rw [hSS] at h; exact below_then HBwg.out HBwg.out.size h⟩
        have HS1 : Aside0 (SS Wg.drew) := ⟨by rw [hSS]; exact below_drew (Below.refl _ _)⟩
        have HSt : Aside0 (∀ W W', SS W → Below W.heap.size W W' → SS W') := ⟨fun W W' h hb => by rw [hSS] at h ⊢; exact below_then h h.size hb⟩
        have hRr : ∀ i W, RR i W W := fun i W => by rw [hRR]; exact id
        have hR1 : ∀ (j : Nat) W W', j ∉ ([] : List Nat) → RR j W W' → SS W → SS W' := fun j W W' _ h => by rw [hRR] at h; exact h
        have hRb : ∀ (j : Nat) W W', Below W.heap.size W W' → RR j W W' := fun j W W' hb => by rw [hRR]; exact fun h => HSt.out W W' h hb
        have HSe : Aside0 (∀ W', SS W' → W'.cell? ⟨w.heap.size, 0, none⟩ = some (.slice A la.length a) ∧ W'.cell? ⟨w.heap.size, 1, none⟩ = some (.slice B lt.length b) ∧ W'.cell? ⟨w.heap.size, 2, none⟩ = some (.slice C lc.length c) ∧
            W'.cell? ⟨g5, 0, none⟩ = some (.slice A2 l2.length c2) ∧ W'.cell? ⟨g5, 1, none⟩ = some (.slice (some ⟨T, 0, none⟩) 2 2) ∧ W'.cell? ⟨g5, 2, none⟩ = some (.slice (some ⟨ch, 0, none⟩) 2 2) ∧
            W'.cell? ⟨gd, 0, none⟩ = some (.slice Ad l0d.length cd) ∧ W'.cell? ⟨gd, 1, none⟩ = some (.slice (some ⟨Td, 0, none⟩) 2 2) ∧ W'.cell? ⟨gd, 2, none⟩ = some (.slice (some ⟨chd, 0, none⟩) 2 2)) := ⟨fun W' h => by
          have hB := HSb.out W' h
          have e0 := blk_below HBg.out hB
          have e1 := blk_below HMg.out.1 hB
          have e2 := blk_below HDg.out.1 hB
          exact ⟨(blk_cell e0 0).trans rfl, (blk_cell e0 1).trans rfl, (blk_cell e0 2).trans rfl, (blk_cell e1 0).trans rfl, (blk_cell e1 1).trans rfl, (blk_cell e1 2).trans rfl, (blk_cell e2 0).trans rfl, (blk_cell e2 1).trans rfl, (blk_cell e2 2).trans rfl⟩⟩
        clear hRR hSS hb0 hb1 hb2
        refine startR_ (n := 28) (R := RR) #[false, false, false, false, false, false, false, false, false, false, false, false, false, false, false, false, false, false, false, false, false, false, false, false, false, false, false, false] (by kernel_rfl) rfl rfl ?_
        refine takeR_ (i := 0) (N := some 140) (v := ?_) (a' := ?_) #[true, false, false, false, false, false, false, false, false, false, false, false, false, false, false, false, false, false, false, false, false, false, false, false, false, false, false, false] (fun W => SS W) [] hRr hR1 rfl rfl (by kernel_rfl) (fun _ _ _ h => h) (Or.inl ⟨by rfl, ?_⟩) HS1.out ?_ ?_
        rotate_left
        · intro w' hs; obtain ⟨s0, s1, s2, s3, s4, s5, s6, s7, s8⟩ := HSe.out w' hs; clear hs
          go_simp
          with_reducible rfl
        rotate_left
        · simp only [Act.put, List.setIfInBounds_toArray, List.set_cons_zero, List.set_cons_succ, i64_w, i32_w]
          rfl
        refine takeR_ (i := 2) (N := some 142) (v := ?_) (a' := ?_) #[true, false, true, false, false, false, false, false, false, false, false, false, false, false, false, false, false, false, false, false, false, false, false, false, false, false, false, false] (fun W => SS W) [] hRr hR1 rfl rfl (by kernel_rfl) (fun _ _ _ h => h) (Or.inl ⟨by rfl, ?_⟩) HS1.out ?_ ?_
        rotate_left
        · intro w' hs; obtain ⟨s0, s1, s2, s3, s4, s5, s6, s7, s8⟩ := HSe.out w' hs; clear hs
          go_simp
          with_reducible rfl
        rotate_left
        · simp only [Act.put, List.setIfInBounds_toArray, List.set_cons_zero, List.set_cons_succ, i64_w, i32_w]
          rfl
        refine oneR_ (i := 1) (N := some 141) #[true, true, true, false, false, false, false, false, false, false, false, false, false, false, false, false, false, false, false, false, false, false, false, false, false, false, false, false] rfl rfl (by kernel_rfl) (fun K hK => ?_)
        refine goes_ Try.func12 (by kernel_rfl) rfl #[.agg #[.slice A la.length a, .slice B lt.length b, .slice C lc.length c]] (by rfl) rfl rfl (by simp only [List.map_toArray, List.map_cons, List.map_nil]; rfl) ?_
        refine ((HV0.out _ (HSb.out _ HS1.out)).1).mono ?_
        rintro e w2 ⟨rfl, hb⟩
        refine ⟨_, rfl, ?_⟩
        refine hK.out _ _ (hRb 1 _ _ hb) ?_
        clear hK K
        have HQ1 := Aside0.mk (HSt.out _ _ HS1.out hb)
        clear hb
        refine normR_ (a' := ?_) ?_ ?_
        rotate_left
        · show Act.put _ (some 141) _ = _
          simp only [Act.put, List.setIfInBounds_toArray, List.set_cons_zero, List.set_cons_succ, i64_w, i32_w]
          rfl
        refine oneR_ (i := 3) (N := some 143) #[true, true, true, true, false, false, false, false, false, false, false, false, false, false, false, false, false, false, false, false, false, false, false, false, false, false, false, false] rfl rfl (by kernel_rfl) (fun K hK => ?_)
        refine goes_ Try.func13 (by kernel_rfl) rfl #[.agg #[.slice A la.length a, .slice B lt.length b, .slice C lc.length c]] (by rfl) rfl rfl (by simp only [List.map_toArray, List.map_cons, List.map_nil]; rfl) ?_
        refine ((HV0.out _ (HSb.out _ HQ1.out)).2).mono ?_
        rintro e w2 ⟨rfl, hb⟩
        refine ⟨_, rfl, ?_⟩
        refine hK.out _ _ (hRb 3 _ _ hb) ?_
        clear hK K
        have HQ2 := Aside0.mk (HSt.out _ _ HQ1.out hb)
        clear hb
        refine normR_ (a' := ?_) ?_ ?_
        rotate_left
        · show Act.put _ (some 143) _ = _
          simp only [Act.put, List.setIfInBounds_toArray, List.set_cons_zero, List.set_cons_succ, i64_w, i32_w]
          rfl
        refine takeR_ (i := 4) (N := some 144) (v := ?_) (a' := ?_) #[true, true, true, true, true, false, false, false, false, false, false, false, false, false, false, false, false, false, false, false, false, false, false, false, false, false, false, false] (fun _ => True) [] hRr (fun _ _ _ _ _ _ => trivial) rfl rfl (by kernel_rfl) (fun _ _ _ h => h) (Or.inl ⟨by rfl, ?_⟩) trivial ?_ ?_
        rotate_left
        · intro w' _
          go_simp
          with_reducible rfl
        rotate_left
        · simp only [Act.put, List.setIfInBounds_toArray, List.set_cons_zero, List.set_cons_succ, i64_w, i32_w]
          rfl
        refine takeR_ (i := 5) (N := some 145) (v := ?_) (a' := ?_) #[true, true, true, true, true, true, false, false, false, false, false, false, false, false, false, false, false, false, false, false, false, false, false, false, false, false, false, false] (fun _ => True) [] hRr (fun _ _ _ _ _ _ => trivial) rfl rfl (by kernel_rfl) (fun _ _ _ h => h) (Or.inl ⟨by rfl, ?_⟩) trivial ?_ ?_
        rotate_left
        · intro w' _
          go_simp
          with_reducible rfl
        rotate_left
        · simp only [Act.put, List.setIfInBounds_toArray, List.set_cons_zero, List.set_cons_succ, i64_w, i32_w]
          rfl
        refine takeR_ (i := 6) (N := some 146) (v := ?_) (a' := ?_) #[true, true, true, true, true, true, true, false, false, false, false, false, false, false, false, false, false, false, false, false, false, false, false, false, false, false, false, false] (fun W => SS W) [] hRr hR1 rfl rfl (by kernel_rfl) (fun _ _ _ h => h) (Or.inl ⟨by rfl, ?_⟩) HQ2.out ?_ ?_
        rotate_left
        · intro w' hs; obtain ⟨s0, s1, s2, s3, s4, s5, s6, s7, s8⟩ := HSe.out w' hs; clear hs
          go_simp
          with_reducible rfl
        rotate_left
        · simp only [Act.put, List.setIfInBounds_toArray, List.set_cons_zero, List.set_cons_succ, i64_w, i32_w]
          rfl
        refine takeR_ (i := 8) (N := some 148) (v := ?_) (a' := ?_) #[true, true, true, true, true, true, true, false, true, false, false, false, false, false, false, false, false, false, false, false, false, false, false, false, false, false, false, false] (fun W => SS W) [] hRr hR1 rfl rfl (by kernel_rfl) (fun _ _ _ h => h) (Or.inl ⟨by rfl, ?_⟩) HQ2.out ?_ ?_
        rotate_left
        · intro w' hs; obtain ⟨s0, s1, s2, s3, s4, s5, s6, s7, s8⟩ := HSe.out w' hs; clear hs
          go_simp
          with_reducible rfl
        rotate_left
        · simp only [Act.put, List.setIfInBounds_toArray, List.set_cons_zero, List.set_cons_succ, i64_w, i32_w]
          rfl
        refine oneR_ (i := 7) (N := some 147) #[true, true, true, true, true, true, true, true, true, false, false, false, false, false, false, false, false, false, false, false, false, false, false, false, false, false, false, false] rfl rfl (by kernel_rfl) (fun K hK => ?_)
        refine goes_ Try.func12 (by kernel_rfl) rfl #[.agg #[.slice A2 l2.length c2, .slice (some ⟨T, 0, none⟩) 2 2, .slice (some ⟨ch, 0, none⟩) 2 2]] (by rfl) rfl rfl (by simp only [List.map_toArray, List.map_cons, List.map_nil]; rfl) ?_
        refine ((HV1.out _ (HSb.out _ HQ2.out)).1).mono ?_
        rintro e w2 ⟨rfl, hb⟩
        refine ⟨_, rfl, ?_⟩
        refine hK.out _ _ (hRb 7 _ _ hb) ?_
        clear hK K
        have HQ3 := Aside0.mk (HSt.out _ _ HQ2.out hb)
        clear hb
        refine normR_ (a' := ?_) ?_ ?_
        rotate_left
        · show Act.put _ (some 147) _ = _
          simp only [Act.put, List.setIfInBounds_toArray, List.set_cons_zero, List.set_cons_succ, i64_w, i32_w]
          rfl
        refine oneR_ (i := 9) (N := some 149) #[true, true, true, true, true, true, true, true, true, true, false, false, false, false, false, false, false, false, false, false, false, false, false, false, false, false, false, false] rfl rfl (by kernel_rfl) (fun K hK => ?_)
        refine goes_ Try.func13 (by kernel_rfl) rfl #[.agg #[.slice A2 l2.length c2, .slice (some ⟨T, 0, none⟩) 2 2, .slice (some ⟨ch, 0, none⟩) 2 2]] (by rfl) rfl rfl (by simp only [List.map_toArray, List.map_cons, List.map_nil]; rfl) ?_
        refine ((HV1.out _ (HSb.out _ HQ3.out)).2).mono ?_
        rintro e w2 ⟨rfl, hb⟩
        refine ⟨_, rfl, ?_⟩
        refine hK.out _ _ (hRb 9 _ _ hb) ?_
        clear hK K
        have HQ4 := Aside0.mk (HSt.out _ _ HQ3.out hb)
        clear hb
        refine normR_ (a' := ?_) ?_ ?_
        rotate_left
        · show Act.put _ (some 149) _ = _
          simp only [Act.put, List.setIfInBounds_toArray, List.set_cons_zero, List.set_cons_succ, i64_w, i32_w]
          rfl
        refine takeR_ (i := 10) (N := some 150) (v := ?_) (a' := ?_) #[true, true, true, true, true, true, true, true, true, true, true, false, false, false, false, false, false, false, false, false, false, false, false, false, false, false, false, false] (fun _ => True) [] hRr (fun _ _ _ _ _ _ => trivial) rfl rfl (by kernel_rfl) (fun _ _ _ h => h) (Or.inl ⟨by rfl, ?_⟩) trivial ?_ ?_
        rotate_left
        · intro w' _
          go_simp
          with_reducible rfl
        rotate_left
        · simp only [Act.put, List.setIfInBounds_toArray, List.set_cons_zero, List.set_cons_succ, i64_w, i32_w]
          rfl
        refine takeR_ (i := 11) (N := some 151) (v := ?_) (a' := ?_) #[true, true, true, true, true, true, true, true, true, true, true, true, false, false, false, false, false, false, false, false, false, false, false, false, false, false, false, false] (fun _ => True) [] hRr (fun _ _ _ _ _ _ => trivial) rfl rfl (by kernel_rfl) (fun _ _ _ h => h) (Or.inl ⟨by rfl, ?_⟩) trivial ?_ ?_
        rotate_left
        · intro w' _
          go_simp
          with_reducible rfl
        rotate_left
        · simp only [Act.put, List.setIfInBounds_toArray, List.set_cons_zero, List.set_cons_succ, i64_w, i32_w]
          rfl
        refine takeR_ (i := 12) (N := some 152) (v := ?_) (a' := ?_) #[true, true, true, true, true, true, true, true, true, true, true, true, true, false, false, false, false, false, false, false, false, false, false, false, false, false, false, false] (fun _ => True) [] hRr (fun _ _ _ _ _ _ => trivial) rfl rfl (by kernel_rfl) (fun _ _ _ h => h) (Or.inl ⟨by rfl, ?_⟩) trivial ?_ ?_
        rotate_left
        · intro w' _
          go_simp
          with_reducible rfl
        rotate_left
        · simp only [Act.put, List.setIfInBounds_toArray, List.set_cons_zero, List.set_cons_succ, i64_w, i32_w]
          rfl
        refine takeR_ (i := 13) (N := some 153) (v := ?_) (a' := ?_) #[true, true, true, true, true, true, true, true, true, true, true, true, true, true, false, false, false, false, false, false, false, false, false, false, false, false, false, false] (fun W => SS W) [] hRr hR1 rfl rfl (by kernel_rfl) (fun _ _ _ h => h) (Or.inl ⟨by rfl, ?_⟩) HQ4.out ?_ ?_
        rotate_left
        · intro w' hs; obtain ⟨s0, s1, s2, s3, s4, s5, s6, s7, s8⟩ := HSe.out w' hs; clear hs
          go_simp
          with_reducible rfl
        rotate_left
        · simp only [Act.put, List.setIfInBounds_toArray, List.set_cons_zero, List.set_cons_succ, i64_w, i32_w]
          rfl
        refine takeR_ (i := 15) (N := some 155) (v := ?_) (a' := ?_) #[true, true, true, true, true, true, true, true, true, true, true, true, true, true, false, true, false, false, false, false, false, false, false, false, false, false, false, false] (fun W => SS W) [] hRr hR1 rfl rfl (by kernel_rfl) (fun _ _ _ h => h) (Or.inl ⟨by rfl, ?_⟩) HQ4.out ?_ ?_
        rotate_left
        · intro w' hs; obtain ⟨s0, s1, s2, s3, s4, s5, s6, s7, s8⟩ := HSe.out w' hs; clear hs
          go_simp
          with_reducible rfl
        rotate_left
        · simp only [Act.put, List.setIfInBounds_toArray, List.set_cons_zero, List.set_cons_succ, i64_w, i32_w]
          rfl
        refine oneR_ (i := 14) (N := some 154) #[true, true, true, true, true, true, true, true, true, true, true, true, true, true, true, true, false, false, false, false, false, false, false, false, false, false, false, false] rfl rfl (by kernel_rfl) (fun K hK => ?_)
        refine goes_ Try.func12 (by kernel_rfl) rfl #[.agg #[.slice Ad l0d.length cd, .slice (some ⟨Td, 0, none⟩) 2 2, .slice (some ⟨chd, 0, none⟩) 2 2]] (by rfl) rfl rfl (by simp only [List.map_toArray, List.map_cons, List.map_nil]; rfl) ?_
        refine ((HV2.out _ (HSb.out _ HQ4.out)).1).mono ?_
        rintro e w2 ⟨rfl, hb⟩
        refine ⟨_, rfl, ?_⟩
        refine hK.out _ _ (hRb 14 _ _ hb) ?_
        clear hK K
        have HQ5 := Aside0.mk (HSt.out _ _ HQ4.out hb)
        clear hb
        refine normR_ (a' := ?_) ?_ ?_
        rotate_left
        · show Act.put _ (some 154) _ = _
          simp only [Act.put, List.setIfInBounds_toArray, List.set_cons_zero, List.set_cons_succ, i64_w, i32_w]
          rfl
        refine oneR_ (i := 16) (N := some 156) #[true, true, true, true, true, true, true, true, true, true, true, true, true, true, true, true, true, false, false, false, false, false, false, false, false, false, false, false] rfl rfl (by kernel_rfl) (fun K hK => ?_)
        refine goes_ Try.func13 (by kernel_rfl) rfl #[.agg #[.slice Ad l0d.length cd, .slice (some ⟨Td, 0, none⟩) 2 2, .slice (some ⟨chd, 0, none⟩) 2 2]] (by rfl) rfl rfl (by simp only [List.map_toArray, List.map_cons, List.map_nil]; rfl) ?_
        refine ((HV2.out _ (HSb.out _ HQ5.out)).2).mono ?_
        rintro e w2 ⟨rfl, hb⟩
        refine ⟨_, rfl, ?_⟩
        refine hK.out _ _ (hRb 16 _ _ hb) ?_
        clear hK K
        have HQ6 := Aside0.mk (HSt.out _ _ HQ5.out hb)
        clear hb
        refine normR_ (a' := ?_) ?_ ?_
        rotate_left
        · show Act.put _ (some 156) _ = _
          simp only [Act.put, List.setIfInBounds_toArray, List.set_cons_zero, List.set_cons_succ, i64_w, i32_w]
          rfl
        refine takeR_ (i := 17) (N := some 157) (v := ?_) (a' := ?_) #[true, true, true, true, true, true, true, true, true, true, true, true, true, true, true, true, true, true, false, false, false, false, false, false, false, false, false, false] (fun _ => True) [] hRr (fun _ _ _ _ _ _ => trivial) rfl rfl (by kernel_rfl) (fun _ _ _ h => h) (Or.inl ⟨by rfl, ?_⟩) trivial ?_ ?_
        rotate_left
        · intro w' _
          go_simp
          with_reducible rfl
        rotate_left
        · simp only [Act.put, List.setIfInBounds_toArray, List.set_cons_zero, List.set_cons_succ, i64_w, i32_w]
          rfl
        refine takeR_ (i := 18) (N := some 158) (v := ?_) (a' := ?_) #[true, true, true, true, true, true, true, true, true, true, true, true, true, true, true, true, true, true, true, false, false, false, false, false, false, false, false, false] (fun _ => True) [] hRr (fun _ _ _ _ _ _ => trivial) rfl rfl (by kernel_rfl) (fun _ _ _ h => h) (Or.inl ⟨by rfl, ?_⟩) trivial ?_ ?_
        rotate_left
        · intro w' _
          go_simp
          with_reducible rfl
        rotate_left
        · simp only [Act.put, List.setIfInBounds_toArray, List.set_cons_zero, List.set_cons_succ, i64_w, i32_w]
          rfl
        refine takeR_ (i := 19) (N := some 159) (v := ?_) (a' := ?_) #[true, true, true, true, true, true, true, true, true, true, true, true, true, true, true, true, true, true, true, true, false, false, false, false, false, false, false, false] (fun _ => True) [] hRr (fun _ _ _ _ _ _ => trivial) rfl rfl (by kernel_rfl) (fun _ _ _ h => h) (Or.inl ⟨by rfl, ?_⟩) trivial ?_ ?_
        rotate_left
        · intro w' _
          go_simp
          with_reducible rfl
        rotate_left
        · simp only [Act.put, List.setIfInBounds_toArray, List.set_cons_zero, List.set_cons_succ, i64_w, i32_w]
          rfl
        refine takeR_ (i := 20) (N := some 160) (v := ?_) (a' := ?_) #[true, true, true, true, true, true, true, true, true, true, true, true, true, true, true, true, true, true, true, true, true, false, false, false, false, false, false, false] (fun _ => True) [] hRr (fun _ _ _ _ _ _ => trivial) rfl rfl (by kernel_rfl) (fun _ _ _ h => h) (Or.inl ⟨by rfl, ?_⟩) trivial ?_ ?_
        rotate_left
        · intro w' _
          go_simp
          with_reducible rfl
        rotate_left
        · simp only [Act.put, List.setIfInBounds_toArray, List.set_cons_zero, List.set_cons_succ, i64_w, i32_w]
          rfl
        refine oneR_ (i := 21) (N := some 161) #[true, true, true, true, true, true, true, true, true, true, true, true, true, true, true, true, true, true, true, true, true, true, false, false, false, false, false, false] rfl rfl (by kernel_rfl) (fun K hK => ?_)
        refine goes_ Try.func11 (by kernel_rfl) rfl #[.slice L l.length cl] (by rfl) rfl rfl (by simp only [List.map_toArray, List.map_cons, List.map_nil]; rfl) ?_
        refine (made_any _ L cl l (Kd.C_below HL.out (HSw.out _ HQ6.out)) HIB.out).mono ?_
        rintro e w2 ⟨Af, cf, Tf, rfl, hMf⟩
        refine ⟨_, rfl, ?_⟩
        refine hK.out _ _ (hRb 21 _ _ hMf.1) ?_
        clear hK K
        have HMf := Aside0.mk hMf
        have HP3 := Aside0.mk (HSt.out _ _ HQ6.out hMf.1)
        clear hMf
        refine normR_ (a' := ?_) ?_ ?_
        rotate_left
        · show Act.put _ (some 161) _ = _
          simp only [Act.put, List.setIfInBounds_toArray, List.set_cons_zero, List.set_cons_succ, i64_w, i32_w]
          rfl
        refine oneR_ (i := 22) (N := some 162) #[true, true, true, true, true, true, true, true, true, true, true, true, true, true, true, true, true, true, true, true, true, true, true, false, false, false, false, false] rfl rfl (by kernel_rfl) (fun K hK => ?_)
        refine goes_ Try.func12 (by kernel_rfl) rfl #[.agg #[.slice Af (made l).length cf, .slice (some ⟨Tf, 0, none⟩) 2 2, .slice (some ⟨_ + 1, 0, none⟩) 2 2]] (by rfl) rfl rfl (by simp only [List.map_toArray, List.map_cons, List.map_nil]; rfl) ?_
        refine (valid_made HMf.out HIB.out).mono ?_
        rintro e w3 ⟨rfl, hb⟩
        refine ⟨_, rfl, ?_⟩
        refine hK.out _ _ (hRb 22 _ _ hb) ?_
        clear hK K
        have HP4 := Aside0.mk (HSt.out _ _ HP3.out hb)
        clear hb
        refine normR_ (a' := ?_) ?_ ?_
        rotate_left
        · show Act.put _ (some 162) _ = _
          simp only [Act.put, List.setIfInBounds_toArray, List.set_cons_zero, List.set_cons_succ, i64_w, i32_w]
          rfl
        refine takeR_ (i := 23) (N := some 163) (v := ?_) (a' := ?_) #[true, true, true, true, true, true, true, true, true, true, true, true, true, true, true, true, true, true, true, true, true, true, true, true, false, false, false, false] (fun _ => True) [] hRr (fun _ _ _ _ _ _ => trivial) rfl rfl (by kernel_rfl) (fun _ _ _ h => h) (Or.inl ⟨by rfl, ?_⟩) trivial ?_ ?_
        rotate_left
        · intro w' _
          go_simp
          with_reducible rfl
        rotate_left
        · simp only [Act.put, List.setIfInBounds_toArray, List.set_cons_zero, List.set_cons_succ, i64_w, i32_w]
          rfl
        refine takeR_ (i := 24) (N := some 164) (v := ?_) (a' := ?_) #[true, true, true, true, true, true, true, true, true, true, true, true, true, true, true, true, true, true, true, true, true, true, true, true, true, false, false, false] (fun _ => True) [] hRr (fun _ _ _ _ _ _ => trivial) rfl rfl (by kernel_rfl) (fun _ _ _ h => h) (Or.inl ⟨by rfl, ?_⟩) trivial ?_ ?_
        rotate_left
        · intro w' _
          go_simp
          with_reducible rfl
        rotate_left
        · simp only [Act.put, List.setIfInBounds_toArray, List.set_cons_zero, List.set_cons_succ, i64_w, i32_w]
          rfl
        refine takeR_ (i := 25) (N := some 165) (v := ?_) (a' := ?_) #[true, true, true, true, true, true, true, true, true, true, true, true, true, true, true, true, true, true, true, true, true, true, true, true, true, true, false, false] (fun _ => True) [] hRr (fun _ _ _ _ _ _ => trivial) rfl rfl (by kernel_rfl) (fun _ _ _ h => h) (Or.inl ⟨by rfl, ?_⟩) trivial ?_ ?_
        rotate_left
        · intro w' _
          go_simp
          with_reducible rfl
        rotate_left
        · simp only [Act.put, List.setIfInBounds_toArray, List.set_cons_zero, List.set_cons_succ, i64_w, i32_w]
          rfl
        refine takeR_ (i := 26) (N := some 166) (v := ?_) (a' := ?_) #[true, true, true, true, true, true, true, true, true, true, true, true, true, true, true, true, true, true, true, true, true, true, true, true, true, true, true, false] (fun _ => True) [] hRr (fun _ _ _ _ _ _ => trivial) rfl rfl (by kernel_rfl) (fun _ _ _ h => h) (Or.inl ⟨by rfl, ?_⟩) trivial ?_ ?_
        rotate_left
        · intro w' _
          go_simp
          with_reducible rfl
        rotate_left
        · simp only [Act.put, List.setIfInBounds_toArray, List.set_cons_zero, List.set_cons_succ, i64_w, i32_w]
          rfl
        refine takeR_ (i := 27) (N := some 6) (v := ?_) (a' := ?_) #[true, true, true, true, true, true, true, true, true, true, true, true, true, true, true, true, true, true, true, true, true, true, true, true, true, true, true, true] (fun _ => True) [] hRr (fun _ _ _ _ _ _ => trivial) rfl rfl (by kernel_rfl) (fun _ _ _ h => h) (Or.inl ⟨by rfl, ?_⟩) trivial ?_ ?_
        rotate_left
        · intro w' _
          go_simp
          with_reducible rfl
        rotate_left
        · simp only [Act.put, List.setIfInBounds_toArray, List.set_cons_zero, List.set_cons_succ, i64_w, i32_w]
          rfl
        refine doneR_ (by kernel_rfl) ?_
        go_wp2
        go_ret
        exact ⟨rfl, HSw.out _ HP4.out⟩
end Go.Proofs.Ytplhilglokbplaa
