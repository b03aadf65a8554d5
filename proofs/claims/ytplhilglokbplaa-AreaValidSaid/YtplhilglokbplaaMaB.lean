/- R21.Made: its walk. -/
import Derived.Test.YtplhilglokbplaaMaL
import Derived.StillTailTactics
namespace Go.Proofs.Ytplhilglokbplaa
open Go.Shelf Go.RowKit Go.Proofs.YtplhilglokbplaaW.PrintWords Go.Proofs.YtplhilglokbplaaW.PrintLast Go.Proofs.YtplhilglokbplaaW.PrintMore PAll
set_option linter.unusedVariables false
set_option linter.unusedSimpArgs false

set_option maxRecDepth 100000 in
set_option maxHeartbeats 4000000 in
theorem made_any (w : World) (A : Option Addr) (c : Nat) (l : List B2) (hr : Kd.C kB2 w A l.length l) (hB : IsB l) :
    Calls Try.prog 11 #[.slice A l.length c] w fun e w' => ∃ A' c' T, e = .returned (.agg #[.slice A' (made l).length c', .slice (some ⟨T, 0, none⟩) 2 2, .slice (some ⟨w.heap.size + 1, 0, none⟩) 2 2]) ∧ MadeIn w w' l A' c' T := by
  have HR := Aside0.mk hr
  have hl := hr.2.1
  have HIB := Aside0.mk hB
  clear hr hB
  go_enter Try.func11, Try.ntmps11
  go_wp2
  go_loopg [4, 5, 6] (min l.length 14) (fun gg v4 v5 v6 wr => ∃ (i : Nat) (I X Y : Int) (v : Value), v4 = .int .i64 X ∧ v5 = .int .i64 Y ∧ v6 = .int .i64 I ∧ Aside0 (I = (i : Int) ∧ X = mX l i ∧ Y = mY i) ∧ Aside0 (i ≤ min l.length 14) ∧ Aside0 (min l.length 14 - i ≤ gg) ∧ Aside0 (Below w.heap.size w wr) ∧
    Aside0 (wr.heap[w.heap.size]? = some (.cells #[.slice none 0 0, .slice none 0 0, .slice none 0 0] 26)) ∧ Aside0 (wr.heap[w.heap.size + 1]? = some (.cells #[.string ⟨#[97, 98]⟩, .int .u8 99, .string ⟨#[97, 98, 99]⟩, .int .u8 97] 39)) ∧
    Aside0 (wr.heap[w.heap.size + 1 + 1]? = some (.cells #[v, .slice none 0 0, .slice (some ⟨w.heap.size + 1, 0, none⟩) 2 2] 26)) ∧
    Aside0 (Kd.R k36 36 wr w.heap.size (fun k => w.heap.size + 3 ≤ k) v ((List.range i).map (mA l))))
  case atStart =>
    refine ⟨0, 0, 0, 0, .slice none 0 0, rfl, rfl, rfl, ⟨by simp [mX, mY]⟩, ⟨by omega⟩, ⟨by omega⟩, ⟨?_⟩, ⟨?_⟩, ⟨?_⟩, ⟨?_⟩, ⟨Kd.R_nil _ _ _ _ _⟩⟩
    · exact (((Below.refl _ w).alloc (Nat.le_refl _) _).alloc (by simp) _).alloc (by simp; omega) _
    · exact blk_alloc (blk_alloc (heap_alloc_new _ _) _) _
    · exact blk_alloc (show _ = _ by rw [show w.heap.size + 1 = (w.alloc (Obj.cells #[Value.slice none 0 0, Value.slice none 0 0, Value.slice none 0 0] 26)).heap.size by simp]; exact heap_alloc_new _ _) _
    · rw [show w.heap.size + 1 + 1 = ((w.alloc (Obj.cells #[Value.slice none 0 0, Value.slice none 0 0, Value.slice none 0 0] 26)).alloc (Obj.cells #[Value.string ⟨#[97, 98]⟩, Value.int .u8 99, Value.string ⟨#[97, 98, 99]⟩, Value.int .u8 97] 39)).heap.size by simp]
      exact heap_alloc_new _ _
  case round =>
    obtain ⟨i, I, X, Y, v, rfl, rfl, rfl, HE, HI, HG, HB, HZ, HC, HW, HO⟩ := hrel
    obtain ⟨wo, rfl⟩ : ∃ wo : World, wo = wr := ⟨_, rfl⟩
    have hI := HI.out
    have hHW := HW.out
    have eI := HE.out.1
    by_cases hlt : I < l.length
    · have d1 : decide (I < (l.length : Int)) = true := decide_eq_true hlt
      by_cases hlt14 : I < 14
      · have d2 : decide (I < 14) = true := decide_eq_true hlt14
        obtain ⟨ad, e, hx0, hx1⟩ := at_B2 HR.out I (by omega) hlt
        cases e
        have hat : I.toNat = i := by omega
        rw [hat] at hx0 hx1
        have i0 : (0 : Int) ≤ I := by omega
        have hp := HIB.out i
        generalize hpe : l.getD i (0, 0) = p at hp hx0 hx1
        obtain ⟨p0, p1⟩ := p
        dsimp only at hp hx0 hx1
        have HX0 := Aside0.mk hx0
        replace hx0 := (HB.out.cell (World.block_lt_of_cell? w _ hx0)).trans hx0
        replace hx1 := (HB.out.cell (World.block_lt_of_cell? w _ hx1)).trans hx1
        have LL := Aside0.mk hlt
        have L14 := Aside0.mk hlt14
        clear hlt hlt14 hI eI
        have HP := Aside0.mk hp
        have HPE := Aside0.mk hpe
        clear hp hpe
        go_wp2
        have h2 := LL.out
        go_still (by kernel_rfl)
        clear h2
        change Exit.then _ _ _ _ wo.drew
        have w0 : IntKind.i64.wrap p0 = p0 := IntWalk.i64_in p0 ⟨by have := HP.out; omega, by have := HP.out; omega⟩
        have w1 : IntKind.i64.wrap p1 = p1 := IntWalk.i64_in p1 ⟨by have := HP.out; omega, by have := HP.out; omega⟩
        have m0 : p0.tmod 21 = p0 % 21 := Int.tmod_eq_emod_of_nonneg (by have := HP.out; omega)
        have m1 : p1.tmod 21 = p1 % 21 := Int.tmod_eq_emod_of_nonneg (by have := HP.out; omega)
        rw [w0, w1, m0, m1]
        clear hx0 hx1 m1 w1
        obtain ⟨W0, hW0⟩ : ∃ W0, W0 = p0 % 21 := ⟨_, rfl⟩
        obtain ⟨H0, hH0⟩ : ∃ H0, H0 = p1 % 21 := ⟨_, rfl⟩
        rw [← hW0, ← hH0]
        have HWH := Aside0.mk (And.intro hW0 hH0)
        clear hW0 hH0
        obtain ⟨W1, hW1⟩ : ∃ W1, W1 = wo.drew := ⟨_, rfl⟩
        rw [← hW1]
        have HB1 : Aside0 (Below w.heap.size w W1) := ⟨by rw [hW1]; exact below_drew HB.out⟩
        have HZ1 : Aside0 (W1.heap[w.heap.size]? = some (.cells #[.slice none 0 0, .slice none 0 0, .slice none 0 0] 26)) := ⟨by rw [hW1]; exact HZ.out⟩
        have HC1 : Aside0 (W1.heap[w.heap.size + 1]? = some (.cells #[.string ⟨#[97, 98]⟩, .int .u8 99, .string ⟨#[97, 98, 99]⟩, .int .u8 97] 39)) := ⟨by rw [hW1]; exact HC.out⟩
        have HW1 : Aside0 (W1.heap[w.heap.size + 1 + 1]? = some (.cells #[v, .slice none 0 0, .slice (some ⟨w.heap.size + 1, 0, none⟩) 2 2] 26)) := ⟨by rw [hW1]; exact HW.out⟩
        have HO1 : Aside0 (Kd.R k36 36 W1 w.heap.size (fun k => w.heap.size + 3 ≤ k) v ((List.range i).map (mA l))) := ⟨by rw [hW1]; exact Kd.R_drew HO.out⟩
        clear hHW hW1 HB HZ HC HW HO
        have c0 : W1.cell? ⟨w.heap.size + 1 + 1, 0, none⟩ = some v := (blk_cell HW1.out 0).trans rfl
        obtain ⟨A', c', hv⟩ := Kd.R_slice HO1.out
        rw [show ((List.range i).map (mA l)).length = i by simp] at hv
        subst hv
        have hb := mX_bound l HIB.out i
        have hhi := HI.out
        have hmy : 0 ≤ mY i ∧ mY i ≤ 44 := by unfold mY; omega
        rw [← HE.out.2.1] at hb
        rw [← HE.out.2.2] at hmy
        have g1 : wrap64 (97 + I) = 97 + I := wrap64_in' _ (by have := HE.out.1; omega) (by have := HE.out.1; omega)
        have g2 : (97 + I) % 256 = 97 + I := by have := HE.out.1; omega
        have g3 : wrap64 (X + W0) = X + W0 := by have := HWH.out.1; exact wrap64_in' _ (by omega) (by omega)
        have g4 : wrap64 (Y + H0) = Y + H0 := by have := HWH.out.2; exact wrap64_in' _ (by omega) (by omega)
        have g5 : wrap64 (p0 / 21) = p0 / 21 := wrap64_in' _ (by have := HP.out; omega) (by have := HP.out; omega)
        have g6 : (p0 / 21).tmod 9 = p0 / 21 % 9 := Int.tmod_eq_emod_of_nonneg (by have := HP.out; omega)
        have g7 : wrap64 (W0 + 1) = W0 + 1 := by have := HWH.out.1; exact wrap64_in' _ (by omega) (by omega)
        obtain ⟨D, hD⟩ : ∃ D, D = p0 / 21 % 9 := ⟨_, rfl⟩
        rw [← hD] at g6
        have g8 : wrap64 (W0 + 1 + D) = W0 + 1 + D := by have := HWH.out.1; exact wrap64_in' _ (by omega) (by omega)
        have g9 : wrap64 (X + (W0 + 1 + D)) = X + (W0 + 1 + D) := by have := HWH.out.1; exact wrap64_in' _ (by omega) (by omega)
        have g10 : wrap64 (Y + 22) = Y + 22 := wrap64_in' _ (by omega) (by omega)
        have g11 : wrap64 (I + 1) = I + 1 := wrap64_in' _ (by have := HE.out.1; omega) (by have := HE.out.1; omega)
        have HD := Aside0.mk hD
        clear hb hhi hmy hD
        cases c5 : (I % 5 == 4)
        all_goals
          have h2 := LL.out
          go_wp2_with (at_builtin; go_loud (refine Kd.R_append k36 (w0 := w) w.heap.size rfl (.tmp 38) (.tmp 51) 22 36 (.agg #[.int .u8 0, .int .i64 0, .int .i64 0, .int .i64 0, .int .i64 0]) 40 rfl Try.underlying22 info36' rfl (by decide) (by omega) (.slice A' i c') ((List.range i).map (mA l)) (⟨97 + I, X, Y, X + W0, Y + H0⟩ : S36) [.int .u8 (97 + I), .int .i64 X, .int .i64 Y, .int .i64 (X + W0), .int .i64 (Y + H0)] (fun k => w.heap.size + 3 ≤ k) (fun _ => False) rfl rfl ?aP (fun _ hk => hk.elim) ?aF ?aO ?aB ?aS ?aL ?_); (case aP => exact k36_mkM _ _ _ (⟨97 + I, X, Y, X + W0, Y + H0⟩ : S36)); (case aF => exact fun k hk => Nat.le_trans (World.block_size3 HW1.out) hk); (case aO => exact HO1.out); (case aB => exact HB1.out); (case aS => exact HB1.out.size); (case aL => rw [List.length_map, List.length_range]; have := HI.out; omega); intro v1 w1 ho2 hb2 hg2 hat2; obtain ⟨A2, c2, rfl, c1, f1, hcell, HB2, HZ2, HC2, HW2, HO2⟩ := made_step (by simp) HO1.out HZ1.out HC1.out HW1.out ho2 hb2 hg2; (have c3 := hcell HX0.out); (replace HB2 := Aside0.mk HB2); (replace HZ2 := Aside0.mk HZ2); (replace HC2 := Aside0.mk HC2); (replace HW2 := Aside0.mk HW2); (replace HO2 := Aside0.mk HO2); clear hcell hg2 hat2 ho2 hb2 c0)
        all_goals
          go_roundg (gk - 1)
          case measure => have h1 := HG.out; have h2 := LL.out; have h3 := L14.out; have h4 := HE.out.1; omega
          case rel =>
            refine ⟨i + 1, I + 1, _, _, .slice A2 (i + 1) c2, rfl, rfl, rfl, ⟨?_, ?_, ?_⟩, ⟨?_⟩, ⟨?_⟩, HB2, HZ2, HC2, HW2, ⟨?_⟩⟩
            · have := HE.out.1; omega
            · have h4 := HE.out.1
              rw [mX, HPE.out]
              first
                | (rw [if_pos (show i % 5 = 4 by have := beq_iff_eq.1 c5; omega)])
                | (rw [if_neg (show ¬ i % 5 = 4 by have := beq_eq_false_iff_ne.1 c5; omega)]
                   simp only [show p0.tdiv 21 = p0 / 21 from Int.tdiv_eq_ediv_of_nonneg HP.out.1, g5, g6, g7, g8, g9]
                   rw [← HE.out.2.1, HWH.out.1, HD.out])
            · have h4 := HE.out.1
              have h6 := HE.out.2.2
              have h8 : (i % 5 = 4 ∧ (I % 5 == 4) = true) ∨ (¬ i % 5 = 4 ∧ (I % 5 == 4) = false) := by
                by_cases e : i % 5 = 4
                · exact Or.inl ⟨e, beq_iff_eq.2 (by omega)⟩
                · exact Or.inr ⟨e, beq_eq_false_iff_ne.2 (by omega)⟩
              rw [c5] at h8
              simp at h8
              unfold mY at h6 ⊢
              omega
            · have h2 := LL.out; have h3 := L14.out; have h4 := HE.out.1; omega
            · have h1 := HG.out; omega
            · rw [range_snoc]
              have : mA l i = ⟨97 + I, X, Y, X + W0, Y + H0⟩ := by
                unfold mA
                rw [HPE.out, HE.out.1, HE.out.2.1, HE.out.2.2, HWH.out.1, HWH.out.2]
              rw [this]
              exact HO2.out
      · have d2 : decide (I < 14) = false := decide_eq_false hlt14
        have hil : i = min l.length 14 := by have := HI.out; have := HE.out.1; omega
        subst hil
        obtain ⟨A', c', hv⟩ := Kd.R_slice HO.out
        rw [show ((List.range (min l.length 14)).map (mA l)).length = min l.length 14 by simp] at hv
        subst hv
        have f1 := blk_frozen HW.out 1
        have HWO := HW
        have HMT := Aside0.mk (made_tail (l := l) HB.out HZ.out HC.out HW.out HO.out)
        clear hHW hI eI HB HZ HC HW HO HI HG HE
        go_upto_region 11 with fail
        go_cut [] from 72 to 82 (fun wx => ∃ T : Nat, Aside0 (MadeIn w wx l A' c' T ∧ wx.heap[w.heap.size]? = some (.cells #[.slice none 0 0, .slice none 0 0, .slice none 0 0] 26)))
        case first =>
          have f3 := blk_frozen (blk_alloc (blk_alloc (blk_alloc HWO.out (.cells #[.int .i64 0, .int .i64 0, .int .i64 20, .int .i64 20] 89)) (.cells #[.int .i64 20, .int .i64 0, .int .i64 0, .int .i64 20, .int .i64 20, .int .i64 40] 89)) (.cells #[.int .u8 97, .slice (some ⟨wo.heap.size, 0, none⟩) 2 2, .int .u8 98, .slice (some ⟨wo.heap.size + 1, 0, none⟩) 3 3] 33)) 1
          have e3 := blk_cell (blk_alloc (blk_alloc (blk_alloc HWO.out (.cells #[.int .i64 0, .int .i64 0, .int .i64 20, .int .i64 20] 89)) (.cells #[.int .i64 20, .int .i64 0, .int .i64 0, .int .i64 20, .int .i64 20, .int .i64 40] 89)) (.cells #[.int .u8 97, .slice (some ⟨wo.heap.size, 0, none⟩) 2 2, .int .u8 98, .slice (some ⟨wo.heap.size + 1, 0, none⟩) 3 3] 33)) 1
          go_wp2
          go_meet
          case rel =>
            exact ⟨wo.heap.size + 1 + 1, HMT⟩
        case rest =>
          obtain ⟨T, HM⟩ := hcut
          clear HMT f1
          have hc := HM.out.1.2.2.1
          have c0 := blk_cell hc 0
          have c1 := blk_cell hc 1
          have c2 := blk_cell hc 2
          have k0 := blk_frozen HM.out.2 0
          have k1 := blk_frozen HM.out.2 1
          have k2 := blk_frozen HM.out.2 2
          have z0 := blk_cell HM.out.2 0
          have z1 := blk_cell HM.out.2 1
          have z2 := blk_cell HM.out.2 2
          simp at c0 c1 c2 z0 z1 z2
          clear hc
          go_wp2
          (try simp only [Exit.inBlock, Exit.then])
          refine bodyPost_ret (results_board rfl rfl (three_sets HM.out.2 _ _ _)) rfl ?_
          exact ⟨A', c', T, by rw [made_length], made_behind HM.out.1 _ _ _⟩
    · have d1 : decide (I < (l.length : Int)) = false := decide_eq_false hlt
      have hil : i = min l.length 14 := by have := HI.out; have := HE.out.1; omega
      subst hil
      obtain ⟨A', c', hv⟩ := Kd.R_slice HO.out
      rw [show ((List.range (min l.length 14)).map (mA l)).length = min l.length 14 by simp] at hv
      subst hv
      have f1 := blk_frozen HW.out 1
      have HWO := HW
      have HMT := Aside0.mk (made_tail (l := l) HB.out HZ.out HC.out HW.out HO.out)
      clear hHW hI eI HB HZ HC HW HO HI HG HE
      go_upto_region 11 with fail
      go_cut [] from 72 to 82 (fun wx => ∃ T : Nat, Aside0 (MadeIn w wx l A' c' T ∧ wx.heap[w.heap.size]? = some (.cells #[.slice none 0 0, .slice none 0 0, .slice none 0 0] 26)))
      case first =>
        have f3 := blk_frozen (blk_alloc (blk_alloc (blk_alloc HWO.out (.cells #[.int .i64 0, .int .i64 0, .int .i64 20, .int .i64 20] 89)) (.cells #[.int .i64 20, .int .i64 0, .int .i64 0, .int .i64 20, .int .i64 20, .int .i64 40] 89)) (.cells #[.int .u8 97, .slice (some ⟨wo.heap.size, 0, none⟩) 2 2, .int .u8 98, .slice (some ⟨wo.heap.size + 1, 0, none⟩) 3 3] 33)) 1
        have e3 := blk_cell (blk_alloc (blk_alloc (blk_alloc HWO.out (.cells #[.int .i64 0, .int .i64 0, .int .i64 20, .int .i64 20] 89)) (.cells #[.int .i64 20, .int .i64 0, .int .i64 0, .int .i64 20, .int .i64 20, .int .i64 40] 89)) (.cells #[.int .u8 97, .slice (some ⟨wo.heap.size, 0, none⟩) 2 2, .int .u8 98, .slice (some ⟨wo.heap.size + 1, 0, none⟩) 3 3] 33)) 1
        go_wp2
        go_meet
        case rel =>
          exact ⟨wo.heap.size + 1 + 1, HMT⟩
      case rest =>
        obtain ⟨T, HM⟩ := hcut
        clear HMT f1
        have hc := HM.out.1.2.2.1
        have c0 := blk_cell hc 0
        have c1 := blk_cell hc 1
        have c2 := blk_cell hc 2
        have k0 := blk_frozen HM.out.2 0
        have k1 := blk_frozen HM.out.2 1
        have k2 := blk_frozen HM.out.2 2
        have z0 := blk_cell HM.out.2 0
        have z1 := blk_cell HM.out.2 1
        have z2 := blk_cell HM.out.2 2
        simp at c0 c1 c2 z0 z1 z2
        clear hc
        go_wp2
        (try simp only [Exit.inBlock, Exit.then])
        refine bodyPost_ret (results_board rfl rfl (three_sets HM.out.2 _ _ _)) rfl ?_
        exact ⟨A', c', T, by rw [made_length], made_behind HM.out.1 _ _ _⟩

end Go.Proofs.Ytplhilglokbplaa
