/- What the kit's print.py wrote for one function, made smaller by squeeze.py. -/
import Derived.Test.YtplhilglokbplaaQz
import Derived.Test.YtplhilglokbplaaQa
import Derived.Test.YtplhilglokbplaaRr
import Derived.WalkLawsBesides
namespace Go.Proofs.Ytplhilglokbplaa.PAll
open Go.RowKit Go.Proofs.YtplhilglokbplaaW.PrintWords Go.Proofs.YtplhilglokbplaaW.PrintLast Go.Proofs.YtplhilglokbplaaW.PrintMore
attribute [local go_sem] bytesLess_le max2_int min2_int max_two min_two max_three min_three max_four min_four   -- for this text's walks alone
set_option linter.unusedVariables false
set_option linter.unusedSimpArgs false

/-! ### syllabaryref21_chords: function 46 -/
def syllabaryref21_chords.l0 : Nat → List (S39) → Int → Option (Bool)
 | 0, _, _ => none
 | k + 1, x0, x3 => if x3 < (x0.length : Int) then (if 0 ≤ x3 then ((syllabaryref21_Rising.f k ((rd_T39 x0 x3).f0)).bind fun t128 => (if t128 = true then ((syllabaryref21_Letter.f ((rd_T39 x0 x3).f1)).bind fun t130 => (if t130 = true then (if x3 > 0 then (if 0 ≤ (wrap64 (x3 - 1)) then (if (wrap64 (x3 - 1)) < (x0.length : Int) then (if ((Op.bytesLess (((rd_T39 x0 (wrap64 (x3 - 1))).f0).toList) (((rd_T39 x0 x3).f0).toList)) = true) then (syllabaryref21_chords.l0 k x0 (wrap64 (x3 + 1))) else (some false)) else (none)) else (none)) else (syllabaryref21_chords.l0 k x0 (wrap64 (x3 + 1)))) else (some false))) else (some false))) else (none)) else (some (decide ((x0.length : Int) ≤ 26)))
def syllabaryref21_chords.f (k : Nat) (l0 : List (S39)) : Option (Bool) := syllabaryref21_chords.l0 k l0 0
theorem syllabaryref21_chords.mono_l : ∀ k, (∀ y0 y1, LeO (syllabaryref21_chords.l0 k y0 y1) (syllabaryref21_chords.l0 (k + 1) y0 y1))
 | 0 => fun _ _ r h => by simp [syllabaryref21_chords.l0] at h
 | k + 1 => by
  have ih0 := syllabaryref21_chords.mono_l k
  ·
   intro y0 y1
   unfold syllabaryref21_chords.l0
   repeat' first
   | (with_reducible exact ih0 _ _)
   | (with_reducible exact syllabaryref21_Rising.mono _ _)
   | (with_reducible exact LeO.refl _)
   | (with_reducible exact LeO.none _)
   | (with_reducible refine LeO.ite ?_ ?_)
   | (with_reducible refine LeO.bind ?_ (fun _ => ?_))
   | exact ih0 _ _
   | exact syllabaryref21_Rising.mono _ _
   | exact LeO.none _
   | refine LeO.ite ?_ ?_
   | refine LeO.bind ?_ (fun _ => ?_)
theorem syllabaryref21_chords.mono : ∀ a0 k, LeO (syllabaryref21_chords.f k a0) (syllabaryref21_chords.f (k + 1) a0) := by
 intro a0 k
 have ih0 := syllabaryref21_chords.mono_l k
 unfold syllabaryref21_chords.f
 repeat' first
   | (with_reducible exact ih0 _ _)
   | (with_reducible exact syllabaryref21_Rising.mono _ _)
   | (with_reducible exact LeO.refl _)
   | (with_reducible exact LeO.none _)
   | (with_reducible refine LeO.ite ?_ ?_)
   | (with_reducible refine LeO.bind ?_ (fun _ => ?_))
   | exact ih0 _ _
   | exact syllabaryref21_Rising.mono _ _
   | exact LeO.none _
   | refine LeO.ite ?_ ?_
   | refine LeO.bind ?_ (fun _ => ?_)
def syllabaryref21_chords.T4 : Bool × List (List Nat × List Nat) := (true, [([], []), ([], []), ([0, 1], [0, 1]), ([2], [2]), ([3], [3]), ([4], [4]), ([5], [5]), ([6, 5], [6]), ([7], [7]), ([7], [7]), ([8, 9, 7], [7, 8, 9]), ([10, 7], [7, 10]), ([11, 7], [7, 11]), ([12, 7, 7], [7, 12]), ([13, 7], [7, 13]), ([7, 14], [7, 14]), ([15, 13], [15]), ([16], [16]), ([17, 16], [16, 17]), ([18, 16, 16], [16, 18]), ([19], [19]), ([19], [19]), ([20, 21, 19], [19, 20, 21]), ([22, 19], [19, 22]), ([23, 19], [19, 23]), ([19], [19]), ([19], [19]), ([26, 19], [19, 26]), ([25, 27, 19], [19, 25, 27]), ([28, 19], [19, 28]), ([29, 19], [19, 29]), ([24, 30, 19], [19, 24, 30]), ([19, 31, 16], [16, 19, 31]), ([16, 32], [16, 32])])
def syllabaryref21_chords.B4 : List Nat := [0, 0, 3, 7, 15, 31, 63, 127, 255, 255, 1023, 2047, 4095, 8191, 16383, 32767, 65535, 131071, 262143, 524287, 1048575, 1048575, 4194303, 8388607, 16777215, 1048575, 1048575, 68157439, 235929599, 504365055, 1041235967, 2147483647, 4294967295, 8589934591]
theorem syllabaryref21_chords.tab4 : rtab .any (opsOf Try.f46 4) = syllabaryref21_chords.T4 := by kernel_rfl
theorem syllabaryref21_chords.bits4 : waitsOk syllabaryref21_chords.T4.2 syllabaryref21_chords.B4 = true := by kernel_rfl
set_option maxHeartbeats 8000000 in
set_option maxRecDepth 100000 in
theorem syllabaryref21_chords.calls (k : Nat) (A0 : Option Addr) (c0 : Nat) (l0 : List (S39)) (r : Bool) (w : World) (hr0 : Kd.C k39 w A0 l0.length l0) (hc0 : l0.length ≤ c0) (h : syllabaryref21_chords.f k l0 = some r) :
  Calls Try.prog 46 #[.slice A0 l0.length c0] w fun e w' => e = .returned (.bool r) ∧ Below w.heap.size w w' := by
 have HR0 := Aside0.mk hr0
 have HC0 := Aside0.mk hc0
 clear hr0 hc0
 have HB := Aside0.mk (Below.refl w.heap.size w)
 have H : (syllabaryref21_chords.l0 k l0 0) = some r := h
 clear h
 have H' := Aside0.mk H
 clear H
 go_enter Try.func46, Try.ntmps46
 go_wp2
 go_loopg [3] k (fun kq v3 w' => ∃ (x3_1 : Int), v3 = .int .i64 x3_1 ∧ Aside0 (syllabaryref21_chords.l0 kq l0 x3_1 = some r) ∧ Aside0 (kq ≤ k) ∧ Aside0 (Below w.heap.size w w'))
 case atStart => exact ⟨(0), (by first | rfl | (simp; done) | (simp [*]; done)), H', ⟨Nat.le_refl _⟩, ⟨by repeat (first | (with_reducible first | exact HB.out | apply below_alloc | apply pw_below_drewN | apply below_drew1) | exact HB.out)⟩⟩
 case round =>
  clear H'
  obtain ⟨x3_1, rfl, HA, HK1, HB⟩ := hrel
  cases gk with
  | zero => exact absurd HA.out (by simp [syllabaryref21_chords.l0])
  | succ k1 =>
   have H := HA.out
   clear HA
   simp only [syllabaryref21_chords.l0] at H
   by_cases c2 : x3_1 < (l0.length : Int)
   ·
    rw [if_pos c2] at H
    have c2b0 : decide (x3_1 < (l0.length : Int)) = true := decide_eq_true c2
    clear c2
    by_cases c3 : 0 ≤ x3_1
    ·
     rw [if_pos c3] at H
     have c3b0 : decide (0 ≤ x3_1) = true := decide_eq_true c3
     clear c3
     replace H := Option.bind_eq_some_iff.mp H
     obtain ⟨t128, A40, H⟩ := H
     replace H : (if t128 = true then ((syllabaryref21_Letter.f ((rd_T39 l0 x3_1).f1)).bind fun t130 => (if t130 = true then (if x3_1 > 0 then (if 0 ≤ (wrap64 (x3_1 - 1)) then (if (wrap64 (x3_1 - 1)) < (l0.length : Int) then (if ((Op.bytesLess (((rd_T39 l0 (wrap64 (x3_1 - 1))).f0).toList) (((rd_T39 l0 x3_1).f0).toList)) = true) then (syllabaryref21_chords.l0 k1 l0 (wrap64 (x3_1 + 1))) else (some false)) else (none)) else (none)) else (syllabaryref21_chords.l0 k1 l0 (wrap64 (x3_1 + 1)))) else (some false))) else (some false)) = some r := H
     have A4 := Aside0.mk A40
     clear A40
     by_cases c5 : t128 = true
     ·
      subst c5
      have H1 : ((syllabaryref21_Letter.f ((rd_T39 l0 x3_1).f1)).bind fun t130 => (if t130 = true then (if x3_1 > 0 then (if 0 ≤ (wrap64 (x3_1 - 1)) then (if (wrap64 (x3_1 - 1)) < (l0.length : Int) then (if ((Op.bytesLess (((rd_T39 l0 (wrap64 (x3_1 - 1))).f0).toList) (((rd_T39 l0 x3_1).f0).toList)) = true) then (syllabaryref21_chords.l0 k1 l0 (wrap64 (x3_1 + 1))) else (some false)) else (none)) else (none)) else (syllabaryref21_chords.l0 k1 l0 (wrap64 (x3_1 + 1)))) else (some false))) = some r := by rw [if_pos rfl] at H; exact H
      clear H
      have H := H1
      clear H1
      replace H := Option.bind_eq_some_iff.mp H
      obtain ⟨t130, A60, H⟩ := H
      replace H : (if t130 = true then (if x3_1 > 0 then (if 0 ≤ (wrap64 (x3_1 - 1)) then (if (wrap64 (x3_1 - 1)) < (l0.length : Int) then (if ((Op.bytesLess (((rd_T39 l0 (wrap64 (x3_1 - 1))).f0).toList) (((rd_T39 l0 x3_1).f0).toList)) = true) then (syllabaryref21_chords.l0 k1 l0 (wrap64 (x3_1 + 1))) else (some false)) else (none)) else (none)) else (syllabaryref21_chords.l0 k1 l0 (wrap64 (x3_1 + 1)))) else (some false)) = some r := H
      have A6 := Aside0.mk A60
      clear A60
      by_cases c7 : t130 = true
      ·
       subst c7
       have H1 : (if x3_1 > 0 then (if 0 ≤ (wrap64 (x3_1 - 1)) then (if (wrap64 (x3_1 - 1)) < (l0.length : Int) then (if ((Op.bytesLess (((rd_T39 l0 (wrap64 (x3_1 - 1))).f0).toList) (((rd_T39 l0 x3_1).f0).toList)) = true) then (syllabaryref21_chords.l0 k1 l0 (wrap64 (x3_1 + 1))) else (some false)) else (none)) else (none)) else (syllabaryref21_chords.l0 k1 l0 (wrap64 (x3_1 + 1)))) = some r := by rw [if_pos rfl] at H; exact H
       clear H
       have H := H1
       clear H1
       by_cases c8 : x3_1 > 0
       ·
        rw [if_pos c8] at H
        have c8b0 : decide (0 < x3_1) = true := decide_eq_true c8
        clear c8
        obtain ⟨ji9, hji9⟩ : ∃ j_ : Int, (wrap64 (x3_1 - 1)) = j_ := ⟨_, rfl⟩
        replace H : (if 0 ≤ (ji9) then (if (ji9) < (l0.length : Int) then (if ((Op.bytesLess (((rd_T39 l0 (ji9)).f0).toList) (((rd_T39 l0 x3_1).f0).toList)) = true) then (syllabaryref21_chords.l0 k1 l0 (wrap64 (x3_1 + 1))) else (some false)) else (none)) else (none)) = some r := by first | (rw [hji9] at H; exact H) | (simp only [hji9] at H ⊢; exact H)
        (try rw [hji9] at A4)
        (try rw [hji9] at A6)
        have hji9w : (IntKind.i64.wrap (x3_1 - 1)) = ji9 := (i64_w _).trans hji9
        by_cases c10 : 0 ≤ (ji9)
        ·
         rw [if_pos c10] at H
         have c10b0 : decide (0 ≤ (ji9)) = true := decide_eq_true c10
         clear c10
         by_cases c11 : (ji9) < (l0.length : Int)
         ·
          rw [if_pos c11] at H
          have c11b0 : decide ((ji9) < (l0.length : Int)) = true := decide_eq_true c11
          clear c11
          by_cases c12 : ((Op.bytesLess (((rd_T39 l0 (ji9)).f0).toList) (((rd_T39 l0 x3_1).f0).toList)) = true)
          ·
           rw [if_pos c12] at H
           have c12b0 : (Op.bytesLess (((rd_T39 l0 (ji9)).f0).toList) (((rd_T39 l0 x3_1).f0).toList)) = true := c12
           clear c12
           have H' := Aside0.mk H
           clear H
           try go_wp2
           have n0_ := Aside0.mk (below_drew1 HB.out)
           clear HB
           have HB := n0_
           clear n0_
           have p127 : 0 ≤ (x3_1 : Int) := of_decide_eq_true (by assumption)
           have q127 : x3_1 < (l0.length : Int) := of_decide_eq_true (by assumption)
           obtain ⟨ad127, e127, hx127_0, hx127_1⟩ := at_T39 HR0.out x3_1 p127 q127
           have hw127_1 := hx127_1
           have hw127_0 := hx127_0
           cases e127
           replace hx127_0 := (HB.out.cell (World.block_lt_of_cell? w _ hx127_0)).trans hx127_0
           replace hx127_1 := (HB.out.cell (World.block_lt_of_cell? w _ hx127_1)).trans hx127_1
           replace p127 := eq_true p127
           replace q127 := eq_true q127
           have p129 : 0 ≤ (x3_1 : Int) := of_decide_eq_true (by assumption)
           have q129 : x3_1 < (l0.length : Int) := of_decide_eq_true (by assumption)
           obtain ⟨ad129, e129, hx129_0, hx129_1⟩ := at_T39 HR0.out x3_1 p129 q129
           have hw129_1 := hx129_1
           have hw129_0 := hx129_0
           obtain rfl : ad127 = ad129 := (by injection e129)
           replace hx129_0 := (HB.out.cell (World.block_lt_of_cell? w _ hx129_0)).trans hx129_0
           replace hx129_1 := (HB.out.cell (World.block_lt_of_cell? w _ hx129_1)).trans hx129_1
           replace p129 := eq_true p129
           replace q129 := eq_true q129
           have p131 : 0 ≤ (x3_1 : Int) := of_decide_eq_true (by assumption)
           have q131 : x3_1 < (l0.length : Int) := of_decide_eq_true (by assumption)
           obtain ⟨ad131, e131, hx131_0, hx131_1⟩ := at_T39 HR0.out x3_1 p131 q131
           have hw131_1 := hx131_1
           have hw131_0 := hx131_0
           obtain rfl : ad127 = ad131 := (by injection e131)
           replace hx131_0 := (HB.out.cell (World.block_lt_of_cell? w _ hx131_0)).trans hx131_0
           replace hx131_1 := (HB.out.cell (World.block_lt_of_cell? w _ hx131_1)).trans hx131_1
           replace p131 := eq_true p131
           replace q131 := eq_true q131
           have p132 : 0 ≤ ((ji9) : Int) := of_decide_eq_true (by assumption)
           have q132 : (ji9) < (l0.length : Int) := of_decide_eq_true (by assumption)
           obtain ⟨ad132, e132, hx132_0, hx132_1⟩ := at_T39 HR0.out (ji9) p132 q132
           have hw132_1 := hx132_1
           have hw132_0 := hx132_0
           obtain rfl : ad127 = ad132 := (by injection e132)
           replace hx132_0 := (HB.out.cell (World.block_lt_of_cell? w _ hx132_0)).trans hx132_0
           replace hx132_1 := (HB.out.cell (World.block_lt_of_cell? w _ hx132_1)).trans hx132_1
           replace p132 := eq_true p132
           replace q132 := eq_true q132
           refine start_ (n := 34) (S := fun w' => w'.cell? (ad127.add ((x3_1).toNat * 2)) = some (.string ((rd_T39 l0 x3_1).f0)) ∧ w'.cell? ⟨(ad127.add ((x3_1).toNat * 2)).block, (ad127.add ((x3_1).toNat * 2)).off + 1, none⟩ = some (.int .u8 ((rd_T39 l0 x3_1).f1)) ∧ w'.cell? (ad127.add ((x3_1).toNat * 2)) = some (.string ((rd_T39 l0 x3_1).f0)) ∧ w'.cell? ⟨(ad127.add ((x3_1).toNat * 2)).block, (ad127.add ((x3_1).toNat * 2)).off + 1, none⟩ = some (.int .u8 ((rd_T39 l0 x3_1).f1)) ∧ w'.cell? (ad127.add ((x3_1).toNat * 2)) = some (.string ((rd_T39 l0 x3_1).f0)) ∧ w'.cell? ⟨(ad127.add ((x3_1).toNat * 2)).block, (ad127.add ((x3_1).toNat * 2)).off + 1, none⟩ = some (.int .u8 ((rd_T39 l0 x3_1).f1)) ∧ w'.cell? (ad127.add (((ji9)).toNat * 2)) = some (.string ((rd_T39 l0 (ji9)).f0)) ∧ w'.cell? ⟨(ad127.add (((ji9)).toNat * 2)).block, (ad127.add (((ji9)).toNat * 2)).off + 1, none⟩ = some (.int .u8 ((rd_T39 l0 (ji9)).f1))) (ds := []) (bl [0, 34]) (by kernel_rfl) rfl rfl ⟨((HB.out.cell (World.block_lt_of_cell? w _ hw127_0)).trans hw127_0), ((HB.out.cell (World.block_lt_of_cell? w _ hw127_1)).trans hw127_1), ((HB.out.cell (World.block_lt_of_cell? w _ hw129_0)).trans hw129_0), ((HB.out.cell (World.block_lt_of_cell? w _ hw129_1)).trans hw129_1), ((HB.out.cell (World.block_lt_of_cell? w _ hw131_0)).trans hw131_0), ((HB.out.cell (World.block_lt_of_cell? w _ hw131_1)).trans hw131_1), ((HB.out.cell (World.block_lt_of_cell? w _ hw132_0)).trans hw132_0), ((HB.out.cell (World.block_lt_of_cell? w _ hw132_1)).trans hw132_1)⟩ (fun hHeld => ?_); refine with_tabW syllabaryref21_chords.tab4 syllabaryref21_chords.bits4 (fun HT_ HW_ => ?_)
           generalize wr.drew = w13 at HB hx127_0 hx127_1 hx129_0 hx129_1 hx131_0 hx131_1 hx132_0 hx132_1 hHeld ⊢
           refine qA 0 (some 10) (bl [1, 33]) HT_ ?_
           refine qA 1 (some 11) (bl [2, 32]) HT_ ?_
           refine qA 2 (some 12) (bl [3, 31]) HT_ ?_
           refine qA 3 (some 13) (bl [4, 30]) HT_ ?_
           refine qT 4 (some 14) (bl [5, 29]) HT_ HW_ hHeld ?_
           refine one_ (i := 5) (N := some 15) (bl [6, 28]) rfl rfl (one_of HT_.out (by kernel_rfl)) (by decide) (fun K hK => ?_)
           refine goes_ Try.func115 (by kernel_rfl) rfl #[.string ((rd_T39 l0 x3_1).f0)] (by rfl) rfl rfl (by (try simp only [List.map_toArray, List.map_cons, List.map_nil]); first | done | rfl | (simp only [List.length_drop, List.length_take]; rfl)) ?_
           with_reducible refine (syllabaryref21_Rising.calls k1 ((rd_T39 l0 x3_1).f0) true _ A4.out).mono ?_
           rintro e w' ⟨rfl, ⟨nd, rfl⟩⟩
           refine ⟨_, rfl, ?_⟩
           refine hK.out _ _ ⟨((HB.out.cell (World.block_lt_of_cell? w _ hw127_0)).trans hw127_0), ((HB.out.cell (World.block_lt_of_cell? w _ hw127_1)).trans hw127_1), ((HB.out.cell (World.block_lt_of_cell? w _ hw129_0)).trans hw129_0), ((HB.out.cell (World.block_lt_of_cell? w _ hw129_1)).trans hw129_1), ((HB.out.cell (World.block_lt_of_cell? w _ hw131_0)).trans hw131_0), ((HB.out.cell (World.block_lt_of_cell? w _ hw131_1)).trans hw131_1), ((HB.out.cell (World.block_lt_of_cell? w _ hw132_0)).trans hw132_0), ((HB.out.cell (World.block_lt_of_cell? w _ hw132_1)).trans hw132_1)⟩ (fun hHeld => ?_)
           clear hK K
           refine norm_ (a' := ?_) ?_ ?_
           rotate_left; · (show Act.put _ (some 15) _ = _; simp only [Act.put, q1, q2, q3, i64_w, i32_w]; rfl)
           refine qA 6 (some 16) (bl [7, 27]) HT_ ?_
           refine qA 7 (some 17) (bl [8, 26]) HT_ ?_
           refine qA 8 (some 18) (bl [9, 25]) HT_ ?_
           refine qA 9 (some 19) (bl [10, 24]) HT_ ?_
           refine qA 10 (some 20) (bl [11, 23]) HT_ ?_
           refine qA 11 (some 21) (bl [12, 22]) HT_ ?_
           refine qT 12 (some 22) (bl [13, 21]) HT_ HW_ hHeld ?_
           refine one_ (i := 13) (N := some 23) (bl [14, 20]) rfl rfl (one_of HT_.out (by kernel_rfl)) (by decide) (fun K hK => ?_)
           refine goes_ Try.func86 (by kernel_rfl) rfl #[.int .u8 ((rd_T39 l0 x3_1).f1)] (by rfl) rfl rfl (by (try simp only [List.map_toArray, List.map_cons, List.map_nil]); first | done | rfl | (simp only [List.length_drop, List.length_take]; rfl)) ?_
           with_reducible refine (syllabaryref21_Letter.calls ((rd_T39 l0 x3_1).f1) true _ A6.out).mono ?_
           rintro e w' ⟨rfl, ⟨nd, rfl⟩⟩
           refine ⟨_, rfl, ?_⟩
           refine hK.out _ _ ⟨((HB.out.cell (World.block_lt_of_cell? w _ hw127_0)).trans hw127_0), ((HB.out.cell (World.block_lt_of_cell? w _ hw127_1)).trans hw127_1), ((HB.out.cell (World.block_lt_of_cell? w _ hw129_0)).trans hw129_0), ((HB.out.cell (World.block_lt_of_cell? w _ hw129_1)).trans hw129_1), ((HB.out.cell (World.block_lt_of_cell? w _ hw131_0)).trans hw131_0), ((HB.out.cell (World.block_lt_of_cell? w _ hw131_1)).trans hw131_1), ((HB.out.cell (World.block_lt_of_cell? w _ hw132_0)).trans hw132_0), ((HB.out.cell (World.block_lt_of_cell? w _ hw132_1)).trans hw132_1)⟩ (fun hHeld => ?_)
           clear hK K
           refine norm_ (a' := ?_) ?_ ?_
           rotate_left; · (show Act.put _ (some 23) _ = _; simp only [Act.put, q1, q2, q3, i64_w, i32_w]; rfl)
           refine qA 14 (some 24) (bl [15, 19]) HT_ ?_
           refine qA 15 (some 25) (bl [16, 18]) HT_ ?_
           refine qA 16 (some 26) (bl [17, 17]) HT_ ?_
           refine qA 17 (some 27) (bl [18, 16]) HT_ ?_
           refine qA 18 (some 28) (bl [19, 15]) HT_ ?_
           refine qA 19 (some 29) (bl [20, 14]) HT_ ?_
           refine qA 20 (some 30) (bl [21, 13]) HT_ ?_
           refine qA 21 (some 31) (bl [22, 12]) HT_ ?_
           refine qA 22 (some 32) (bl [23, 11]) HT_ ?_
           refine qA 23 (some 33) (bl [24, 10]) HT_ ?_
           refine qA 25 (some 35) (bl [24, 1, 1, 8]) HT_ ?_
           refine qA 26 (some 36) (bl [24, 1, 2, 7]) HT_ ?_
           refine qA 27 (some 37) (bl [24, 1, 3, 6]) HT_ ?_
           refine qA 28 (some 38) (bl [24, 1, 4, 5]) HT_ ?_
           refine qA 29 (some 39) (bl [24, 1, 5, 4]) HT_ ?_
           refine qT 24 (some 34) (bl [30, 4]) HT_ HW_ hHeld ?_
           refine qT 30 (some 40) (bl [31, 3]) HT_ HW_ hHeld ?_
           refine qA 31 (some 41) (bl [32, 2]) HT_ ?_
           refine qA 32 (some 42) (bl [33, 1]) HT_ ?_
           refine qA 33 (some 43) (bl [34]) HT_ ?_
           refine done_ (done_of HT_.out (by kernel_rfl)) ?_
           try go_wp2
           go_roundg k1
           case measure => have := HK1.out; omega
           case rel => exact ⟨(wrap64 (x3_1 + 1)), (by first | rfl | (simp; done) | (simp [*]; done)), H', ⟨by have := HK1.out; omega⟩, ⟨by repeat (first | (with_reducible first | exact HB.out | apply below_alloc | apply pw_below_drewN | apply below_drew1) | exact HB.out)⟩⟩
          ·
           rw [if_neg c12] at H
           have c12b0 : (Op.bytesLess (((rd_T39 l0 (ji9)).f0).toList) (((rd_T39 l0 x3_1).f0).toList)) = false := by simpa using c12
           clear c12
           obtain rfl := Option.some.inj H
           try go_wp2
           have n0_ := Aside0.mk (below_drew1 HB.out)
           clear HB
           have HB := n0_
           clear n0_
           have p127 : 0 ≤ (x3_1 : Int) := of_decide_eq_true (by assumption)
           have q127 : x3_1 < (l0.length : Int) := of_decide_eq_true (by assumption)
           obtain ⟨ad127, e127, hx127_0, hx127_1⟩ := at_T39 HR0.out x3_1 p127 q127
           have hw127_1 := hx127_1
           have hw127_0 := hx127_0
           cases e127
           replace hx127_0 := (HB.out.cell (World.block_lt_of_cell? w _ hx127_0)).trans hx127_0
           replace hx127_1 := (HB.out.cell (World.block_lt_of_cell? w _ hx127_1)).trans hx127_1
           replace p127 := eq_true p127
           replace q127 := eq_true q127
           have p129 : 0 ≤ (x3_1 : Int) := of_decide_eq_true (by assumption)
           have q129 : x3_1 < (l0.length : Int) := of_decide_eq_true (by assumption)
           obtain ⟨ad129, e129, hx129_0, hx129_1⟩ := at_T39 HR0.out x3_1 p129 q129
           have hw129_1 := hx129_1
           have hw129_0 := hx129_0
           obtain rfl : ad127 = ad129 := (by injection e129)
           replace hx129_0 := (HB.out.cell (World.block_lt_of_cell? w _ hx129_0)).trans hx129_0
           replace hx129_1 := (HB.out.cell (World.block_lt_of_cell? w _ hx129_1)).trans hx129_1
           replace p129 := eq_true p129
           replace q129 := eq_true q129
           have p131 : 0 ≤ (x3_1 : Int) := of_decide_eq_true (by assumption)
           have q131 : x3_1 < (l0.length : Int) := of_decide_eq_true (by assumption)
           obtain ⟨ad131, e131, hx131_0, hx131_1⟩ := at_T39 HR0.out x3_1 p131 q131
           have hw131_1 := hx131_1
           have hw131_0 := hx131_0
           obtain rfl : ad127 = ad131 := (by injection e131)
           replace hx131_0 := (HB.out.cell (World.block_lt_of_cell? w _ hx131_0)).trans hx131_0
           replace hx131_1 := (HB.out.cell (World.block_lt_of_cell? w _ hx131_1)).trans hx131_1
           replace p131 := eq_true p131
           replace q131 := eq_true q131
           have p132 : 0 ≤ ((ji9) : Int) := of_decide_eq_true (by assumption)
           have q132 : (ji9) < (l0.length : Int) := of_decide_eq_true (by assumption)
           obtain ⟨ad132, e132, hx132_0, hx132_1⟩ := at_T39 HR0.out (ji9) p132 q132
           have hw132_1 := hx132_1
           have hw132_0 := hx132_0
           obtain rfl : ad127 = ad132 := (by injection e132)
           replace hx132_0 := (HB.out.cell (World.block_lt_of_cell? w _ hx132_0)).trans hx132_0
           replace hx132_1 := (HB.out.cell (World.block_lt_of_cell? w _ hx132_1)).trans hx132_1
           replace p132 := eq_true p132
           replace q132 := eq_true q132
           refine start_ (n := 34) (S := fun w' => w'.cell? (ad127.add ((x3_1).toNat * 2)) = some (.string ((rd_T39 l0 x3_1).f0)) ∧ w'.cell? ⟨(ad127.add ((x3_1).toNat * 2)).block, (ad127.add ((x3_1).toNat * 2)).off + 1, none⟩ = some (.int .u8 ((rd_T39 l0 x3_1).f1)) ∧ w'.cell? (ad127.add ((x3_1).toNat * 2)) = some (.string ((rd_T39 l0 x3_1).f0)) ∧ w'.cell? ⟨(ad127.add ((x3_1).toNat * 2)).block, (ad127.add ((x3_1).toNat * 2)).off + 1, none⟩ = some (.int .u8 ((rd_T39 l0 x3_1).f1)) ∧ w'.cell? (ad127.add ((x3_1).toNat * 2)) = some (.string ((rd_T39 l0 x3_1).f0)) ∧ w'.cell? ⟨(ad127.add ((x3_1).toNat * 2)).block, (ad127.add ((x3_1).toNat * 2)).off + 1, none⟩ = some (.int .u8 ((rd_T39 l0 x3_1).f1)) ∧ w'.cell? (ad127.add (((ji9)).toNat * 2)) = some (.string ((rd_T39 l0 (ji9)).f0)) ∧ w'.cell? ⟨(ad127.add (((ji9)).toNat * 2)).block, (ad127.add (((ji9)).toNat * 2)).off + 1, none⟩ = some (.int .u8 ((rd_T39 l0 (ji9)).f1))) (ds := []) (bl [0, 34]) (by kernel_rfl) rfl rfl ⟨((HB.out.cell (World.block_lt_of_cell? w _ hw127_0)).trans hw127_0), ((HB.out.cell (World.block_lt_of_cell? w _ hw127_1)).trans hw127_1), ((HB.out.cell (World.block_lt_of_cell? w _ hw129_0)).trans hw129_0), ((HB.out.cell (World.block_lt_of_cell? w _ hw129_1)).trans hw129_1), ((HB.out.cell (World.block_lt_of_cell? w _ hw131_0)).trans hw131_0), ((HB.out.cell (World.block_lt_of_cell? w _ hw131_1)).trans hw131_1), ((HB.out.cell (World.block_lt_of_cell? w _ hw132_0)).trans hw132_0), ((HB.out.cell (World.block_lt_of_cell? w _ hw132_1)).trans hw132_1)⟩ (fun hHeld => ?_); refine with_tabW syllabaryref21_chords.tab4 syllabaryref21_chords.bits4 (fun HT_ HW_ => ?_)
           generalize wr.drew = w14 at HB hx127_0 hx127_1 hx129_0 hx129_1 hx131_0 hx131_1 hx132_0 hx132_1 hHeld ⊢
           refine qA 0 (some 10) (bl [1, 33]) HT_ ?_
           refine qA 1 (some 11) (bl [2, 32]) HT_ ?_
           refine qA 2 (some 12) (bl [3, 31]) HT_ ?_
           refine qA 3 (some 13) (bl [4, 30]) HT_ ?_
           refine qT 4 (some 14) (bl [5, 29]) HT_ HW_ hHeld ?_
           refine one_ (i := 5) (N := some 15) (bl [6, 28]) rfl rfl (one_of HT_.out (by kernel_rfl)) (by decide) (fun K hK => ?_)
           refine goes_ Try.func115 (by kernel_rfl) rfl #[.string ((rd_T39 l0 x3_1).f0)] (by rfl) rfl rfl (by (try simp only [List.map_toArray, List.map_cons, List.map_nil]); first | done | rfl | (simp only [List.length_drop, List.length_take]; rfl)) ?_
           with_reducible refine (syllabaryref21_Rising.calls k1 ((rd_T39 l0 x3_1).f0) true _ A4.out).mono ?_
           rintro e w' ⟨rfl, ⟨nd, rfl⟩⟩
           refine ⟨_, rfl, ?_⟩
           refine hK.out _ _ ⟨((HB.out.cell (World.block_lt_of_cell? w _ hw127_0)).trans hw127_0), ((HB.out.cell (World.block_lt_of_cell? w _ hw127_1)).trans hw127_1), ((HB.out.cell (World.block_lt_of_cell? w _ hw129_0)).trans hw129_0), ((HB.out.cell (World.block_lt_of_cell? w _ hw129_1)).trans hw129_1), ((HB.out.cell (World.block_lt_of_cell? w _ hw131_0)).trans hw131_0), ((HB.out.cell (World.block_lt_of_cell? w _ hw131_1)).trans hw131_1), ((HB.out.cell (World.block_lt_of_cell? w _ hw132_0)).trans hw132_0), ((HB.out.cell (World.block_lt_of_cell? w _ hw132_1)).trans hw132_1)⟩ (fun hHeld => ?_)
           clear hK K
           refine norm_ (a' := ?_) ?_ ?_
           rotate_left; · (show Act.put _ (some 15) _ = _; simp only [Act.put, q1, q2, q3, i64_w, i32_w]; rfl)
           refine qA 6 (some 16) (bl [7, 27]) HT_ ?_
           refine qA 7 (some 17) (bl [8, 26]) HT_ ?_
           refine qA 8 (some 18) (bl [9, 25]) HT_ ?_
           refine qA 9 (some 19) (bl [10, 24]) HT_ ?_
           refine qA 10 (some 20) (bl [11, 23]) HT_ ?_
           refine qA 11 (some 21) (bl [12, 22]) HT_ ?_
           refine qT 12 (some 22) (bl [13, 21]) HT_ HW_ hHeld ?_
           refine one_ (i := 13) (N := some 23) (bl [14, 20]) rfl rfl (one_of HT_.out (by kernel_rfl)) (by decide) (fun K hK => ?_)
           refine goes_ Try.func86 (by kernel_rfl) rfl #[.int .u8 ((rd_T39 l0 x3_1).f1)] (by rfl) rfl rfl (by (try simp only [List.map_toArray, List.map_cons, List.map_nil]); first | done | rfl | (simp only [List.length_drop, List.length_take]; rfl)) ?_
           with_reducible refine (syllabaryref21_Letter.calls ((rd_T39 l0 x3_1).f1) true _ A6.out).mono ?_
           rintro e w' ⟨rfl, ⟨nd, rfl⟩⟩
           refine ⟨_, rfl, ?_⟩
           refine hK.out _ _ ⟨((HB.out.cell (World.block_lt_of_cell? w _ hw127_0)).trans hw127_0), ((HB.out.cell (World.block_lt_of_cell? w _ hw127_1)).trans hw127_1), ((HB.out.cell (World.block_lt_of_cell? w _ hw129_0)).trans hw129_0), ((HB.out.cell (World.block_lt_of_cell? w _ hw129_1)).trans hw129_1), ((HB.out.cell (World.block_lt_of_cell? w _ hw131_0)).trans hw131_0), ((HB.out.cell (World.block_lt_of_cell? w _ hw131_1)).trans hw131_1), ((HB.out.cell (World.block_lt_of_cell? w _ hw132_0)).trans hw132_0), ((HB.out.cell (World.block_lt_of_cell? w _ hw132_1)).trans hw132_1)⟩ (fun hHeld => ?_)
           clear hK K
           refine norm_ (a' := ?_) ?_ ?_
           rotate_left; · (show Act.put _ (some 23) _ = _; simp only [Act.put, q1, q2, q3, i64_w, i32_w]; rfl)
           refine qA 14 (some 24) (bl [15, 19]) HT_ ?_
           refine qA 15 (some 25) (bl [16, 18]) HT_ ?_
           refine qA 16 (some 26) (bl [17, 17]) HT_ ?_
           refine qA 17 (some 27) (bl [18, 16]) HT_ ?_
           refine qA 18 (some 28) (bl [19, 15]) HT_ ?_
           refine qA 19 (some 29) (bl [20, 14]) HT_ ?_
           refine qA 20 (some 30) (bl [21, 13]) HT_ ?_
           refine qA 21 (some 31) (bl [22, 12]) HT_ ?_
           refine qA 22 (some 32) (bl [23, 11]) HT_ ?_
           refine qA 23 (some 33) (bl [24, 10]) HT_ ?_
           refine qA 25 (some 35) (bl [24, 1, 1, 8]) HT_ ?_
           refine qA 26 (some 36) (bl [24, 1, 2, 7]) HT_ ?_
           refine qA 27 (some 37) (bl [24, 1, 3, 6]) HT_ ?_
           refine qA 28 (some 38) (bl [24, 1, 4, 5]) HT_ ?_
           refine qA 29 (some 39) (bl [24, 1, 5, 4]) HT_ ?_
           refine qT 24 (some 34) (bl [30, 4]) HT_ HW_ hHeld ?_
           refine qT 30 (some 40) (bl [31, 3]) HT_ HW_ hHeld ?_
           refine qA 31 (some 41) (bl [32, 2]) HT_ ?_
           refine qA 32 (some 42) (bl [33, 1]) HT_ ?_
           refine qA 33 (some 43) (bl [34]) HT_ ?_
           refine done_ (done_of HT_.out (by kernel_rfl)) ?_
           try go_wp2
           go_ret
           exact ⟨by first | rfl | (simp [errW_none, errW_some] <;> rfl) | (simp only [← hji9]; first | rfl | (simp [errW_none, errW_some] <;> rfl)) | (simp [*, errW_none, errW_some] <;> rfl), by repeat (first | (with_reducible first | exact HB.out | apply below_alloc | apply pw_below_drewN | apply below_drew1) | exact HB.out)⟩
         ·
          rw [if_neg c11] at H
          exact absurd H (by simp)
        ·
         rw [if_neg c10] at H
         exact absurd H (by simp)
       ·
        rw [if_neg c8] at H
        have c8b0 : decide (0 < x3_1) = false := decide_eq_false c8
        clear c8
        have H' := Aside0.mk H
        clear H
        try go_wp2
        have n0_ := Aside0.mk (below_drew1 HB.out)
        clear HB
        have HB := n0_
        clear n0_
        have p127 : 0 ≤ (x3_1 : Int) := of_decide_eq_true (by assumption)
        have q127 : x3_1 < (l0.length : Int) := of_decide_eq_true (by assumption)
        obtain ⟨ad127, e127, hx127_0, hx127_1⟩ := at_T39 HR0.out x3_1 p127 q127
        have hw127_1 := hx127_1
        have hw127_0 := hx127_0
        cases e127
        replace hx127_0 := (HB.out.cell (World.block_lt_of_cell? w _ hx127_0)).trans hx127_0
        replace hx127_1 := (HB.out.cell (World.block_lt_of_cell? w _ hx127_1)).trans hx127_1
        replace p127 := eq_true p127
        replace q127 := eq_true q127
        have p129 : 0 ≤ (x3_1 : Int) := of_decide_eq_true (by assumption)
        have q129 : x3_1 < (l0.length : Int) := of_decide_eq_true (by assumption)
        obtain ⟨ad129, e129, hx129_0, hx129_1⟩ := at_T39 HR0.out x3_1 p129 q129
        have hw129_1 := hx129_1
        have hw129_0 := hx129_0
        obtain rfl : ad127 = ad129 := (by injection e129)
        replace hx129_0 := (HB.out.cell (World.block_lt_of_cell? w _ hx129_0)).trans hx129_0
        replace hx129_1 := (HB.out.cell (World.block_lt_of_cell? w _ hx129_1)).trans hx129_1
        replace p129 := eq_true p129
        replace q129 := eq_true q129
        refine start_ (n := 34) (S := fun w' => w'.cell? (ad127.add ((x3_1).toNat * 2)) = some (.string ((rd_T39 l0 x3_1).f0)) ∧ w'.cell? ⟨(ad127.add ((x3_1).toNat * 2)).block, (ad127.add ((x3_1).toNat * 2)).off + 1, none⟩ = some (.int .u8 ((rd_T39 l0 x3_1).f1)) ∧ w'.cell? (ad127.add ((x3_1).toNat * 2)) = some (.string ((rd_T39 l0 x3_1).f0)) ∧ w'.cell? ⟨(ad127.add ((x3_1).toNat * 2)).block, (ad127.add ((x3_1).toNat * 2)).off + 1, none⟩ = some (.int .u8 ((rd_T39 l0 x3_1).f1))) (ds := []) (bl [0, 34]) (by kernel_rfl) rfl rfl ⟨((HB.out.cell (World.block_lt_of_cell? w _ hw127_0)).trans hw127_0), ((HB.out.cell (World.block_lt_of_cell? w _ hw127_1)).trans hw127_1), ((HB.out.cell (World.block_lt_of_cell? w _ hw129_0)).trans hw129_0), ((HB.out.cell (World.block_lt_of_cell? w _ hw129_1)).trans hw129_1)⟩ (fun hHeld => ?_); refine with_tabW syllabaryref21_chords.tab4 syllabaryref21_chords.bits4 (fun HT_ HW_ => ?_)
        generalize wr.drew = w15 at HB hx127_0 hx127_1 hx129_0 hx129_1 hHeld ⊢
        refine qA 0 (some 10) (bl [1, 33]) HT_ ?_
        refine qA 1 (some 11) (bl [2, 32]) HT_ ?_
        refine qA 2 (some 12) (bl [3, 31]) HT_ ?_
        refine qA 3 (some 13) (bl [4, 30]) HT_ ?_
        refine qT 4 (some 14) (bl [5, 29]) HT_ HW_ hHeld ?_
        refine one_ (i := 5) (N := some 15) (bl [6, 28]) rfl rfl (one_of HT_.out (by kernel_rfl)) (by decide) (fun K hK => ?_)
        refine goes_ Try.func115 (by kernel_rfl) rfl #[.string ((rd_T39 l0 x3_1).f0)] (by rfl) rfl rfl (by (try simp only [List.map_toArray, List.map_cons, List.map_nil]); first | done | rfl | (simp only [List.length_drop, List.length_take]; rfl)) ?_
        with_reducible refine (syllabaryref21_Rising.calls k1 ((rd_T39 l0 x3_1).f0) true _ A4.out).mono ?_
        rintro e w' ⟨rfl, ⟨nd, rfl⟩⟩
        refine ⟨_, rfl, ?_⟩
        refine hK.out _ _ ⟨((HB.out.cell (World.block_lt_of_cell? w _ hw127_0)).trans hw127_0), ((HB.out.cell (World.block_lt_of_cell? w _ hw127_1)).trans hw127_1), ((HB.out.cell (World.block_lt_of_cell? w _ hw129_0)).trans hw129_0), ((HB.out.cell (World.block_lt_of_cell? w _ hw129_1)).trans hw129_1)⟩ (fun hHeld => ?_)
        clear hK K
        refine norm_ (a' := ?_) ?_ ?_
        rotate_left; · (show Act.put _ (some 15) _ = _; simp only [Act.put, q1, q2, q3, i64_w, i32_w]; rfl)
        refine qA 6 (some 16) (bl [7, 27]) HT_ ?_
        refine qA 7 (some 17) (bl [8, 26]) HT_ ?_
        refine qA 8 (some 18) (bl [9, 25]) HT_ ?_
        refine qA 9 (some 19) (bl [10, 24]) HT_ ?_
        refine qA 10 (some 20) (bl [11, 23]) HT_ ?_
        refine qA 11 (some 21) (bl [12, 22]) HT_ ?_
        refine qT 12 (some 22) (bl [13, 21]) HT_ HW_ hHeld ?_
        refine one_ (i := 13) (N := some 23) (bl [14, 20]) rfl rfl (one_of HT_.out (by kernel_rfl)) (by decide) (fun K hK => ?_)
        refine goes_ Try.func86 (by kernel_rfl) rfl #[.int .u8 ((rd_T39 l0 x3_1).f1)] (by rfl) rfl rfl (by (try simp only [List.map_toArray, List.map_cons, List.map_nil]); first | done | rfl | (simp only [List.length_drop, List.length_take]; rfl)) ?_
        with_reducible refine (syllabaryref21_Letter.calls ((rd_T39 l0 x3_1).f1) true _ A6.out).mono ?_
        rintro e w' ⟨rfl, ⟨nd, rfl⟩⟩
        refine ⟨_, rfl, ?_⟩
        refine hK.out _ _ ⟨((HB.out.cell (World.block_lt_of_cell? w _ hw127_0)).trans hw127_0), ((HB.out.cell (World.block_lt_of_cell? w _ hw127_1)).trans hw127_1), ((HB.out.cell (World.block_lt_of_cell? w _ hw129_0)).trans hw129_0), ((HB.out.cell (World.block_lt_of_cell? w _ hw129_1)).trans hw129_1)⟩ (fun hHeld => ?_)
        clear hK K
        refine norm_ (a' := ?_) ?_ ?_
        rotate_left; · (show Act.put _ (some 23) _ = _; simp only [Act.put, q1, q2, q3, i64_w, i32_w]; rfl)
        refine qA 14 (some 24) (bl [15, 19]) HT_ ?_
        refine qA 15 (some 25) (bl [16, 18]) HT_ ?_
        refine qA 16 (some 26) (bl [17, 17]) HT_ ?_
        refine qA 17 (some 27) (bl [18, 16]) HT_ ?_
        refine qA 18 (some 28) (bl [19, 15]) HT_ ?_
        refine qA 19 (some 29) (bl [20, 14]) HT_ ?_
        refine qO 20 (some 30) (bl [21, 13]) HT_ ?_
        refine qO 21 (some 31) (bl [22, 12]) HT_ ?_
        refine qO 22 (some 32) (bl [23, 11]) HT_ ?_
        refine qO 23 (some 33) (bl [24, 10]) HT_ ?_
        refine qO 24 (some 34) (bl [25, 9]) HT_ ?_
        refine qO 25 (some 35) (bl [26, 8]) HT_ ?_
        refine qO 26 (some 36) (bl [27, 7]) HT_ ?_
        refine qO 27 (some 37) (bl [28, 6]) HT_ ?_
        refine qO 28 (some 38) (bl [29, 5]) HT_ ?_
        refine qO 29 (some 39) (bl [30, 4]) HT_ ?_
        refine qO 30 (some 40) (bl [31, 3]) HT_ ?_
        refine qO 31 (some 41) (bl [32, 2]) HT_ ?_
        refine qA 32 (some 42) (bl [33, 1]) HT_ ?_
        refine qA 33 (some 43) (bl [34]) HT_ ?_
        refine done_ (done_of HT_.out (by kernel_rfl)) ?_
        try go_wp2
        go_roundg k1
        case measure => have := HK1.out; omega
        case rel => exact ⟨(wrap64 (x3_1 + 1)), (by first | rfl | (simp; done) | (simp [*]; done)), H', ⟨by have := HK1.out; omega⟩, ⟨by repeat (first | (with_reducible first | exact HB.out | apply below_alloc | apply pw_below_drewN | apply below_drew1) | exact HB.out)⟩⟩
      ·
       replace c7 := Bool.eq_false_iff.mpr c7
       subst c7
       have H1 : (some false) = some r := by rw [if_neg (show ¬ (false = true) by decide)] at H; exact H
       clear H
       have H := H1
       clear H1
       obtain rfl := Option.some.inj H
       try go_wp2
       have n0_ := Aside0.mk (below_drew1 HB.out)
       clear HB
       have HB := n0_
       clear n0_
       have p127 : 0 ≤ (x3_1 : Int) := of_decide_eq_true (by assumption)
       have q127 : x3_1 < (l0.length : Int) := of_decide_eq_true (by assumption)
       obtain ⟨ad127, e127, hx127_0, hx127_1⟩ := at_T39 HR0.out x3_1 p127 q127
       have hw127_1 := hx127_1
       have hw127_0 := hx127_0
       cases e127
       replace hx127_0 := (HB.out.cell (World.block_lt_of_cell? w _ hx127_0)).trans hx127_0
       replace hx127_1 := (HB.out.cell (World.block_lt_of_cell? w _ hx127_1)).trans hx127_1
       replace p127 := eq_true p127
       replace q127 := eq_true q127
       have p129 : 0 ≤ (x3_1 : Int) := of_decide_eq_true (by assumption)
       have q129 : x3_1 < (l0.length : Int) := of_decide_eq_true (by assumption)
       obtain ⟨ad129, e129, hx129_0, hx129_1⟩ := at_T39 HR0.out x3_1 p129 q129
       have hw129_1 := hx129_1
       have hw129_0 := hx129_0
       obtain rfl : ad127 = ad129 := (by injection e129)
       replace hx129_0 := (HB.out.cell (World.block_lt_of_cell? w _ hx129_0)).trans hx129_0
       replace hx129_1 := (HB.out.cell (World.block_lt_of_cell? w _ hx129_1)).trans hx129_1
       replace p129 := eq_true p129
       replace q129 := eq_true q129
       refine start_ (n := 34) (S := fun w' => w'.cell? (ad127.add ((x3_1).toNat * 2)) = some (.string ((rd_T39 l0 x3_1).f0)) ∧ w'.cell? ⟨(ad127.add ((x3_1).toNat * 2)).block, (ad127.add ((x3_1).toNat * 2)).off + 1, none⟩ = some (.int .u8 ((rd_T39 l0 x3_1).f1)) ∧ w'.cell? (ad127.add ((x3_1).toNat * 2)) = some (.string ((rd_T39 l0 x3_1).f0)) ∧ w'.cell? ⟨(ad127.add ((x3_1).toNat * 2)).block, (ad127.add ((x3_1).toNat * 2)).off + 1, none⟩ = some (.int .u8 ((rd_T39 l0 x3_1).f1))) (ds := []) (bl [0, 34]) (by kernel_rfl) rfl rfl ⟨((HB.out.cell (World.block_lt_of_cell? w _ hw127_0)).trans hw127_0), ((HB.out.cell (World.block_lt_of_cell? w _ hw127_1)).trans hw127_1), ((HB.out.cell (World.block_lt_of_cell? w _ hw129_0)).trans hw129_0), ((HB.out.cell (World.block_lt_of_cell? w _ hw129_1)).trans hw129_1)⟩ (fun hHeld => ?_); refine with_tabW syllabaryref21_chords.tab4 syllabaryref21_chords.bits4 (fun HT_ HW_ => ?_)
       generalize wr.drew = w16 at HB hx127_0 hx127_1 hx129_0 hx129_1 hHeld ⊢
       refine qA 0 (some 10) (bl [1, 33]) HT_ ?_
       refine qA 1 (some 11) (bl [2, 32]) HT_ ?_
       refine qA 2 (some 12) (bl [3, 31]) HT_ ?_
       refine qA 3 (some 13) (bl [4, 30]) HT_ ?_
       refine qT 4 (some 14) (bl [5, 29]) HT_ HW_ hHeld ?_
       refine one_ (i := 5) (N := some 15) (bl [6, 28]) rfl rfl (one_of HT_.out (by kernel_rfl)) (by decide) (fun K hK => ?_)
       refine goes_ Try.func115 (by kernel_rfl) rfl #[.string ((rd_T39 l0 x3_1).f0)] (by rfl) rfl rfl (by (try simp only [List.map_toArray, List.map_cons, List.map_nil]); first | done | rfl | (simp only [List.length_drop, List.length_take]; rfl)) ?_
       with_reducible refine (syllabaryref21_Rising.calls k1 ((rd_T39 l0 x3_1).f0) true _ A4.out).mono ?_
       rintro e w' ⟨rfl, ⟨nd, rfl⟩⟩
       refine ⟨_, rfl, ?_⟩
       refine hK.out _ _ ⟨((HB.out.cell (World.block_lt_of_cell? w _ hw127_0)).trans hw127_0), ((HB.out.cell (World.block_lt_of_cell? w _ hw127_1)).trans hw127_1), ((HB.out.cell (World.block_lt_of_cell? w _ hw129_0)).trans hw129_0), ((HB.out.cell (World.block_lt_of_cell? w _ hw129_1)).trans hw129_1)⟩ (fun hHeld => ?_)
       clear hK K
       refine norm_ (a' := ?_) ?_ ?_
       rotate_left; · (show Act.put _ (some 15) _ = _; simp only [Act.put, q1, q2, q3, i64_w, i32_w]; rfl)
       refine qA 6 (some 16) (bl [7, 27]) HT_ ?_
       refine qA 7 (some 17) (bl [8, 26]) HT_ ?_
       refine qA 8 (some 18) (bl [9, 25]) HT_ ?_
       refine qA 9 (some 19) (bl [10, 24]) HT_ ?_
       refine qA 10 (some 20) (bl [11, 23]) HT_ ?_
       refine qA 11 (some 21) (bl [12, 22]) HT_ ?_
       refine qT 12 (some 22) (bl [13, 21]) HT_ HW_ hHeld ?_
       refine one_ (i := 13) (N := some 23) (bl [14, 20]) rfl rfl (one_of HT_.out (by kernel_rfl)) (by decide) (fun K hK => ?_)
       refine goes_ Try.func86 (by kernel_rfl) rfl #[.int .u8 ((rd_T39 l0 x3_1).f1)] (by rfl) rfl rfl (by (try simp only [List.map_toArray, List.map_cons, List.map_nil]); first | done | rfl | (simp only [List.length_drop, List.length_take]; rfl)) ?_
       with_reducible refine (syllabaryref21_Letter.calls ((rd_T39 l0 x3_1).f1) false _ A6.out).mono ?_
       rintro e w' ⟨rfl, ⟨nd, rfl⟩⟩
       refine ⟨_, rfl, ?_⟩
       refine hK.out _ _ ⟨((HB.out.cell (World.block_lt_of_cell? w _ hw127_0)).trans hw127_0), ((HB.out.cell (World.block_lt_of_cell? w _ hw127_1)).trans hw127_1), ((HB.out.cell (World.block_lt_of_cell? w _ hw129_0)).trans hw129_0), ((HB.out.cell (World.block_lt_of_cell? w _ hw129_1)).trans hw129_1)⟩ (fun hHeld => ?_)
       clear hK K
       refine norm_ (a' := ?_) ?_ ?_
       rotate_left; · (show Act.put _ (some 23) _ = _; simp only [Act.put, q1, q2, q3, i64_w, i32_w]; rfl)
       refine qA 14 (some 24) (bl [15, 19]) HT_ ?_
       refine qA 15 (some 25) (bl [16, 18]) HT_ ?_
       refine qA 16 (some 26) (bl [17, 17]) HT_ ?_
       refine qO 17 (some 27) (bl [18, 16]) HT_ ?_
       refine qO 18 (some 28) (bl [19, 15]) HT_ ?_
       refine qO 19 (some 29) (bl [20, 14]) HT_ ?_
       refine qO 20 (some 30) (bl [21, 13]) HT_ ?_
       refine qO 21 (some 31) (bl [22, 12]) HT_ ?_
       refine qO 22 (some 32) (bl [23, 11]) HT_ ?_
       refine qO 23 (some 33) (bl [24, 10]) HT_ ?_
       refine qO 24 (some 34) (bl [25, 9]) HT_ ?_
       refine qO 25 (some 35) (bl [26, 8]) HT_ ?_
       refine qO 26 (some 36) (bl [27, 7]) HT_ ?_
       refine qO 27 (some 37) (bl [28, 6]) HT_ ?_
       refine qO 28 (some 38) (bl [29, 5]) HT_ ?_
       refine qO 29 (some 39) (bl [30, 4]) HT_ ?_
       refine qO 30 (some 40) (bl [31, 3]) HT_ ?_
       refine qO 31 (some 41) (bl [32, 2]) HT_ ?_
       refine qO 32 (some 42) (bl [33, 1]) HT_ ?_
       refine qA 33 (some 43) (bl [34]) HT_ ?_
       refine done_ (done_of HT_.out (by kernel_rfl)) ?_
       try go_wp2
       go_ret
       exact ⟨by first | rfl | (simp [errW_none, errW_some] <;> rfl) | (simp [*, errW_none, errW_some] <;> rfl), by repeat (first | (with_reducible first | exact HB.out | apply below_alloc | apply pw_below_drewN | apply below_drew1) | exact HB.out)⟩
     ·
      replace c5 := Bool.eq_false_iff.mpr c5
      subst c5
      have H1 : (some false) = some r := by rw [if_neg (show ¬ (false = true) by decide)] at H; exact H
      clear H
      have H := H1
      clear H1
      obtain rfl := Option.some.inj H
      try go_wp2
      have n0_ := Aside0.mk (below_drew1 HB.out)
      clear HB
      have HB := n0_
      clear n0_
      have p127 : 0 ≤ (x3_1 : Int) := of_decide_eq_true (by assumption)
      have q127 : x3_1 < (l0.length : Int) := of_decide_eq_true (by assumption)
      obtain ⟨ad127, e127, hx127_0, hx127_1⟩ := at_T39 HR0.out x3_1 p127 q127
      have hw127_1 := hx127_1
      have hw127_0 := hx127_0
      cases e127
      replace hx127_0 := (HB.out.cell (World.block_lt_of_cell? w _ hx127_0)).trans hx127_0
      replace hx127_1 := (HB.out.cell (World.block_lt_of_cell? w _ hx127_1)).trans hx127_1
      replace p127 := eq_true p127
      replace q127 := eq_true q127
      refine start_ (n := 34) (S := fun w' => w'.cell? (ad127.add ((x3_1).toNat * 2)) = some (.string ((rd_T39 l0 x3_1).f0)) ∧ w'.cell? ⟨(ad127.add ((x3_1).toNat * 2)).block, (ad127.add ((x3_1).toNat * 2)).off + 1, none⟩ = some (.int .u8 ((rd_T39 l0 x3_1).f1))) (ds := []) (bl [0, 34]) (by kernel_rfl) rfl rfl ⟨((HB.out.cell (World.block_lt_of_cell? w _ hw127_0)).trans hw127_0), ((HB.out.cell (World.block_lt_of_cell? w _ hw127_1)).trans hw127_1)⟩ (fun hHeld => ?_); refine with_tabW syllabaryref21_chords.tab4 syllabaryref21_chords.bits4 (fun HT_ HW_ => ?_)
      generalize wr.drew = w17 at HB hx127_0 hx127_1 hHeld ⊢
      refine qA 0 (some 10) (bl [1, 33]) HT_ ?_
      refine qA 1 (some 11) (bl [2, 32]) HT_ ?_
      refine qA 2 (some 12) (bl [3, 31]) HT_ ?_
      refine qA 3 (some 13) (bl [4, 30]) HT_ ?_
      refine qT 4 (some 14) (bl [5, 29]) HT_ HW_ hHeld ?_
      refine one_ (i := 5) (N := some 15) (bl [6, 28]) rfl rfl (one_of HT_.out (by kernel_rfl)) (by decide) (fun K hK => ?_)
      refine goes_ Try.func115 (by kernel_rfl) rfl #[.string ((rd_T39 l0 x3_1).f0)] (by rfl) rfl rfl (by (try simp only [List.map_toArray, List.map_cons, List.map_nil]); first | done | rfl | (simp only [List.length_drop, List.length_take]; rfl)) ?_
      with_reducible refine (syllabaryref21_Rising.calls k1 ((rd_T39 l0 x3_1).f0) false _ A4.out).mono ?_
      rintro e w' ⟨rfl, ⟨nd, rfl⟩⟩
      refine ⟨_, rfl, ?_⟩
      refine hK.out _ _ ⟨((HB.out.cell (World.block_lt_of_cell? w _ hw127_0)).trans hw127_0), ((HB.out.cell (World.block_lt_of_cell? w _ hw127_1)).trans hw127_1)⟩ (fun hHeld => ?_)
      clear hK K
      refine norm_ (a' := ?_) ?_ ?_
      rotate_left; · (show Act.put _ (some 15) _ = _; simp only [Act.put, q1, q2, q3, i64_w, i32_w]; rfl)
      refine qA 6 (some 16) (bl [7, 27]) HT_ ?_
      refine qA 7 (some 17) (bl [8, 26]) HT_ ?_
      refine qO 8 (some 18) (bl [9, 25]) HT_ ?_
      refine qO 9 (some 19) (bl [10, 24]) HT_ ?_
      refine qO 10 (some 20) (bl [11, 23]) HT_ ?_
      refine qO 11 (some 21) (bl [12, 22]) HT_ ?_
      refine qO 12 (some 22) (bl [13, 21]) HT_ ?_
      refine qO 13 (some 23) (bl [14, 20]) HT_ ?_
      refine qO 14 (some 24) (bl [15, 19]) HT_ ?_
      refine qA 15 (some 25) (bl [16, 18]) HT_ ?_
      refine qA 16 (some 26) (bl [17, 17]) HT_ ?_
      refine qO 17 (some 27) (bl [18, 16]) HT_ ?_
      refine qO 18 (some 28) (bl [19, 15]) HT_ ?_
      refine qO 19 (some 29) (bl [20, 14]) HT_ ?_
      refine qO 20 (some 30) (bl [21, 13]) HT_ ?_
      refine qO 21 (some 31) (bl [22, 12]) HT_ ?_
      refine qO 22 (some 32) (bl [23, 11]) HT_ ?_
      refine qO 23 (some 33) (bl [24, 10]) HT_ ?_
      refine qO 24 (some 34) (bl [25, 9]) HT_ ?_
      refine qO 25 (some 35) (bl [26, 8]) HT_ ?_
      refine qO 26 (some 36) (bl [27, 7]) HT_ ?_
      refine qO 27 (some 37) (bl [28, 6]) HT_ ?_
      refine qO 28 (some 38) (bl [29, 5]) HT_ ?_
      refine qO 29 (some 39) (bl [30, 4]) HT_ ?_
      refine qO 30 (some 40) (bl [31, 3]) HT_ ?_
      refine qO 31 (some 41) (bl [32, 2]) HT_ ?_
      refine qO 32 (some 42) (bl [33, 1]) HT_ ?_
      refine qA 33 (some 43) (bl [34]) HT_ ?_
      refine done_ (done_of HT_.out (by kernel_rfl)) ?_
      try go_wp2
      go_ret
      exact ⟨by first | rfl | (simp [errW_none, errW_some] <;> rfl) | (simp [*, errW_none, errW_some] <;> rfl), by repeat (first | (with_reducible first | exact HB.out | apply below_alloc | apply pw_below_drewN | apply below_drew1) | exact HB.out)⟩
    ·
     rw [if_neg c3] at H
     exact absurd H (by simp)
   ·
    rw [if_neg c2] at H
    have c2b0 : decide (x3_1 < (l0.length : Int)) = false := decide_eq_false c2
    clear c2
    obtain rfl := Option.some.inj H
    go_wp2
    go_ret
    exact ⟨by first | rfl | (simp [errW_none, errW_some] <;> rfl) | (simp [*, errW_none, errW_some] <;> rfl), by repeat (first | (with_reducible first | exact HB.out | apply below_alloc | apply pw_below_drewN | apply below_drew1) | exact HB.out)⟩

end Go.Proofs.Ytplhilglokbplaa.PAll
