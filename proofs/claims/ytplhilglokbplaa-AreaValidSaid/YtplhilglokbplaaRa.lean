/- What the kit's print.py wrote for one function, made smaller by squeeze.py. -/
import Derived.Test.YtplhilglokbplaaQz
import Derived.Test.YtplhilglokbplaaQa
namespace Go.Proofs.Ytplhilglokbplaa.PAll
open Go.RowKit Go.Proofs.YtplhilglokbplaaW.PrintWords Go.Proofs.YtplhilglokbplaaW.PrintLast Go.Proofs.YtplhilglokbplaaW.PrintMore
attribute [local go_sem] max2_int min2_int max_two min_two max_three min_three max_four min_four   -- for this text's walks alone
set_option linter.unusedVariables false
set_option linter.unusedSimpArgs false

/-! ### syllabaryref21_areas: function 44 -/
mutual
def syllabaryref21_areas.l0 : Nat → List (S36) → Int → Option (Bool)
 | 0, _, _ => none
 | k + 1, x0, x3 => if x3 < (x0.length : Int) then (if 0 ≤ x3 then ((syllabaryref21_Letter.f ((rd_T36 x0 x3).f0)).bind fun t104 => (if t104 = true then (if x3 > 0 then (if 0 ≤ (wrap64 (x3 - 1)) then (if (wrap64 (x3 - 1)) < (x0.length : Int) then (if ((rd_T36 x0 x3).f0) ≤ ((rd_T36 x0 (wrap64 (x3 - 1))).f0) then (syllabaryref21_areas.j1 k x0 x3 true ((rd_T36 x0 x3).f0) ((rd_T36 x0 x3).f1) ((rd_T36 x0 x3).f2) ((rd_T36 x0 x3).f3) ((rd_T36 x0 x3).f4)) else ((syllabaryref21_Inside.f ((rd_T36 x0 x3).f1) ((rd_T36 x0 x3).f2)).bind fun t106 => (if t106 = true then ((syllabaryref21_Inside.f ((rd_T36 x0 x3).f3) ((rd_T36 x0 x3).f4)).bind fun t107 => (if t107 = true then (if ((rd_T36 x0 x3).f1) > ((rd_T36 x0 x3).f3) then (syllabaryref21_areas.j1 k x0 x3 true ((rd_T36 x0 x3).f0) ((rd_T36 x0 x3).f1) ((rd_T36 x0 x3).f2) ((rd_T36 x0 x3).f3) ((rd_T36 x0 x3).f4)) else (syllabaryref21_areas.j1 k x0 x3 (decide (((rd_T36 x0 x3).f2) > ((rd_T36 x0 x3).f4))) ((rd_T36 x0 x3).f0) ((rd_T36 x0 x3).f1) ((rd_T36 x0 x3).f2) ((rd_T36 x0 x3).f3) ((rd_T36 x0 x3).f4))) else (syllabaryref21_areas.j1 k x0 x3 true ((rd_T36 x0 x3).f0) ((rd_T36 x0 x3).f1) ((rd_T36 x0 x3).f2) ((rd_T36 x0 x3).f3) ((rd_T36 x0 x3).f4)))) else (syllabaryref21_areas.j1 k x0 x3 true ((rd_T36 x0 x3).f0) ((rd_T36 x0 x3).f1) ((rd_T36 x0 x3).f2) ((rd_T36 x0 x3).f3) ((rd_T36 x0 x3).f4))))) else (none)) else (none)) else ((syllabaryref21_Inside.f ((rd_T36 x0 x3).f1) ((rd_T36 x0 x3).f2)).bind fun t108 => (if t108 = true then ((syllabaryref21_Inside.f ((rd_T36 x0 x3).f3) ((rd_T36 x0 x3).f4)).bind fun t109 => (if t109 = true then (if ((rd_T36 x0 x3).f1) > ((rd_T36 x0 x3).f3) then (syllabaryref21_areas.j1 k x0 x3 true ((rd_T36 x0 x3).f0) ((rd_T36 x0 x3).f1) ((rd_T36 x0 x3).f2) ((rd_T36 x0 x3).f3) ((rd_T36 x0 x3).f4)) else (syllabaryref21_areas.j1 k x0 x3 (decide (((rd_T36 x0 x3).f2) > ((rd_T36 x0 x3).f4))) ((rd_T36 x0 x3).f0) ((rd_T36 x0 x3).f1) ((rd_T36 x0 x3).f2) ((rd_T36 x0 x3).f3) ((rd_T36 x0 x3).f4))) else (syllabaryref21_areas.j1 k x0 x3 true ((rd_T36 x0 x3).f0) ((rd_T36 x0 x3).f1) ((rd_T36 x0 x3).f2) ((rd_T36 x0 x3).f3) ((rd_T36 x0 x3).f4)))) else (syllabaryref21_areas.j1 k x0 x3 true ((rd_T36 x0 x3).f0) ((rd_T36 x0 x3).f1) ((rd_T36 x0 x3).f2) ((rd_T36 x0 x3).f3) ((rd_T36 x0 x3).f4))))) else (syllabaryref21_areas.j1 k x0 x3 true ((rd_T36 x0 x3).f0) ((rd_T36 x0 x3).f1) ((rd_T36 x0 x3).f2) ((rd_T36 x0 x3).f3) ((rd_T36 x0 x3).f4)))) else (none)) else (some (decide ((x0.length : Int) ≤ 26)))
def syllabaryref21_areas.j1 : Nat → List (S36) → Int → Bool → Int → Int → Int → Int → Int → Option (Bool)
 | 0, _, _, _, _, _, _, _, _ => none
 | k + 1, x0, x3, x66, x104000, x104001, x104002, x104003, x104004 => if x66 = true then (some false) else (syllabaryref21_areas.l1 k x0 x3 0 x104000 x104001 x104002 x104003 x104004)
def syllabaryref21_areas.l1 : Nat → List (S36) → Int → Int → Int → Int → Int → Int → Int → Option (Bool)
 | 0, _, _, _, _, _, _, _, _ => none
 | k + 1, x0, x3, x5, x104000, x104001, x104002, x104003, x104004 => if x5 < x3 then (if 0 ≤ x5 then (if x5 < (x0.length : Int) then (if x104001 ≤ ((rd_T36 x0 x5).f3) then (if ((rd_T36 x0 x5).f1) ≤ x104003 then (if x104002 ≤ ((rd_T36 x0 x5).f4) then (if ((rd_T36 x0 x5).f2) ≤ x104004 then (some false) else (syllabaryref21_areas.l1 k x0 x3 (wrap64 (x5 + 1)) x104000 x104001 x104002 x104003 x104004)) else (syllabaryref21_areas.l1 k x0 x3 (wrap64 (x5 + 1)) x104000 x104001 x104002 x104003 x104004)) else (syllabaryref21_areas.l1 k x0 x3 (wrap64 (x5 + 1)) x104000 x104001 x104002 x104003 x104004)) else (syllabaryref21_areas.l1 k x0 x3 (wrap64 (x5 + 1)) x104000 x104001 x104002 x104003 x104004)) else (none)) else (none)) else (syllabaryref21_areas.l0 k x0 (wrap64 (x3 + 1)))
end
def syllabaryref21_areas.f (k : Nat) (l0 : List (S36)) : Option (Bool) := syllabaryref21_areas.l0 k l0 0
theorem syllabaryref21_areas.mono_l : ∀ k, (∀ y0 y1, LeO (syllabaryref21_areas.l0 k y0 y1) (syllabaryref21_areas.l0 (k + 1) y0 y1)) ∧ (∀ y0 y1 y2 y3 y4 y5 y6 y7, LeO (syllabaryref21_areas.j1 k y0 y1 y2 y3 y4 y5 y6 y7) (syllabaryref21_areas.j1 (k + 1) y0 y1 y2 y3 y4 y5 y6 y7)) ∧ (∀ y0 y1 y2 y3 y4 y5 y6 y7, LeO (syllabaryref21_areas.l1 k y0 y1 y2 y3 y4 y5 y6 y7) (syllabaryref21_areas.l1 (k + 1) y0 y1 y2 y3 y4 y5 y6 y7))
 | 0 => ⟨fun _ _ r h => by simp [syllabaryref21_areas.l0] at h, fun _ _ _ _ _ _ _ _ r h => by simp [syllabaryref21_areas.j1] at h, fun _ _ _ _ _ _ _ _ r h => by simp [syllabaryref21_areas.l1] at h⟩
 | k + 1 => by
  obtain ⟨ih0, ih1, ih2⟩ := syllabaryref21_areas.mono_l k
  refine ⟨?_, ?_, ?_⟩
  ·
   intro y0 y1
   unfold syllabaryref21_areas.l0
   repeat' first
   | (with_reducible exact ih0 _ _)
   | (with_reducible exact ih1 _ _ _ _ _ _ _ _)
   | (with_reducible exact ih2 _ _ _ _ _ _ _ _)
   | (with_reducible exact LeO.refl _)
   | (with_reducible exact LeO.none _)
   | (with_reducible refine LeO.ite ?_ ?_)
   | (with_reducible refine LeO.bind ?_ (fun _ => ?_))
   | exact ih0 _ _
   | exact ih1 _ _ _ _ _ _ _ _
   | exact ih2 _ _ _ _ _ _ _ _
   | exact LeO.none _
   | refine LeO.ite ?_ ?_
   | refine LeO.bind ?_ (fun _ => ?_)
  ·
   intro y0 y1 y2 y3 y4 y5 y6 y7
   unfold syllabaryref21_areas.j1
   repeat' first
   | (with_reducible exact ih0 _ _)
   | (with_reducible exact ih1 _ _ _ _ _ _ _ _)
   | (with_reducible exact ih2 _ _ _ _ _ _ _ _)
   | (with_reducible exact LeO.refl _)
   | (with_reducible exact LeO.none _)
   | (with_reducible refine LeO.ite ?_ ?_)
   | (with_reducible refine LeO.bind ?_ (fun _ => ?_))
   | exact ih0 _ _
   | exact ih1 _ _ _ _ _ _ _ _
   | exact ih2 _ _ _ _ _ _ _ _
   | exact LeO.none _
   | refine LeO.ite ?_ ?_
   | refine LeO.bind ?_ (fun _ => ?_)
  ·
   intro y0 y1 y2 y3 y4 y5 y6 y7
   unfold syllabaryref21_areas.l1
   repeat' first
   | (with_reducible exact ih0 _ _)
   | (with_reducible exact ih1 _ _ _ _ _ _ _ _)
   | (with_reducible exact ih2 _ _ _ _ _ _ _ _)
   | (with_reducible exact LeO.refl _)
   | (with_reducible exact LeO.none _)
   | (with_reducible refine LeO.ite ?_ ?_)
   | (with_reducible refine LeO.bind ?_ (fun _ => ?_))
   | exact ih0 _ _
   | exact ih1 _ _ _ _ _ _ _ _
   | exact ih2 _ _ _ _ _ _ _ _
   | exact LeO.none _
   | refine LeO.ite ?_ ?_
   | refine LeO.bind ?_ (fun _ => ?_)
theorem syllabaryref21_areas.mono : ∀ a0 k, LeO (syllabaryref21_areas.f k a0) (syllabaryref21_areas.f (k + 1) a0) := by
 intro a0 k
 obtain ⟨ih0, ih1, ih2⟩ := syllabaryref21_areas.mono_l k
 unfold syllabaryref21_areas.f
 repeat' first
   | (with_reducible exact ih0 _ _)
   | (with_reducible exact ih1 _ _ _ _ _ _ _ _)
   | (with_reducible exact ih2 _ _ _ _ _ _ _ _)
   | (with_reducible exact LeO.refl _)
   | (with_reducible exact LeO.none _)
   | (with_reducible refine LeO.ite ?_ ?_)
   | (with_reducible refine LeO.bind ?_ (fun _ => ?_))
   | exact ih0 _ _
   | exact ih1 _ _ _ _ _ _ _ _
   | exact ih2 _ _ _ _ _ _ _ _
   | exact LeO.none _
   | refine LeO.ite ?_ ?_
   | refine LeO.bind ?_ (fun _ => ?_)
def syllabaryref21_areas.T5 : Bool × List (List Nat × List Nat) := (true, [([], []), ([0], [0]), ([1], [1]), ([2], [2]), ([3, 2], [3]), ([4], [4]), ([5, 4], [4, 5]), ([6, 4, 4], [4, 6]), ([7], [7]), ([8, 7], [7, 8]), ([7], [7]), ([7], [7]), ([11, 7], [7, 11]), ([10, 12, 7], [7, 10, 12]), ([13, 7], [7, 13]), ([14, 7], [7, 14]), ([9, 15, 7], [7, 9, 15]), ([7, 16, 4], [4, 7, 16]), ([4, 17], [4, 17]), ([18, 7], [18]), ([19], [19]), ([20, 19], [19, 20]), ([19], [19]), ([22, 19], [19, 22]), ([21, 23, 19], [19, 21, 23]), ([24, 19, 19], [19, 24]), ([25, 19], [19, 25]), ([19, 26], [19, 26]), ([27, 25], [27]), ([28], [28]), ([29, 28], [28, 29]), ([28], [28]), ([31, 28], [28, 31]), ([30, 32, 28], [28, 30, 32]), ([33, 28, 28], [28, 33]), ([34, 28], [28, 34]), ([28, 35], [28, 35]), ([36, 34], [36]), ([37], [37]), ([38, 37], [37, 38]), ([37], [37]), ([40, 37], [37, 40]), ([39, 41, 37], [37, 39, 41]), ([37, 42], [37, 42]), ([43, 37], [43]), ([44], [44]), ([45, 44], [44, 45]), ([44], [44]), ([47, 44], [44, 47]), ([46, 48, 44], [44, 46, 48]), ([44, 49], [44, 49])])
def syllabaryref21_areas.B5 : List Nat := [0, 1, 3, 7, 15, 31, 63, 127, 255, 511, 255, 255, 2303, 7423, 15615, 31999, 65535, 131071, 262143, 524287, 1048575, 2097151, 1048575, 5242879, 16777215, 33554431, 67108863, 134217727, 268435455, 536870911, 1073741823, 536870911, 2684354559, 8589934591, 17179869183, 34359738367, 68719476735, 137438953471, 274877906943, 549755813887, 274877906943, 1374389534719, 4398046511103, 8796093022207, 17592186044415, 35184372088831, 70368744177663, 35184372088831, 175921860444159, 562949953421311, 1125899906842623]
theorem syllabaryref21_areas.tab5 : rtab .any (opsOf Try.f44 5) = syllabaryref21_areas.T5 := by kernel_rfl
theorem syllabaryref21_areas.bits5 : waitsOk syllabaryref21_areas.T5.2 syllabaryref21_areas.B5 = true := by kernel_rfl
def syllabaryref21_areas.T10 : Bool × List (List Nat × List Nat) := (true, [([], []), ([0], [0]), ([], []), ([], []), ([2, 3], [2, 3]), ([4], [4]), ([5], [5]), ([1, 6], [1, 6]), ([7], [7]), ([8], [8]), ([8], [8]), ([9, 10, 8], [8, 9, 10]), ([11, 8], [8, 11]), ([12, 8], [8, 12]), ([8], [8]), ([14, 8], [8, 14]), ([13, 15, 8], [8, 13, 15]), ([8, 16], [8, 16]), ([17, 8], [17]), ([18], [18]), ([19, 18], [18, 19]), ([18], [18]), ([18], [18]), ([21, 22, 18], [18, 21, 22]), ([23, 18], [18, 23]), ([24, 18], [18, 24]), ([20, 25, 18], [18, 20, 25]), ([18, 26], [18, 26]), ([27, 18], [27]), ([28], [28]), ([28], [28]), ([29, 30, 28], [28, 29, 30]), ([31, 28], [28, 31]), ([32, 28], [28, 32]), ([28], [28]), ([34, 28], [28, 34]), ([33, 35, 28], [28, 33, 35]), ([28, 36], [28, 36])])
def syllabaryref21_areas.B10 : List Nat := [0, 1, 0, 0, 12, 28, 60, 127, 255, 511, 511, 2047, 4095, 8191, 511, 16895, 65535, 131071, 262143, 524287, 1048575, 524287, 524287, 6815743, 15204351, 31981567, 67108863, 134217727, 268435455, 536870911, 536870911, 2147483647, 4294967295, 8589934591, 536870911, 17716740095, 68719476735, 137438953471]
theorem syllabaryref21_areas.tab10 : rtab .any (opsOf Try.f44 10) = syllabaryref21_areas.T10 := by kernel_rfl
theorem syllabaryref21_areas.bits10 : waitsOk syllabaryref21_areas.T10.2 syllabaryref21_areas.B10 = true := by kernel_rfl
set_option maxHeartbeats 8000000 in
set_option maxRecDepth 100000 in
theorem syllabaryref21_areas.calls (k : Nat) (A0 : Option Addr) (c0 : Nat) (l0 : List (S36)) (r : Bool) (w : World) (hr0 : Kd.C k36 w A0 l0.length l0) (hc0 : l0.length ≤ c0) (h : syllabaryref21_areas.f k l0 = some r) :
  Calls Try.prog 44 #[.slice A0 l0.length c0] w fun e w' => e = .returned (.bool r) ∧ Below w.heap.size w w' := by
 have hu36 := Try.underlying36
 have hu89 := Try.underlying89
 have HR0 := Aside0.mk hr0
 have HC0 := Aside0.mk hc0
 clear hr0 hc0
 have HB := Aside0.mk (Below.refl w.heap.size w)
 have H : (syllabaryref21_areas.l0 k l0 0) = some r := h
 clear h
 have H' := Aside0.mk H
 clear H
 go_enter Try.func44, Try.ntmps44
 go_wp2
 go_loopg [3] k (fun kq v3 w' => ∃ (x3_1 : Int), v3 = .int .i64 x3_1 ∧ Aside0 (syllabaryref21_areas.l0 kq l0 x3_1 = some r) ∧ Aside0 (kq ≤ k) ∧ Aside0 (Below w.heap.size w w'))
 case atStart => exact ⟨(0), (by first | rfl | (simp; done) | (simp [*]; done)), H', ⟨Nat.le_refl _⟩, ⟨by repeat (first | (with_reducible first | exact HB.out | apply below_alloc | apply pw_below_drewN | apply below_drew1) | exact HB.out)⟩⟩
 case round =>
  clear H'
  obtain ⟨x3_1, rfl, HA, HK1, HB⟩ := hrel
  cases gk with
  | zero => exact absurd HA.out (by simp [syllabaryref21_areas.l0])
  | succ k1 =>
   have H := HA.out
   clear HA
   simp only [syllabaryref21_areas.l0] at H
   by_cases c2 : x3_1 < (l0.length : Int)
   ·
    rw [if_pos c2] at H
    have c2b0 : decide (x3_1 < (l0.length : Int)) = true := decide_eq_true c2
    clear c2
    by_cases c3 : 0 ≤ x3_1
    ·
     rw [if_pos c3] at H
     have c3b0 : decide (0 ≤ x3_1) = true := decide_eq_true c3
     clear c3
     have HC4 := Aside0.mk H
     clear H
     have p102 : 0 ≤ (x3_1 : Int) := of_decide_eq_true (by assumption)
     have q102 : x3_1 < (l0.length : Int) := of_decide_eq_true (by assumption)
     obtain ⟨ad102, e102, hx102_0, hx102_1, hx102_2, hx102_3, hx102_4⟩ := at_T36 HR0.out x3_1 p102 q102
     cases e102
     replace hx102_0 := (HB.out.cell (World.block_lt_of_cell? w _ hx102_0)).trans hx102_0
     replace hx102_1 := (HB.out.cell (World.block_lt_of_cell? w _ hx102_1)).trans hx102_1
     replace hx102_2 := (HB.out.cell (World.block_lt_of_cell? w _ hx102_2)).trans hx102_2
     replace hx102_3 := (HB.out.cell (World.block_lt_of_cell? w _ hx102_3)).trans hx102_3
     replace hx102_4 := (HB.out.cell (World.block_lt_of_cell? w _ hx102_4)).trans hx102_4
     replace p102 := eq_true p102
     replace q102 := eq_true q102
     go_upto_region 5 with (first | ((with_reducible refine gate_dst (N := 4) rfl ?_); refine box_event ?hg (N := 4) ?hd (cs := #[.int .u8 0, .int .i64 0, .int .i64 0, .int .i64 0, .int .i64 0]) (t := 36) ?hr ?_; (case hd => rfl); (case hg => rfl); (case hr => first | (go_simp; done) | (go_simp; rfl)); intro gb103 hg w5 hbox hb; have n0_ := Aside0.mk (below_step (by repeat (first | (with_reducible first | exact HB.out | apply below_alloc | apply pw_below_drewN | apply below_drew1) | exact HB.out)) hb); have n1_ := Aside0.mk (hbox); have n2_ := Aside0.mk ((by rw [hg]; exact (below_size (by repeat (first | (with_reducible first | exact HB.out | apply below_alloc | apply pw_below_drewN | apply below_drew1) | exact HB.out))) : w.heap.size ≤ gb103)); have n3_ := Aside0.mk ((by rw [hg]; exact (below_size (by repeat (first | (with_reducible first | exact HB.out | apply below_alloc | apply pw_below_drewN | apply below_drew1) | exact HB.out))) : w.heap.size ≤ gb103)); clear HB; have HB := n0_; have BK103 := n1_; have GW103 := n2_; have GE103 := n3_; clear n0_ n1_ n2_ n3_; clear hb hbox hg; have hcz6_0 : w5.cell? ⟨gb103, 0, none⟩ = some (.int .u8 0) := (blk_cell BK103.out 0).trans rfl; have hcz6_1 : w5.cell? ⟨gb103, 1, none⟩ = some (.int .i64 0) := (blk_cell BK103.out 1).trans rfl; have hcz6_2 : w5.cell? ⟨gb103, 2, none⟩ = some (.int .i64 0) := (blk_cell BK103.out 2).trans rfl; have hcz6_3 : w5.cell? ⟨gb103, 3, none⟩ = some (.int .i64 0) := (blk_cell BK103.out 3).trans rfl; have hcz6_4 : w5.cell? ⟨gb103, 4, none⟩ = some (.int .i64 0) := (blk_cell BK103.out 4).trans rfl; have hfz6_0 := blk_frozen BK103.out 0; have hfz6_1 := blk_frozen BK103.out 1; have hfz6_2 := blk_frozen BK103.out 2; have hfz6_3 := blk_frozen BK103.out 3; have hfz6_4 := blk_frozen BK103.out 4))
     (try simp only [Act.put, q1, q2, q3])
     go_cut [66] (fun v66 wc => ∃ (kq : Nat) (x66_3 : Bool), v66 = .bool x66_3 ∧ Aside0 (syllabaryref21_areas.j1 kq l0 x3_1 x66_3 ((rd_T36 l0 x3_1).f0) ((rd_T36 l0 x3_1).f1) ((rd_T36 l0 x3_1).f2) ((rd_T36 l0 x3_1).f3) ((rd_T36 l0 x3_1).f4) = some r) ∧ Aside0 (kq ≤ k1) ∧ Aside0 (wc.heap[gb103]? = some (.cells #[.int .u8 ((rd_T36 l0 x3_1).f0), .int .i64 ((rd_T36 l0 x3_1).f1), .int .i64 ((rd_T36 l0 x3_1).f2), .int .i64 ((rd_T36 l0 x3_1).f3), .int .i64 ((rd_T36 l0 x3_1).f4)] 36 (0, 0))) ∧ Aside0 (Below w.heap.size w wc))
     case first =>
      have H := HC4.out
      clear HC4
      replace H := Option.bind_eq_some_iff.mp H
      obtain ⟨t104, A70, H⟩ := H
      replace H : (if t104 = true then (if x3_1 > 0 then (if 0 ≤ (wrap64 (x3_1 - 1)) then (if (wrap64 (x3_1 - 1)) < (l0.length : Int) then (if ((rd_T36 l0 x3_1).f0) ≤ ((rd_T36 l0 (wrap64 (x3_1 - 1))).f0) then (syllabaryref21_areas.j1 k1 l0 x3_1 true ((rd_T36 l0 x3_1).f0) ((rd_T36 l0 x3_1).f1) ((rd_T36 l0 x3_1).f2) ((rd_T36 l0 x3_1).f3) ((rd_T36 l0 x3_1).f4)) else ((syllabaryref21_Inside.f ((rd_T36 l0 x3_1).f1) ((rd_T36 l0 x3_1).f2)).bind fun t106 => (if t106 = true then ((syllabaryref21_Inside.f ((rd_T36 l0 x3_1).f3) ((rd_T36 l0 x3_1).f4)).bind fun t107 => (if t107 = true then (if ((rd_T36 l0 x3_1).f1) > ((rd_T36 l0 x3_1).f3) then (syllabaryref21_areas.j1 k1 l0 x3_1 true ((rd_T36 l0 x3_1).f0) ((rd_T36 l0 x3_1).f1) ((rd_T36 l0 x3_1).f2) ((rd_T36 l0 x3_1).f3) ((rd_T36 l0 x3_1).f4)) else (syllabaryref21_areas.j1 k1 l0 x3_1 (decide (((rd_T36 l0 x3_1).f2) > ((rd_T36 l0 x3_1).f4))) ((rd_T36 l0 x3_1).f0) ((rd_T36 l0 x3_1).f1) ((rd_T36 l0 x3_1).f2) ((rd_T36 l0 x3_1).f3) ((rd_T36 l0 x3_1).f4))) else (syllabaryref21_areas.j1 k1 l0 x3_1 true ((rd_T36 l0 x3_1).f0) ((rd_T36 l0 x3_1).f1) ((rd_T36 l0 x3_1).f2) ((rd_T36 l0 x3_1).f3) ((rd_T36 l0 x3_1).f4)))) else (syllabaryref21_areas.j1 k1 l0 x3_1 true ((rd_T36 l0 x3_1).f0) ((rd_T36 l0 x3_1).f1) ((rd_T36 l0 x3_1).f2) ((rd_T36 l0 x3_1).f3) ((rd_T36 l0 x3_1).f4))))) else (none)) else (none)) else ((syllabaryref21_Inside.f ((rd_T36 l0 x3_1).f1) ((rd_T36 l0 x3_1).f2)).bind fun t108 => (if t108 = true then ((syllabaryref21_Inside.f ((rd_T36 l0 x3_1).f3) ((rd_T36 l0 x3_1).f4)).bind fun t109 => (if t109 = true then (if ((rd_T36 l0 x3_1).f1) > ((rd_T36 l0 x3_1).f3) then (syllabaryref21_areas.j1 k1 l0 x3_1 true ((rd_T36 l0 x3_1).f0) ((rd_T36 l0 x3_1).f1) ((rd_T36 l0 x3_1).f2) ((rd_T36 l0 x3_1).f3) ((rd_T36 l0 x3_1).f4)) else (syllabaryref21_areas.j1 k1 l0 x3_1 (decide (((rd_T36 l0 x3_1).f2) > ((rd_T36 l0 x3_1).f4))) ((rd_T36 l0 x3_1).f0) ((rd_T36 l0 x3_1).f1) ((rd_T36 l0 x3_1).f2) ((rd_T36 l0 x3_1).f3) ((rd_T36 l0 x3_1).f4))) else (syllabaryref21_areas.j1 k1 l0 x3_1 true ((rd_T36 l0 x3_1).f0) ((rd_T36 l0 x3_1).f1) ((rd_T36 l0 x3_1).f2) ((rd_T36 l0 x3_1).f3) ((rd_T36 l0 x3_1).f4)))) else (syllabaryref21_areas.j1 k1 l0 x3_1 true ((rd_T36 l0 x3_1).f0) ((rd_T36 l0 x3_1).f1) ((rd_T36 l0 x3_1).f2) ((rd_T36 l0 x3_1).f3) ((rd_T36 l0 x3_1).f4))))) else (syllabaryref21_areas.j1 k1 l0 x3_1 true ((rd_T36 l0 x3_1).f0) ((rd_T36 l0 x3_1).f1) ((rd_T36 l0 x3_1).f2) ((rd_T36 l0 x3_1).f3) ((rd_T36 l0 x3_1).f4))) = some r := H
      have A7 := Aside0.mk A70
      clear A70
      by_cases c8 : t104 = true
      ·
       subst c8
       have H1 : (if x3_1 > 0 then (if 0 ≤ (wrap64 (x3_1 - 1)) then (if (wrap64 (x3_1 - 1)) < (l0.length : Int) then (if ((rd_T36 l0 x3_1).f0) ≤ ((rd_T36 l0 (wrap64 (x3_1 - 1))).f0) then (syllabaryref21_areas.j1 k1 l0 x3_1 true ((rd_T36 l0 x3_1).f0) ((rd_T36 l0 x3_1).f1) ((rd_T36 l0 x3_1).f2) ((rd_T36 l0 x3_1).f3) ((rd_T36 l0 x3_1).f4)) else ((syllabaryref21_Inside.f ((rd_T36 l0 x3_1).f1) ((rd_T36 l0 x3_1).f2)).bind fun t106 => (if t106 = true then ((syllabaryref21_Inside.f ((rd_T36 l0 x3_1).f3) ((rd_T36 l0 x3_1).f4)).bind fun t107 => (if t107 = true then (if ((rd_T36 l0 x3_1).f1) > ((rd_T36 l0 x3_1).f3) then (syllabaryref21_areas.j1 k1 l0 x3_1 true ((rd_T36 l0 x3_1).f0) ((rd_T36 l0 x3_1).f1) ((rd_T36 l0 x3_1).f2) ((rd_T36 l0 x3_1).f3) ((rd_T36 l0 x3_1).f4)) else (syllabaryref21_areas.j1 k1 l0 x3_1 (decide (((rd_T36 l0 x3_1).f2) > ((rd_T36 l0 x3_1).f4))) ((rd_T36 l0 x3_1).f0) ((rd_T36 l0 x3_1).f1) ((rd_T36 l0 x3_1).f2) ((rd_T36 l0 x3_1).f3) ((rd_T36 l0 x3_1).f4))) else (syllabaryref21_areas.j1 k1 l0 x3_1 true ((rd_T36 l0 x3_1).f0) ((rd_T36 l0 x3_1).f1) ((rd_T36 l0 x3_1).f2) ((rd_T36 l0 x3_1).f3) ((rd_T36 l0 x3_1).f4)))) else (syllabaryref21_areas.j1 k1 l0 x3_1 true ((rd_T36 l0 x3_1).f0) ((rd_T36 l0 x3_1).f1) ((rd_T36 l0 x3_1).f2) ((rd_T36 l0 x3_1).f3) ((rd_T36 l0 x3_1).f4))))) else (none)) else (none)) else ((syllabaryref21_Inside.f ((rd_T36 l0 x3_1).f1) ((rd_T36 l0 x3_1).f2)).bind fun t108 => (if t108 = true then ((syllabaryref21_Inside.f ((rd_T36 l0 x3_1).f3) ((rd_T36 l0 x3_1).f4)).bind fun t109 => (if t109 = true then (if ((rd_T36 l0 x3_1).f1) > ((rd_T36 l0 x3_1).f3) then (syllabaryref21_areas.j1 k1 l0 x3_1 true ((rd_T36 l0 x3_1).f0) ((rd_T36 l0 x3_1).f1) ((rd_T36 l0 x3_1).f2) ((rd_T36 l0 x3_1).f3) ((rd_T36 l0 x3_1).f4)) else (syllabaryref21_areas.j1 k1 l0 x3_1 (decide (((rd_T36 l0 x3_1).f2) > ((rd_T36 l0 x3_1).f4))) ((rd_T36 l0 x3_1).f0) ((rd_T36 l0 x3_1).f1) ((rd_T36 l0 x3_1).f2) ((rd_T36 l0 x3_1).f3) ((rd_T36 l0 x3_1).f4))) else (syllabaryref21_areas.j1 k1 l0 x3_1 true ((rd_T36 l0 x3_1).f0) ((rd_T36 l0 x3_1).f1) ((rd_T36 l0 x3_1).f2) ((rd_T36 l0 x3_1).f3) ((rd_T36 l0 x3_1).f4)))) else (syllabaryref21_areas.j1 k1 l0 x3_1 true ((rd_T36 l0 x3_1).f0) ((rd_T36 l0 x3_1).f1) ((rd_T36 l0 x3_1).f2) ((rd_T36 l0 x3_1).f3) ((rd_T36 l0 x3_1).f4))))) = some r := by rw [if_pos rfl] at H; exact H
       clear H
       have H := H1
       clear H1
       by_cases c9 : x3_1 > 0
       ·
        rw [if_pos c9] at H
        have c9b0 : decide (0 < x3_1) = true := decide_eq_true c9
        clear c9
        (first | rw [c9b0] | (simp only [i64_w, i32_w]; rw [c9b0]) | skip)
        obtain ⟨ji10, hji10⟩ : ∃ j_ : Int, (wrap64 (x3_1 - 1)) = j_ := ⟨_, rfl⟩
        replace H : (if 0 ≤ (ji10) then (if (ji10) < (l0.length : Int) then (if ((rd_T36 l0 x3_1).f0) ≤ ((rd_T36 l0 (ji10)).f0) then (syllabaryref21_areas.j1 k1 l0 x3_1 true ((rd_T36 l0 x3_1).f0) ((rd_T36 l0 x3_1).f1) ((rd_T36 l0 x3_1).f2) ((rd_T36 l0 x3_1).f3) ((rd_T36 l0 x3_1).f4)) else ((syllabaryref21_Inside.f ((rd_T36 l0 x3_1).f1) ((rd_T36 l0 x3_1).f2)).bind fun t106 => (if t106 = true then ((syllabaryref21_Inside.f ((rd_T36 l0 x3_1).f3) ((rd_T36 l0 x3_1).f4)).bind fun t107 => (if t107 = true then (if ((rd_T36 l0 x3_1).f1) > ((rd_T36 l0 x3_1).f3) then (syllabaryref21_areas.j1 k1 l0 x3_1 true ((rd_T36 l0 x3_1).f0) ((rd_T36 l0 x3_1).f1) ((rd_T36 l0 x3_1).f2) ((rd_T36 l0 x3_1).f3) ((rd_T36 l0 x3_1).f4)) else (syllabaryref21_areas.j1 k1 l0 x3_1 (decide (((rd_T36 l0 x3_1).f2) > ((rd_T36 l0 x3_1).f4))) ((rd_T36 l0 x3_1).f0) ((rd_T36 l0 x3_1).f1) ((rd_T36 l0 x3_1).f2) ((rd_T36 l0 x3_1).f3) ((rd_T36 l0 x3_1).f4))) else (syllabaryref21_areas.j1 k1 l0 x3_1 true ((rd_T36 l0 x3_1).f0) ((rd_T36 l0 x3_1).f1) ((rd_T36 l0 x3_1).f2) ((rd_T36 l0 x3_1).f3) ((rd_T36 l0 x3_1).f4)))) else (syllabaryref21_areas.j1 k1 l0 x3_1 true ((rd_T36 l0 x3_1).f0) ((rd_T36 l0 x3_1).f1) ((rd_T36 l0 x3_1).f2) ((rd_T36 l0 x3_1).f3) ((rd_T36 l0 x3_1).f4))))) else (none)) else (none)) = some r := by first | (rw [hji10] at H; exact H) | (simp only [hji10] at H ⊢; exact H)
        (try rw [hji10] at A7)
        have hji10w : (IntKind.i64.wrap (x3_1 - 1)) = ji10 := (i64_w _).trans hji10
        by_cases c11 : 0 ≤ (ji10)
        ·
         rw [if_pos c11] at H
         have c11b0 : decide (0 ≤ (ji10)) = true := decide_eq_true c11
         clear c11
         by_cases c12 : (ji10) < (l0.length : Int)
         ·
          rw [if_pos c12] at H
          have c12b0 : decide ((ji10) < (l0.length : Int)) = true := decide_eq_true c12
          clear c12
          by_cases c13 : ((rd_T36 l0 x3_1).f0) ≤ ((rd_T36 l0 (ji10)).f0)
          ·
           rw [if_pos c13] at H
           have c13b0 : decide (((rd_T36 l0 x3_1).f0) ≤ ((rd_T36 l0 (ji10)).f0)) = true := decide_eq_true c13
           clear c13
           have H' := Aside0.mk H
           clear H
           try go_wp2
           have n0_ : Aside0 ((((((w5.setCell ⟨gb103, 0, none⟩ (.int .u8 ((rd_T36 l0 x3_1).f0))).setCell ⟨gb103, 1, none⟩ (.int .i64 ((rd_T36 l0 x3_1).f1))).setCell ⟨gb103, 2, none⟩ (.int .i64 ((rd_T36 l0 x3_1).f2))).setCell ⟨gb103, 3, none⟩ (.int .i64 ((rd_T36 l0 x3_1).f3))).setCell ⟨gb103, 4, none⟩ (.int .i64 ((rd_T36 l0 x3_1).f4))).heap[gb103]? = some (.cells #[.int .u8 ((rd_T36 l0 x3_1).f0), .int .i64 ((rd_T36 l0 x3_1).f1), .int .i64 ((rd_T36 l0 x3_1).f2), .int .i64 ((rd_T36 l0 x3_1).f3), .int .i64 ((rd_T36 l0 x3_1).f4)] 36 (0, 0))) := ⟨by (with_reducible repeat (first | refine blk_drewN ?_ _ | refine blk_drew ?_ | refine blk_alloc ?_ _)); refine blk_put (cs := #[.int .u8 ((rd_T36 l0 x3_1).f0), .int .i64 ((rd_T36 l0 x3_1).f1), .int .i64 ((rd_T36 l0 x3_1).f2), .int .i64 ((rd_T36 l0 x3_1).f3), .int .i64 0]) ?_ 4 _ rfl; (with_reducible repeat (first | refine blk_drewN ?_ _ | refine blk_drew ?_ | refine blk_alloc ?_ _)); refine blk_put (cs := #[.int .u8 ((rd_T36 l0 x3_1).f0), .int .i64 ((rd_T36 l0 x3_1).f1), .int .i64 ((rd_T36 l0 x3_1).f2), .int .i64 0, .int .i64 0]) ?_ 3 _ rfl; (with_reducible repeat (first | refine blk_drewN ?_ _ | refine blk_drew ?_ | refine blk_alloc ?_ _)); refine blk_put (cs := #[.int .u8 ((rd_T36 l0 x3_1).f0), .int .i64 ((rd_T36 l0 x3_1).f1), .int .i64 0, .int .i64 0, .int .i64 0]) ?_ 2 _ rfl; (with_reducible repeat (first | refine blk_drewN ?_ _ | refine blk_drew ?_ | refine blk_alloc ?_ _)); refine blk_put (cs := #[.int .u8 ((rd_T36 l0 x3_1).f0), .int .i64 0, .int .i64 0, .int .i64 0, .int .i64 0]) ?_ 1 _ rfl; (with_reducible repeat (first | refine blk_drewN ?_ _ | refine blk_drew ?_ | refine blk_alloc ?_ _)); refine blk_put (cs := #[.int .u8 0, .int .i64 0, .int .i64 0, .int .i64 0, .int .i64 0]) ?_ 0 _ rfl; (with_reducible repeat (first | refine blk_drewN ?_ _ | refine blk_drew ?_ | refine blk_alloc ?_ _)); exact BK103.out⟩
           have n1_ : Aside0 (Below w.heap.size w (((((w5.setCell ⟨gb103, 0, none⟩ (.int .u8 ((rd_T36 l0 x3_1).f0))).setCell ⟨gb103, 1, none⟩ (.int .i64 ((rd_T36 l0 x3_1).f1))).setCell ⟨gb103, 2, none⟩ (.int .i64 ((rd_T36 l0 x3_1).f2))).setCell ⟨gb103, 3, none⟩ (.int .i64 ((rd_T36 l0 x3_1).f3))).setCell ⟨gb103, 4, none⟩ (.int .i64 ((rd_T36 l0 x3_1).f4)))) := ⟨by repeat (first | (with_reducible first | exact HB.out | apply below_alloc | apply pw_below_drewN | apply below_drew1 | refine below_set ?_ GE103.out) | exact HB.out)⟩
           (try clear BK103)
           (try clear HB)
           generalize (((((w5.setCell ⟨gb103, 0, none⟩ (.int .u8 ((rd_T36 l0 x3_1).f0))).setCell ⟨gb103, 1, none⟩ (.int .i64 ((rd_T36 l0 x3_1).f1))).setCell ⟨gb103, 2, none⟩ (.int .i64 ((rd_T36 l0 x3_1).f2))).setCell ⟨gb103, 3, none⟩ (.int .i64 ((rd_T36 l0 x3_1).f3))).setCell ⟨gb103, 4, none⟩ (.int .i64 ((rd_T36 l0 x3_1).f4))) = w14 at n0_ n1_ ⊢
           have BK103 := n0_
           have HB := n1_
           clear n0_ n1_
           have n0_ := Aside0.mk (blk_drew BK103.out)
           have n1_ := Aside0.mk (below_drew1 HB.out)
           clear BK103; clear HB
           have BK103 := n0_
           have HB := n1_
           clear n0_ n1_
           have p105 : 0 ≤ ((ji10) : Int) := of_decide_eq_true (by assumption)
           have q105 : (ji10) < (l0.length : Int) := of_decide_eq_true (by assumption)
           obtain ⟨ad105, e105, hx105_0, hx105_1, hx105_2, hx105_3, hx105_4⟩ := at_T36 HR0.out (ji10) p105 q105
           have hw105_4 := hx105_4
           have hw105_3 := hx105_3
           have hw105_2 := hx105_2
           have hw105_1 := hx105_1
           have hw105_0 := hx105_0
           obtain rfl : ad102 = ad105 := (by injection e105)
           replace hx105_0 := (HB.out.cell (World.block_lt_of_cell? w _ hx105_0)).trans hx105_0
           replace hx105_1 := (HB.out.cell (World.block_lt_of_cell? w _ hx105_1)).trans hx105_1
           replace hx105_2 := (HB.out.cell (World.block_lt_of_cell? w _ hx105_2)).trans hx105_2
           replace hx105_3 := (HB.out.cell (World.block_lt_of_cell? w _ hx105_3)).trans hx105_3
           replace hx105_4 := (HB.out.cell (World.block_lt_of_cell? w _ hx105_4)).trans hx105_4
           replace p105 := eq_true p105
           replace q105 := eq_true q105
           refine start_ (n := 51) (S := fun w' => w'.cell? ⟨gb103, 0, none⟩ = some (.int .u8 ((rd_T36 l0 x3_1).f0)) ∧ w'.cell? ⟨gb103, 1, none⟩ = some (.int .i64 ((rd_T36 l0 x3_1).f1)) ∧ w'.cell? ⟨gb103, 2, none⟩ = some (.int .i64 ((rd_T36 l0 x3_1).f2)) ∧ w'.cell? ⟨gb103, 3, none⟩ = some (.int .i64 ((rd_T36 l0 x3_1).f3)) ∧ w'.cell? ⟨gb103, 4, none⟩ = some (.int .i64 ((rd_T36 l0 x3_1).f4)) ∧ w'.cell? (ad102.add (((ji10)).toNat * 5)) = some (.int .u8 ((rd_T36 l0 (ji10)).f0)) ∧ w'.cell? ⟨(ad102.add (((ji10)).toNat * 5)).block, (ad102.add (((ji10)).toNat * 5)).off + 1, none⟩ = some (.int .i64 ((rd_T36 l0 (ji10)).f1)) ∧ w'.cell? ⟨(ad102.add (((ji10)).toNat * 5)).block, (ad102.add (((ji10)).toNat * 5)).off + 2, none⟩ = some (.int .i64 ((rd_T36 l0 (ji10)).f2)) ∧ w'.cell? ⟨(ad102.add (((ji10)).toNat * 5)).block, (ad102.add (((ji10)).toNat * 5)).off + 3, none⟩ = some (.int .i64 ((rd_T36 l0 (ji10)).f3)) ∧ w'.cell? ⟨(ad102.add (((ji10)).toNat * 5)).block, (ad102.add (((ji10)).toNat * 5)).off + 4, none⟩ = some (.int .i64 ((rd_T36 l0 (ji10)).f4))) (ds := []) (bl [0, 51]) (by kernel_rfl) rfl rfl ⟨(blk_cell BK103.out 0).trans rfl, (blk_cell BK103.out 1).trans rfl, (blk_cell BK103.out 2).trans rfl, (blk_cell BK103.out 3).trans rfl, (blk_cell BK103.out 4).trans rfl, ((HB.out.cell (World.block_lt_of_cell? w _ hw105_0)).trans hw105_0), ((HB.out.cell (World.block_lt_of_cell? w _ hw105_1)).trans hw105_1), ((HB.out.cell (World.block_lt_of_cell? w _ hw105_2)).trans hw105_2), ((HB.out.cell (World.block_lt_of_cell? w _ hw105_3)).trans hw105_3), ((HB.out.cell (World.block_lt_of_cell? w _ hw105_4)).trans hw105_4)⟩ (fun hHeld => ?_); refine with_tabW syllabaryref21_areas.tab5 syllabaryref21_areas.bits5 (fun HT_ HW_ => ?_)
           generalize w14.drew = w15 at BK103 HB hx105_0 hx105_1 hx105_2 hx105_3 hx105_4 hHeld ⊢
           refine qA 0 (some 16) (bl [1, 50]) HT_ ?_
           refine qT 1 (some 17) (bl [2, 49]) HT_ HW_ hHeld ?_
           refine one_ (i := 2) (N := some 18) (bl [3, 48]) rfl rfl (one_of HT_.out (by kernel_rfl)) (by decide) (fun K hK => ?_)
           refine goes_ Try.func86 (by kernel_rfl) rfl #[.int .u8 ((rd_T36 l0 x3_1).f0)] (by rfl) rfl rfl (by (try simp only [List.map_toArray, List.map_cons, List.map_nil]); first | done | rfl | (simp only [List.length_drop, List.length_take]; rfl)) ?_
           with_reducible refine (syllabaryref21_Letter.calls ((rd_T36 l0 x3_1).f0) true _ A7.out).mono ?_
           rintro e w' ⟨rfl, ⟨nd, rfl⟩⟩
           refine ⟨_, rfl, ?_⟩
           refine hK.out _ _ ⟨(blk_cell BK103.out 0).trans rfl, (blk_cell BK103.out 1).trans rfl, (blk_cell BK103.out 2).trans rfl, (blk_cell BK103.out 3).trans rfl, (blk_cell BK103.out 4).trans rfl, ((HB.out.cell (World.block_lt_of_cell? w _ hw105_0)).trans hw105_0), ((HB.out.cell (World.block_lt_of_cell? w _ hw105_1)).trans hw105_1), ((HB.out.cell (World.block_lt_of_cell? w _ hw105_2)).trans hw105_2), ((HB.out.cell (World.block_lt_of_cell? w _ hw105_3)).trans hw105_3), ((HB.out.cell (World.block_lt_of_cell? w _ hw105_4)).trans hw105_4)⟩ (fun hHeld => ?_)
           clear hK K
           refine norm_ (a' := ?_) ?_ ?_
           rotate_left; · (show Act.put _ (some 18) _ = _; simp only [Act.put, q1, q2, q3, i64_w, i32_w]; rfl)
           refine qA 3 (some 19) (bl [4, 47]) HT_ ?_
           refine qA 4 (some 20) (bl [5, 46]) HT_ ?_
           refine qA 5 (some 21) (bl [6, 45]) HT_ ?_
           refine qA 6 (some 22) (bl [7, 44]) HT_ ?_
           refine qA 7 (some 23) (bl [8, 43]) HT_ ?_
           refine qA 8 (some 24) (bl [9, 42]) HT_ ?_
           refine qA 10 (some 26) (bl [9, 1, 1, 40]) HT_ ?_
           refine qA 11 (some 27) (bl [9, 1, 2, 39]) HT_ ?_
           refine qA 12 (some 28) (bl [9, 1, 3, 38]) HT_ ?_
           refine qA 13 (some 29) (bl [9, 1, 4, 37]) HT_ ?_
           refine qA 14 (some 30) (bl [9, 1, 5, 36]) HT_ ?_
           refine qT 9 (some 25) (bl [15, 36]) HT_ HW_ hHeld ?_
           refine qT 15 (some 31) (bl [16, 35]) HT_ HW_ hHeld ?_
           refine qA 16 (some 32) (bl [17, 34]) HT_ ?_
           refine qA 17 (some 33) (bl [18, 33]) HT_ ?_
           refine qA 18 (some 34) (bl [19, 32]) HT_ ?_
           refine qA 19 (some 35) (bl [20, 31]) HT_ ?_
           refine qO 20 (some 36) (bl [21, 30]) HT_ ?_
           refine qO 21 (some 37) (bl [22, 29]) HT_ ?_
           refine qO 22 (some 38) (bl [23, 28]) HT_ ?_
           refine qO 23 (some 39) (bl [24, 27]) HT_ ?_
           refine qO 24 (some 40) (bl [25, 26]) HT_ ?_
           refine qO 25 (some 41) (bl [26, 25]) HT_ ?_
           refine qO 26 (some 42) (bl [27, 24]) HT_ ?_
           refine qA 27 (some 43) (bl [28, 23]) HT_ ?_
           refine qA 28 (some 44) (bl [29, 22]) HT_ ?_
           refine qO 29 (some 45) (bl [30, 21]) HT_ ?_
           refine qO 30 (some 46) (bl [31, 20]) HT_ ?_
           refine qO 31 (some 47) (bl [32, 19]) HT_ ?_
           refine qO 32 (some 48) (bl [33, 18]) HT_ ?_
           refine qO 33 (some 49) (bl [34, 17]) HT_ ?_
           refine qO 34 (some 50) (bl [35, 16]) HT_ ?_
           refine qO 35 (some 51) (bl [36, 15]) HT_ ?_
           refine qA 36 (some 52) (bl [37, 14]) HT_ ?_
           refine qA 37 (some 53) (bl [38, 13]) HT_ ?_
           refine qO 38 (some 54) (bl [39, 12]) HT_ ?_
           refine qO 39 (some 55) (bl [40, 11]) HT_ ?_
           refine qO 40 (some 56) (bl [41, 10]) HT_ ?_
           refine qO 41 (some 57) (bl [42, 9]) HT_ ?_
           refine qO 42 (some 58) (bl [43, 8]) HT_ ?_
           refine qA 43 (some 59) (bl [44, 7]) HT_ ?_
           refine qA 44 (some 60) (bl [45, 6]) HT_ ?_
           refine qO 45 (some 61) (bl [46, 5]) HT_ ?_
           refine qO 46 (some 62) (bl [47, 4]) HT_ ?_
           refine qO 47 (some 63) (bl [48, 3]) HT_ ?_
           refine qO 48 (some 64) (bl [49, 2]) HT_ ?_
           refine qO 49 (some 65) (bl [50, 1]) HT_ ?_
           refine qA 50 (some 66) (bl [51]) HT_ ?_
           refine done_ (done_of HT_.out (by kernel_rfl)) ?_
           try go_wp2
           go_meet
           case rel => exact ⟨_, (true), (by first | rfl | (simp; done) | (simp [*]; done)), H', ⟨by have := HK1.out; first | omega | exact Nat.le_refl _⟩, ⟨by (with_reducible repeat (first | refine blk_drewN ?_ _ | refine blk_drew ?_ | refine blk_alloc ?_ _)); exact BK103.out⟩, ⟨by repeat (first | (with_reducible first | exact HB.out | apply below_alloc | apply pw_below_drewN | apply below_drew1 | refine below_set ?_ GE103.out) | exact HB.out)⟩⟩
          ·
           rw [if_neg c13] at H
           have c13b0 : decide (((rd_T36 l0 x3_1).f0) ≤ ((rd_T36 l0 (ji10)).f0)) = false := decide_eq_false c13
           clear c13
           replace H := Option.bind_eq_some_iff.mp H
           obtain ⟨t106, A160, H⟩ := H
           replace H : (if t106 = true then ((syllabaryref21_Inside.f ((rd_T36 l0 x3_1).f3) ((rd_T36 l0 x3_1).f4)).bind fun t107 => (if t107 = true then (if ((rd_T36 l0 x3_1).f1) > ((rd_T36 l0 x3_1).f3) then (syllabaryref21_areas.j1 k1 l0 x3_1 true ((rd_T36 l0 x3_1).f0) ((rd_T36 l0 x3_1).f1) ((rd_T36 l0 x3_1).f2) ((rd_T36 l0 x3_1).f3) ((rd_T36 l0 x3_1).f4)) else (syllabaryref21_areas.j1 k1 l0 x3_1 (decide (((rd_T36 l0 x3_1).f2) > ((rd_T36 l0 x3_1).f4))) ((rd_T36 l0 x3_1).f0) ((rd_T36 l0 x3_1).f1) ((rd_T36 l0 x3_1).f2) ((rd_T36 l0 x3_1).f3) ((rd_T36 l0 x3_1).f4))) else (syllabaryref21_areas.j1 k1 l0 x3_1 true ((rd_T36 l0 x3_1).f0) ((rd_T36 l0 x3_1).f1) ((rd_T36 l0 x3_1).f2) ((rd_T36 l0 x3_1).f3) ((rd_T36 l0 x3_1).f4)))) else (syllabaryref21_areas.j1 k1 l0 x3_1 true ((rd_T36 l0 x3_1).f0) ((rd_T36 l0 x3_1).f1) ((rd_T36 l0 x3_1).f2) ((rd_T36 l0 x3_1).f3) ((rd_T36 l0 x3_1).f4))) = some r := H
           have A16 := Aside0.mk A160
           clear A160
           by_cases c17 : t106 = true
           ·
            subst c17
            have H1 : ((syllabaryref21_Inside.f ((rd_T36 l0 x3_1).f3) ((rd_T36 l0 x3_1).f4)).bind fun t107 => (if t107 = true then (if ((rd_T36 l0 x3_1).f1) > ((rd_T36 l0 x3_1).f3) then (syllabaryref21_areas.j1 k1 l0 x3_1 true ((rd_T36 l0 x3_1).f0) ((rd_T36 l0 x3_1).f1) ((rd_T36 l0 x3_1).f2) ((rd_T36 l0 x3_1).f3) ((rd_T36 l0 x3_1).f4)) else (syllabaryref21_areas.j1 k1 l0 x3_1 (decide (((rd_T36 l0 x3_1).f2) > ((rd_T36 l0 x3_1).f4))) ((rd_T36 l0 x3_1).f0) ((rd_T36 l0 x3_1).f1) ((rd_T36 l0 x3_1).f2) ((rd_T36 l0 x3_1).f3) ((rd_T36 l0 x3_1).f4))) else (syllabaryref21_areas.j1 k1 l0 x3_1 true ((rd_T36 l0 x3_1).f0) ((rd_T36 l0 x3_1).f1) ((rd_T36 l0 x3_1).f2) ((rd_T36 l0 x3_1).f3) ((rd_T36 l0 x3_1).f4)))) = some r := by rw [if_pos rfl] at H; exact H
            clear H
            have H := H1
            clear H1
            replace H := Option.bind_eq_some_iff.mp H
            obtain ⟨t107, A180, H⟩ := H
            replace H : (if t107 = true then (if ((rd_T36 l0 x3_1).f1) > ((rd_T36 l0 x3_1).f3) then (syllabaryref21_areas.j1 k1 l0 x3_1 true ((rd_T36 l0 x3_1).f0) ((rd_T36 l0 x3_1).f1) ((rd_T36 l0 x3_1).f2) ((rd_T36 l0 x3_1).f3) ((rd_T36 l0 x3_1).f4)) else (syllabaryref21_areas.j1 k1 l0 x3_1 (decide (((rd_T36 l0 x3_1).f2) > ((rd_T36 l0 x3_1).f4))) ((rd_T36 l0 x3_1).f0) ((rd_T36 l0 x3_1).f1) ((rd_T36 l0 x3_1).f2) ((rd_T36 l0 x3_1).f3) ((rd_T36 l0 x3_1).f4))) else (syllabaryref21_areas.j1 k1 l0 x3_1 true ((rd_T36 l0 x3_1).f0) ((rd_T36 l0 x3_1).f1) ((rd_T36 l0 x3_1).f2) ((rd_T36 l0 x3_1).f3) ((rd_T36 l0 x3_1).f4))) = some r := H
            have A18 := Aside0.mk A180
            clear A180
            by_cases c19 : t107 = true
            ·
             subst c19
             have H1 : (if ((rd_T36 l0 x3_1).f1) > ((rd_T36 l0 x3_1).f3) then (syllabaryref21_areas.j1 k1 l0 x3_1 true ((rd_T36 l0 x3_1).f0) ((rd_T36 l0 x3_1).f1) ((rd_T36 l0 x3_1).f2) ((rd_T36 l0 x3_1).f3) ((rd_T36 l0 x3_1).f4)) else (syllabaryref21_areas.j1 k1 l0 x3_1 (decide (((rd_T36 l0 x3_1).f2) > ((rd_T36 l0 x3_1).f4))) ((rd_T36 l0 x3_1).f0) ((rd_T36 l0 x3_1).f1) ((rd_T36 l0 x3_1).f2) ((rd_T36 l0 x3_1).f3) ((rd_T36 l0 x3_1).f4))) = some r := by rw [if_pos rfl] at H; exact H
             clear H
             have H := H1
             clear H1
             by_cases c20 : ((rd_T36 l0 x3_1).f1) > ((rd_T36 l0 x3_1).f3)
             ·
              rw [if_pos c20] at H
              have c20b0 : decide (((rd_T36 l0 x3_1).f3) < ((rd_T36 l0 x3_1).f1)) = true := decide_eq_true c20
              clear c20
              have H' := Aside0.mk H
              clear H
              try go_wp2
              have n0_ : Aside0 ((((((w5.setCell ⟨gb103, 0, none⟩ (.int .u8 ((rd_T36 l0 x3_1).f0))).setCell ⟨gb103, 1, none⟩ (.int .i64 ((rd_T36 l0 x3_1).f1))).setCell ⟨gb103, 2, none⟩ (.int .i64 ((rd_T36 l0 x3_1).f2))).setCell ⟨gb103, 3, none⟩ (.int .i64 ((rd_T36 l0 x3_1).f3))).setCell ⟨gb103, 4, none⟩ (.int .i64 ((rd_T36 l0 x3_1).f4))).heap[gb103]? = some (.cells #[.int .u8 ((rd_T36 l0 x3_1).f0), .int .i64 ((rd_T36 l0 x3_1).f1), .int .i64 ((rd_T36 l0 x3_1).f2), .int .i64 ((rd_T36 l0 x3_1).f3), .int .i64 ((rd_T36 l0 x3_1).f4)] 36 (0, 0))) := ⟨by (with_reducible repeat (first | refine blk_drewN ?_ _ | refine blk_drew ?_ | refine blk_alloc ?_ _)); refine blk_put (cs := #[.int .u8 ((rd_T36 l0 x3_1).f0), .int .i64 ((rd_T36 l0 x3_1).f1), .int .i64 ((rd_T36 l0 x3_1).f2), .int .i64 ((rd_T36 l0 x3_1).f3), .int .i64 0]) ?_ 4 _ rfl; (with_reducible repeat (first | refine blk_drewN ?_ _ | refine blk_drew ?_ | refine blk_alloc ?_ _)); refine blk_put (cs := #[.int .u8 ((rd_T36 l0 x3_1).f0), .int .i64 ((rd_T36 l0 x3_1).f1), .int .i64 ((rd_T36 l0 x3_1).f2), .int .i64 0, .int .i64 0]) ?_ 3 _ rfl; (with_reducible repeat (first | refine blk_drewN ?_ _ | refine blk_drew ?_ | refine blk_alloc ?_ _)); refine blk_put (cs := #[.int .u8 ((rd_T36 l0 x3_1).f0), .int .i64 ((rd_T36 l0 x3_1).f1), .int .i64 0, .int .i64 0, .int .i64 0]) ?_ 2 _ rfl; (with_reducible repeat (first | refine blk_drewN ?_ _ | refine blk_drew ?_ | refine blk_alloc ?_ _)); refine blk_put (cs := #[.int .u8 ((rd_T36 l0 x3_1).f0), .int .i64 0, .int .i64 0, .int .i64 0, .int .i64 0]) ?_ 1 _ rfl; (with_reducible repeat (first | refine blk_drewN ?_ _ | refine blk_drew ?_ | refine blk_alloc ?_ _)); refine blk_put (cs := #[.int .u8 0, .int .i64 0, .int .i64 0, .int .i64 0, .int .i64 0]) ?_ 0 _ rfl; (with_reducible repeat (first | refine blk_drewN ?_ _ | refine blk_drew ?_ | refine blk_alloc ?_ _)); exact BK103.out⟩
              have n1_ : Aside0 (Below w.heap.size w (((((w5.setCell ⟨gb103, 0, none⟩ (.int .u8 ((rd_T36 l0 x3_1).f0))).setCell ⟨gb103, 1, none⟩ (.int .i64 ((rd_T36 l0 x3_1).f1))).setCell ⟨gb103, 2, none⟩ (.int .i64 ((rd_T36 l0 x3_1).f2))).setCell ⟨gb103, 3, none⟩ (.int .i64 ((rd_T36 l0 x3_1).f3))).setCell ⟨gb103, 4, none⟩ (.int .i64 ((rd_T36 l0 x3_1).f4)))) := ⟨by repeat (first | (with_reducible first | exact HB.out | apply below_alloc | apply pw_below_drewN | apply below_drew1 | refine below_set ?_ GE103.out) | exact HB.out)⟩
              (try clear BK103)
              (try clear HB)
              generalize (((((w5.setCell ⟨gb103, 0, none⟩ (.int .u8 ((rd_T36 l0 x3_1).f0))).setCell ⟨gb103, 1, none⟩ (.int .i64 ((rd_T36 l0 x3_1).f1))).setCell ⟨gb103, 2, none⟩ (.int .i64 ((rd_T36 l0 x3_1).f2))).setCell ⟨gb103, 3, none⟩ (.int .i64 ((rd_T36 l0 x3_1).f3))).setCell ⟨gb103, 4, none⟩ (.int .i64 ((rd_T36 l0 x3_1).f4))) = w21 at n0_ n1_ ⊢
              have BK103 := n0_
              have HB := n1_
              clear n0_ n1_
              have n0_ := Aside0.mk (blk_drew BK103.out)
              have n1_ := Aside0.mk (below_drew1 HB.out)
              clear BK103; clear HB
              have BK103 := n0_
              have HB := n1_
              clear n0_ n1_
              have p105 : 0 ≤ ((ji10) : Int) := of_decide_eq_true (by assumption)
              have q105 : (ji10) < (l0.length : Int) := of_decide_eq_true (by assumption)
              obtain ⟨ad105, e105, hx105_0, hx105_1, hx105_2, hx105_3, hx105_4⟩ := at_T36 HR0.out (ji10) p105 q105
              have hw105_4 := hx105_4
              have hw105_3 := hx105_3
              have hw105_2 := hx105_2
              have hw105_1 := hx105_1
              have hw105_0 := hx105_0
              obtain rfl : ad102 = ad105 := (by injection e105)
              replace hx105_0 := (HB.out.cell (World.block_lt_of_cell? w _ hx105_0)).trans hx105_0
              replace hx105_1 := (HB.out.cell (World.block_lt_of_cell? w _ hx105_1)).trans hx105_1
              replace hx105_2 := (HB.out.cell (World.block_lt_of_cell? w _ hx105_2)).trans hx105_2
              replace hx105_3 := (HB.out.cell (World.block_lt_of_cell? w _ hx105_3)).trans hx105_3
              replace hx105_4 := (HB.out.cell (World.block_lt_of_cell? w _ hx105_4)).trans hx105_4
              replace p105 := eq_true p105
              replace q105 := eq_true q105
              refine start_ (n := 51) (S := fun w' => w'.cell? ⟨gb103, 0, none⟩ = some (.int .u8 ((rd_T36 l0 x3_1).f0)) ∧ w'.cell? ⟨gb103, 1, none⟩ = some (.int .i64 ((rd_T36 l0 x3_1).f1)) ∧ w'.cell? ⟨gb103, 2, none⟩ = some (.int .i64 ((rd_T36 l0 x3_1).f2)) ∧ w'.cell? ⟨gb103, 3, none⟩ = some (.int .i64 ((rd_T36 l0 x3_1).f3)) ∧ w'.cell? ⟨gb103, 4, none⟩ = some (.int .i64 ((rd_T36 l0 x3_1).f4)) ∧ w'.cell? (ad102.add (((ji10)).toNat * 5)) = some (.int .u8 ((rd_T36 l0 (ji10)).f0)) ∧ w'.cell? ⟨(ad102.add (((ji10)).toNat * 5)).block, (ad102.add (((ji10)).toNat * 5)).off + 1, none⟩ = some (.int .i64 ((rd_T36 l0 (ji10)).f1)) ∧ w'.cell? ⟨(ad102.add (((ji10)).toNat * 5)).block, (ad102.add (((ji10)).toNat * 5)).off + 2, none⟩ = some (.int .i64 ((rd_T36 l0 (ji10)).f2)) ∧ w'.cell? ⟨(ad102.add (((ji10)).toNat * 5)).block, (ad102.add (((ji10)).toNat * 5)).off + 3, none⟩ = some (.int .i64 ((rd_T36 l0 (ji10)).f3)) ∧ w'.cell? ⟨(ad102.add (((ji10)).toNat * 5)).block, (ad102.add (((ji10)).toNat * 5)).off + 4, none⟩ = some (.int .i64 ((rd_T36 l0 (ji10)).f4))) (ds := []) (bl [0, 51]) (by kernel_rfl) rfl rfl ⟨(blk_cell BK103.out 0).trans rfl, (blk_cell BK103.out 1).trans rfl, (blk_cell BK103.out 2).trans rfl, (blk_cell BK103.out 3).trans rfl, (blk_cell BK103.out 4).trans rfl, ((HB.out.cell (World.block_lt_of_cell? w _ hw105_0)).trans hw105_0), ((HB.out.cell (World.block_lt_of_cell? w _ hw105_1)).trans hw105_1), ((HB.out.cell (World.block_lt_of_cell? w _ hw105_2)).trans hw105_2), ((HB.out.cell (World.block_lt_of_cell? w _ hw105_3)).trans hw105_3), ((HB.out.cell (World.block_lt_of_cell? w _ hw105_4)).trans hw105_4)⟩ (fun hHeld => ?_); refine with_tabW syllabaryref21_areas.tab5 syllabaryref21_areas.bits5 (fun HT_ HW_ => ?_)
              generalize w21.drew = w22 at BK103 HB hx105_0 hx105_1 hx105_2 hx105_3 hx105_4 hHeld ⊢
              refine qA 0 (some 16) (bl [1, 50]) HT_ ?_
              refine qT 1 (some 17) (bl [2, 49]) HT_ HW_ hHeld ?_
              refine one_ (i := 2) (N := some 18) (bl [3, 48]) rfl rfl (one_of HT_.out (by kernel_rfl)) (by decide) (fun K hK => ?_)
              refine goes_ Try.func86 (by kernel_rfl) rfl #[.int .u8 ((rd_T36 l0 x3_1).f0)] (by rfl) rfl rfl (by (try simp only [List.map_toArray, List.map_cons, List.map_nil]); first | done | rfl | (simp only [List.length_drop, List.length_take]; rfl)) ?_
              with_reducible refine (syllabaryref21_Letter.calls ((rd_T36 l0 x3_1).f0) true _ A7.out).mono ?_
              rintro e w' ⟨rfl, ⟨nd, rfl⟩⟩
              refine ⟨_, rfl, ?_⟩
              refine hK.out _ _ ⟨(blk_cell BK103.out 0).trans rfl, (blk_cell BK103.out 1).trans rfl, (blk_cell BK103.out 2).trans rfl, (blk_cell BK103.out 3).trans rfl, (blk_cell BK103.out 4).trans rfl, ((HB.out.cell (World.block_lt_of_cell? w _ hw105_0)).trans hw105_0), ((HB.out.cell (World.block_lt_of_cell? w _ hw105_1)).trans hw105_1), ((HB.out.cell (World.block_lt_of_cell? w _ hw105_2)).trans hw105_2), ((HB.out.cell (World.block_lt_of_cell? w _ hw105_3)).trans hw105_3), ((HB.out.cell (World.block_lt_of_cell? w _ hw105_4)).trans hw105_4)⟩ (fun hHeld => ?_)
              clear hK K
              refine norm_ (a' := ?_) ?_ ?_
              rotate_left; · (show Act.put _ (some 18) _ = _; simp only [Act.put, q1, q2, q3, i64_w, i32_w]; rfl)
              refine qA 3 (some 19) (bl [4, 47]) HT_ ?_
              refine qA 4 (some 20) (bl [5, 46]) HT_ ?_
              refine qA 5 (some 21) (bl [6, 45]) HT_ ?_
              refine qA 6 (some 22) (bl [7, 44]) HT_ ?_
              refine qA 7 (some 23) (bl [8, 43]) HT_ ?_
              refine qA 8 (some 24) (bl [9, 42]) HT_ ?_
              refine qA 10 (some 26) (bl [9, 1, 1, 40]) HT_ ?_
              refine qA 11 (some 27) (bl [9, 1, 2, 39]) HT_ ?_
              refine qA 12 (some 28) (bl [9, 1, 3, 38]) HT_ ?_
              refine qA 13 (some 29) (bl [9, 1, 4, 37]) HT_ ?_
              refine qA 14 (some 30) (bl [9, 1, 5, 36]) HT_ ?_
              refine qT 9 (some 25) (bl [15, 36]) HT_ HW_ hHeld ?_
              refine qT 15 (some 31) (bl [16, 35]) HT_ HW_ hHeld ?_
              refine qA 16 (some 32) (bl [17, 34]) HT_ ?_
              refine qA 17 (some 33) (bl [18, 33]) HT_ ?_
              refine qA 18 (some 34) (bl [19, 32]) HT_ ?_
              refine qA 19 (some 35) (bl [20, 31]) HT_ ?_
              refine qA 20 (some 36) (bl [21, 30]) HT_ ?_
              refine qA 22 (some 38) (bl [21, 1, 1, 28]) HT_ ?_
              refine qT 21 (some 37) (bl [23, 28]) HT_ HW_ hHeld ?_
              refine qT 23 (some 39) (bl [24, 27]) HT_ HW_ hHeld ?_
              refine qA 24 (some 40) (bl [25, 26]) HT_ ?_
              refine one_ (i := 25) (N := some 41) (bl [26, 25]) rfl rfl (one_of HT_.out (by kernel_rfl)) (by decide) (fun K hK => ?_)
              refine goes_ Try.func114 (by kernel_rfl) rfl #[.agg #[.int .i64 ((rd_T36 l0 x3_1).f1), .int .i64 ((rd_T36 l0 x3_1).f2)]] (by rfl) rfl rfl (by (try simp only [List.map_toArray, List.map_cons, List.map_nil]); first | done | rfl | (simp only [List.length_drop, List.length_take]; rfl)) ?_
              with_reducible refine (syllabaryref21_Inside.calls ((rd_T36 l0 x3_1).f1) ((rd_T36 l0 x3_1).f2) true _ A16.out).mono ?_
              rintro e w23 ⟨rfl, hb⟩
              refine ⟨_, rfl, ?_⟩
              have n0_ := Aside0.mk (blk_below (g := gb103) (o := .cells #[.int .u8 ((rd_T36 l0 x3_1).f0), .int .i64 ((rd_T36 l0 x3_1).f1), .int .i64 ((rd_T36 l0 x3_1).f2), .int .i64 ((rd_T36 l0 x3_1).f3), .int .i64 ((rd_T36 l0 x3_1).f4)] 36 (0, 0)) (by (with_reducible repeat (first | refine blk_drewN ?_ _ | refine blk_drew ?_ | refine blk_alloc ?_ _)); exact BK103.out) hb)
              have n1_ := Aside0.mk (below_step (by repeat (first | (with_reducible first | exact HB.out | apply below_alloc | apply pw_below_drewN | apply below_drew1 | refine below_set ?_ GE103.out) | exact HB.out)) hb)
              clear BK103; clear HB
              have BK103 := n0_
              have HB := n1_
              clear n0_ n1_
              (try clear hb)
              (try clear hb2)
              (try clear hk)
              (try clear hi)
              refine hK.out _ _ ⟨(blk_cell BK103.out 0).trans rfl, (blk_cell BK103.out 1).trans rfl, (blk_cell BK103.out 2).trans rfl, (blk_cell BK103.out 3).trans rfl, (blk_cell BK103.out 4).trans rfl, ((HB.out.cell (World.block_lt_of_cell? w _ hw105_0)).trans hw105_0), ((HB.out.cell (World.block_lt_of_cell? w _ hw105_1)).trans hw105_1), ((HB.out.cell (World.block_lt_of_cell? w _ hw105_2)).trans hw105_2), ((HB.out.cell (World.block_lt_of_cell? w _ hw105_3)).trans hw105_3), ((HB.out.cell (World.block_lt_of_cell? w _ hw105_4)).trans hw105_4)⟩ (fun hHeld => ?_)
              clear hK K
              refine norm_ (a' := ?_) ?_ ?_
              rotate_left; · (show Act.put _ (some 41) _ = _; simp only [Act.put, q1, q2, q3, i64_w, i32_w]; rfl)
              refine qA 26 (some 42) (bl [27, 24]) HT_ ?_
              refine qA 27 (some 43) (bl [28, 23]) HT_ ?_
              refine qA 28 (some 44) (bl [29, 22]) HT_ ?_
              refine qA 29 (some 45) (bl [30, 21]) HT_ ?_
              refine qA 31 (some 47) (bl [30, 1, 1, 19]) HT_ ?_
              refine qT 30 (some 46) (bl [32, 19]) HT_ HW_ hHeld ?_
              refine qT 32 (some 48) (bl [33, 18]) HT_ HW_ hHeld ?_
              refine qA 33 (some 49) (bl [34, 17]) HT_ ?_
              refine one_ (i := 34) (N := some 50) (bl [35, 16]) rfl rfl (one_of HT_.out (by kernel_rfl)) (by decide) (fun K hK => ?_)
              refine goes_ Try.func114 (by kernel_rfl) rfl #[.agg #[.int .i64 ((rd_T36 l0 x3_1).f3), .int .i64 ((rd_T36 l0 x3_1).f4)]] (by rfl) rfl rfl (by (try simp only [List.map_toArray, List.map_cons, List.map_nil]); first | done | rfl | (simp only [List.length_drop, List.length_take]; rfl)) ?_
              with_reducible refine (syllabaryref21_Inside.calls ((rd_T36 l0 x3_1).f3) ((rd_T36 l0 x3_1).f4) true _ A18.out).mono ?_
              rintro e w24 ⟨rfl, hb⟩
              refine ⟨_, rfl, ?_⟩
              have n0_ := Aside0.mk (blk_below (g := gb103) (o := .cells #[.int .u8 ((rd_T36 l0 x3_1).f0), .int .i64 ((rd_T36 l0 x3_1).f1), .int .i64 ((rd_T36 l0 x3_1).f2), .int .i64 ((rd_T36 l0 x3_1).f3), .int .i64 ((rd_T36 l0 x3_1).f4)] 36 (0, 0)) (by (with_reducible repeat (first | refine blk_drewN ?_ _ | refine blk_drew ?_ | refine blk_alloc ?_ _)); exact BK103.out) hb)
              have n1_ := Aside0.mk (below_step (by repeat (first | (with_reducible first | exact HB.out | apply below_alloc | apply pw_below_drewN | apply below_drew1 | refine below_set ?_ GE103.out) | exact HB.out)) hb)
              clear BK103; clear HB
              have BK103 := n0_
              have HB := n1_
              clear n0_ n1_
              (try clear hb)
              (try clear hb2)
              (try clear hk)
              (try clear hi)
              refine hK.out _ _ ⟨(blk_cell BK103.out 0).trans rfl, (blk_cell BK103.out 1).trans rfl, (blk_cell BK103.out 2).trans rfl, (blk_cell BK103.out 3).trans rfl, (blk_cell BK103.out 4).trans rfl, ((HB.out.cell (World.block_lt_of_cell? w _ hw105_0)).trans hw105_0), ((HB.out.cell (World.block_lt_of_cell? w _ hw105_1)).trans hw105_1), ((HB.out.cell (World.block_lt_of_cell? w _ hw105_2)).trans hw105_2), ((HB.out.cell (World.block_lt_of_cell? w _ hw105_3)).trans hw105_3), ((HB.out.cell (World.block_lt_of_cell? w _ hw105_4)).trans hw105_4)⟩ (fun hHeld => ?_)
              clear hK K
              refine norm_ (a' := ?_) ?_ ?_
              rotate_left; · (show Act.put _ (some 50) _ = _; simp only [Act.put, q1, q2, q3, i64_w, i32_w]; rfl)
              refine qA 35 (some 51) (bl [36, 15]) HT_ ?_
              refine qA 36 (some 52) (bl [37, 14]) HT_ ?_
              refine qA 37 (some 53) (bl [38, 13]) HT_ ?_
              refine qA 38 (some 54) (bl [39, 12]) HT_ ?_
              refine qA 40 (some 56) (bl [39, 1, 1, 10]) HT_ ?_
              refine qT 39 (some 55) (bl [41, 10]) HT_ HW_ hHeld ?_
              refine qT 41 (some 57) (bl [42, 9]) HT_ HW_ hHeld ?_
              refine qA 42 (some 58) (bl [43, 8]) HT_ ?_
              refine qA 43 (some 59) (bl [44, 7]) HT_ ?_
              refine qA 44 (some 60) (bl [45, 6]) HT_ ?_
              refine qO 45 (some 61) (bl [46, 5]) HT_ ?_
              refine qO 46 (some 62) (bl [47, 4]) HT_ ?_
              refine qO 47 (some 63) (bl [48, 3]) HT_ ?_
              refine qO 48 (some 64) (bl [49, 2]) HT_ ?_
              refine qO 49 (some 65) (bl [50, 1]) HT_ ?_
              refine qA 50 (some 66) (bl [51]) HT_ ?_
              refine done_ (done_of HT_.out (by kernel_rfl)) ?_
              try go_wp2
              go_meet
              case rel => exact ⟨_, (true), (by first | rfl | (simp; done) | (simp [*]; done)), H', ⟨by have := HK1.out; first | omega | exact Nat.le_refl _⟩, ⟨by (with_reducible repeat (first | refine blk_drewN ?_ _ | refine blk_drew ?_ | refine blk_alloc ?_ _)); exact BK103.out⟩, ⟨by repeat (first | (with_reducible first | exact HB.out | apply below_alloc | apply pw_below_drewN | apply below_drew1 | refine below_set ?_ GE103.out) | exact HB.out)⟩⟩
             ·
              rw [if_neg c20] at H
              have c20b0 : decide (((rd_T36 l0 x3_1).f3) < ((rd_T36 l0 x3_1).f1)) = false := decide_eq_false c20
              clear c20
              have H' := Aside0.mk H
              clear H
              try go_wp2
              have n0_ : Aside0 ((((((w5.setCell ⟨gb103, 0, none⟩ (.int .u8 ((rd_T36 l0 x3_1).f0))).setCell ⟨gb103, 1, none⟩ (.int .i64 ((rd_T36 l0 x3_1).f1))).setCell ⟨gb103, 2, none⟩ (.int .i64 ((rd_T36 l0 x3_1).f2))).setCell ⟨gb103, 3, none⟩ (.int .i64 ((rd_T36 l0 x3_1).f3))).setCell ⟨gb103, 4, none⟩ (.int .i64 ((rd_T36 l0 x3_1).f4))).heap[gb103]? = some (.cells #[.int .u8 ((rd_T36 l0 x3_1).f0), .int .i64 ((rd_T36 l0 x3_1).f1), .int .i64 ((rd_T36 l0 x3_1).f2), .int .i64 ((rd_T36 l0 x3_1).f3), .int .i64 ((rd_T36 l0 x3_1).f4)] 36 (0, 0))) := ⟨by (with_reducible repeat (first | refine blk_drewN ?_ _ | refine blk_drew ?_ | refine blk_alloc ?_ _)); refine blk_put (cs := #[.int .u8 ((rd_T36 l0 x3_1).f0), .int .i64 ((rd_T36 l0 x3_1).f1), .int .i64 ((rd_T36 l0 x3_1).f2), .int .i64 ((rd_T36 l0 x3_1).f3), .int .i64 0]) ?_ 4 _ rfl; (with_reducible repeat (first | refine blk_drewN ?_ _ | refine blk_drew ?_ | refine blk_alloc ?_ _)); refine blk_put (cs := #[.int .u8 ((rd_T36 l0 x3_1).f0), .int .i64 ((rd_T36 l0 x3_1).f1), .int .i64 ((rd_T36 l0 x3_1).f2), .int .i64 0, .int .i64 0]) ?_ 3 _ rfl; (with_reducible repeat (first | refine blk_drewN ?_ _ | refine blk_drew ?_ | refine blk_alloc ?_ _)); refine blk_put (cs := #[.int .u8 ((rd_T36 l0 x3_1).f0), .int .i64 ((rd_T36 l0 x3_1).f1), .int .i64 0, .int .i64 0, .int .i64 0]) ?_ 2 _ rfl; (with_reducible repeat (first | refine blk_drewN ?_ _ | refine blk_drew ?_ | refine blk_alloc ?_ _)); refine blk_put (cs := #[.int .u8 ((rd_T36 l0 x3_1).f0), .int .i64 0, .int .i64 0, .int .i64 0, .int .i64 0]) ?_ 1 _ rfl; (with_reducible repeat (first | refine blk_drewN ?_ _ | refine blk_drew ?_ | refine blk_alloc ?_ _)); refine blk_put (cs := #[.int .u8 0, .int .i64 0, .int .i64 0, .int .i64 0, .int .i64 0]) ?_ 0 _ rfl; (with_reducible repeat (first | refine blk_drewN ?_ _ | refine blk_drew ?_ | refine blk_alloc ?_ _)); exact BK103.out⟩
              have n1_ : Aside0 (Below w.heap.size w (((((w5.setCell ⟨gb103, 0, none⟩ (.int .u8 ((rd_T36 l0 x3_1).f0))).setCell ⟨gb103, 1, none⟩ (.int .i64 ((rd_T36 l0 x3_1).f1))).setCell ⟨gb103, 2, none⟩ (.int .i64 ((rd_T36 l0 x3_1).f2))).setCell ⟨gb103, 3, none⟩ (.int .i64 ((rd_T36 l0 x3_1).f3))).setCell ⟨gb103, 4, none⟩ (.int .i64 ((rd_T36 l0 x3_1).f4)))) := ⟨by repeat (first | (with_reducible first | exact HB.out | apply below_alloc | apply pw_below_drewN | apply below_drew1 | refine below_set ?_ GE103.out) | exact HB.out)⟩
              (try clear BK103)
              (try clear HB)
              generalize (((((w5.setCell ⟨gb103, 0, none⟩ (.int .u8 ((rd_T36 l0 x3_1).f0))).setCell ⟨gb103, 1, none⟩ (.int .i64 ((rd_T36 l0 x3_1).f1))).setCell ⟨gb103, 2, none⟩ (.int .i64 ((rd_T36 l0 x3_1).f2))).setCell ⟨gb103, 3, none⟩ (.int .i64 ((rd_T36 l0 x3_1).f3))).setCell ⟨gb103, 4, none⟩ (.int .i64 ((rd_T36 l0 x3_1).f4))) = w25 at n0_ n1_ ⊢
              have BK103 := n0_
              have HB := n1_
              clear n0_ n1_
              have n0_ := Aside0.mk (blk_drew BK103.out)
              have n1_ := Aside0.mk (below_drew1 HB.out)
              clear BK103; clear HB
              have BK103 := n0_
              have HB := n1_
              clear n0_ n1_
              have p105 : 0 ≤ ((ji10) : Int) := of_decide_eq_true (by assumption)
              have q105 : (ji10) < (l0.length : Int) := of_decide_eq_true (by assumption)
              obtain ⟨ad105, e105, hx105_0, hx105_1, hx105_2, hx105_3, hx105_4⟩ := at_T36 HR0.out (ji10) p105 q105
              have hw105_4 := hx105_4
              have hw105_3 := hx105_3
              have hw105_2 := hx105_2
              have hw105_1 := hx105_1
              have hw105_0 := hx105_0
              obtain rfl : ad102 = ad105 := (by injection e105)
              replace hx105_0 := (HB.out.cell (World.block_lt_of_cell? w _ hx105_0)).trans hx105_0
              replace hx105_1 := (HB.out.cell (World.block_lt_of_cell? w _ hx105_1)).trans hx105_1
              replace hx105_2 := (HB.out.cell (World.block_lt_of_cell? w _ hx105_2)).trans hx105_2
              replace hx105_3 := (HB.out.cell (World.block_lt_of_cell? w _ hx105_3)).trans hx105_3
              replace hx105_4 := (HB.out.cell (World.block_lt_of_cell? w _ hx105_4)).trans hx105_4
              replace p105 := eq_true p105
              replace q105 := eq_true q105
              refine start_ (n := 51) (S := fun w' => w'.cell? ⟨gb103, 0, none⟩ = some (.int .u8 ((rd_T36 l0 x3_1).f0)) ∧ w'.cell? ⟨gb103, 1, none⟩ = some (.int .i64 ((rd_T36 l0 x3_1).f1)) ∧ w'.cell? ⟨gb103, 2, none⟩ = some (.int .i64 ((rd_T36 l0 x3_1).f2)) ∧ w'.cell? ⟨gb103, 3, none⟩ = some (.int .i64 ((rd_T36 l0 x3_1).f3)) ∧ w'.cell? ⟨gb103, 4, none⟩ = some (.int .i64 ((rd_T36 l0 x3_1).f4)) ∧ w'.cell? (ad102.add (((ji10)).toNat * 5)) = some (.int .u8 ((rd_T36 l0 (ji10)).f0)) ∧ w'.cell? ⟨(ad102.add (((ji10)).toNat * 5)).block, (ad102.add (((ji10)).toNat * 5)).off + 1, none⟩ = some (.int .i64 ((rd_T36 l0 (ji10)).f1)) ∧ w'.cell? ⟨(ad102.add (((ji10)).toNat * 5)).block, (ad102.add (((ji10)).toNat * 5)).off + 2, none⟩ = some (.int .i64 ((rd_T36 l0 (ji10)).f2)) ∧ w'.cell? ⟨(ad102.add (((ji10)).toNat * 5)).block, (ad102.add (((ji10)).toNat * 5)).off + 3, none⟩ = some (.int .i64 ((rd_T36 l0 (ji10)).f3)) ∧ w'.cell? ⟨(ad102.add (((ji10)).toNat * 5)).block, (ad102.add (((ji10)).toNat * 5)).off + 4, none⟩ = some (.int .i64 ((rd_T36 l0 (ji10)).f4))) (ds := []) (bl [0, 51]) (by kernel_rfl) rfl rfl ⟨(blk_cell BK103.out 0).trans rfl, (blk_cell BK103.out 1).trans rfl, (blk_cell BK103.out 2).trans rfl, (blk_cell BK103.out 3).trans rfl, (blk_cell BK103.out 4).trans rfl, ((HB.out.cell (World.block_lt_of_cell? w _ hw105_0)).trans hw105_0), ((HB.out.cell (World.block_lt_of_cell? w _ hw105_1)).trans hw105_1), ((HB.out.cell (World.block_lt_of_cell? w _ hw105_2)).trans hw105_2), ((HB.out.cell (World.block_lt_of_cell? w _ hw105_3)).trans hw105_3), ((HB.out.cell (World.block_lt_of_cell? w _ hw105_4)).trans hw105_4)⟩ (fun hHeld => ?_); refine with_tabW syllabaryref21_areas.tab5 syllabaryref21_areas.bits5 (fun HT_ HW_ => ?_)
              generalize w25.drew = w26 at BK103 HB hx105_0 hx105_1 hx105_2 hx105_3 hx105_4 hHeld ⊢
              refine qA 0 (some 16) (bl [1, 50]) HT_ ?_
              refine qT 1 (some 17) (bl [2, 49]) HT_ HW_ hHeld ?_
              refine one_ (i := 2) (N := some 18) (bl [3, 48]) rfl rfl (one_of HT_.out (by kernel_rfl)) (by decide) (fun K hK => ?_)
              refine goes_ Try.func86 (by kernel_rfl) rfl #[.int .u8 ((rd_T36 l0 x3_1).f0)] (by rfl) rfl rfl (by (try simp only [List.map_toArray, List.map_cons, List.map_nil]); first | done | rfl | (simp only [List.length_drop, List.length_take]; rfl)) ?_
              with_reducible refine (syllabaryref21_Letter.calls ((rd_T36 l0 x3_1).f0) true _ A7.out).mono ?_
              rintro e w' ⟨rfl, ⟨nd, rfl⟩⟩
              refine ⟨_, rfl, ?_⟩
              refine hK.out _ _ ⟨(blk_cell BK103.out 0).trans rfl, (blk_cell BK103.out 1).trans rfl, (blk_cell BK103.out 2).trans rfl, (blk_cell BK103.out 3).trans rfl, (blk_cell BK103.out 4).trans rfl, ((HB.out.cell (World.block_lt_of_cell? w _ hw105_0)).trans hw105_0), ((HB.out.cell (World.block_lt_of_cell? w _ hw105_1)).trans hw105_1), ((HB.out.cell (World.block_lt_of_cell? w _ hw105_2)).trans hw105_2), ((HB.out.cell (World.block_lt_of_cell? w _ hw105_3)).trans hw105_3), ((HB.out.cell (World.block_lt_of_cell? w _ hw105_4)).trans hw105_4)⟩ (fun hHeld => ?_)
              clear hK K
              refine norm_ (a' := ?_) ?_ ?_
              rotate_left; · (show Act.put _ (some 18) _ = _; simp only [Act.put, q1, q2, q3, i64_w, i32_w]; rfl)
              refine qA 3 (some 19) (bl [4, 47]) HT_ ?_
              refine qA 4 (some 20) (bl [5, 46]) HT_ ?_
              refine qA 5 (some 21) (bl [6, 45]) HT_ ?_
              refine qA 6 (some 22) (bl [7, 44]) HT_ ?_
              refine qA 7 (some 23) (bl [8, 43]) HT_ ?_
              refine qA 8 (some 24) (bl [9, 42]) HT_ ?_
              refine qA 10 (some 26) (bl [9, 1, 1, 40]) HT_ ?_
              refine qA 11 (some 27) (bl [9, 1, 2, 39]) HT_ ?_
              refine qA 12 (some 28) (bl [9, 1, 3, 38]) HT_ ?_
              refine qA 13 (some 29) (bl [9, 1, 4, 37]) HT_ ?_
              refine qA 14 (some 30) (bl [9, 1, 5, 36]) HT_ ?_
              refine qT 9 (some 25) (bl [15, 36]) HT_ HW_ hHeld ?_
              refine qT 15 (some 31) (bl [16, 35]) HT_ HW_ hHeld ?_
              refine qA 16 (some 32) (bl [17, 34]) HT_ ?_
              refine qA 17 (some 33) (bl [18, 33]) HT_ ?_
              refine qA 18 (some 34) (bl [19, 32]) HT_ ?_
              refine qA 19 (some 35) (bl [20, 31]) HT_ ?_
              refine qA 20 (some 36) (bl [21, 30]) HT_ ?_
              refine qA 22 (some 38) (bl [21, 1, 1, 28]) HT_ ?_
              refine qT 21 (some 37) (bl [23, 28]) HT_ HW_ hHeld ?_
              refine qT 23 (some 39) (bl [24, 27]) HT_ HW_ hHeld ?_
              refine qA 24 (some 40) (bl [25, 26]) HT_ ?_
              refine one_ (i := 25) (N := some 41) (bl [26, 25]) rfl rfl (one_of HT_.out (by kernel_rfl)) (by decide) (fun K hK => ?_)
              refine goes_ Try.func114 (by kernel_rfl) rfl #[.agg #[.int .i64 ((rd_T36 l0 x3_1).f1), .int .i64 ((rd_T36 l0 x3_1).f2)]] (by rfl) rfl rfl (by (try simp only [List.map_toArray, List.map_cons, List.map_nil]); first | done | rfl | (simp only [List.length_drop, List.length_take]; rfl)) ?_
              with_reducible refine (syllabaryref21_Inside.calls ((rd_T36 l0 x3_1).f1) ((rd_T36 l0 x3_1).f2) true _ A16.out).mono ?_
              rintro e w27 ⟨rfl, hb⟩
              refine ⟨_, rfl, ?_⟩
              have n0_ := Aside0.mk (blk_below (g := gb103) (o := .cells #[.int .u8 ((rd_T36 l0 x3_1).f0), .int .i64 ((rd_T36 l0 x3_1).f1), .int .i64 ((rd_T36 l0 x3_1).f2), .int .i64 ((rd_T36 l0 x3_1).f3), .int .i64 ((rd_T36 l0 x3_1).f4)] 36 (0, 0)) (by (with_reducible repeat (first | refine blk_drewN ?_ _ | refine blk_drew ?_ | refine blk_alloc ?_ _)); exact BK103.out) hb)
              have n1_ := Aside0.mk (below_step (by repeat (first | (with_reducible first | exact HB.out | apply below_alloc | apply pw_below_drewN | apply below_drew1 | refine below_set ?_ GE103.out) | exact HB.out)) hb)
              clear BK103; clear HB
              have BK103 := n0_
              have HB := n1_
              clear n0_ n1_
              (try clear hb)
              (try clear hb2)
              (try clear hk)
              (try clear hi)
              refine hK.out _ _ ⟨(blk_cell BK103.out 0).trans rfl, (blk_cell BK103.out 1).trans rfl, (blk_cell BK103.out 2).trans rfl, (blk_cell BK103.out 3).trans rfl, (blk_cell BK103.out 4).trans rfl, ((HB.out.cell (World.block_lt_of_cell? w _ hw105_0)).trans hw105_0), ((HB.out.cell (World.block_lt_of_cell? w _ hw105_1)).trans hw105_1), ((HB.out.cell (World.block_lt_of_cell? w _ hw105_2)).trans hw105_2), ((HB.out.cell (World.block_lt_of_cell? w _ hw105_3)).trans hw105_3), ((HB.out.cell (World.block_lt_of_cell? w _ hw105_4)).trans hw105_4)⟩ (fun hHeld => ?_)
              clear hK K
              refine norm_ (a' := ?_) ?_ ?_
              rotate_left; · (show Act.put _ (some 41) _ = _; simp only [Act.put, q1, q2, q3, i64_w, i32_w]; rfl)
              refine qA 26 (some 42) (bl [27, 24]) HT_ ?_
              refine qA 27 (some 43) (bl [28, 23]) HT_ ?_
              refine qA 28 (some 44) (bl [29, 22]) HT_ ?_
              refine qA 29 (some 45) (bl [30, 21]) HT_ ?_
              refine qA 31 (some 47) (bl [30, 1, 1, 19]) HT_ ?_
              refine qT 30 (some 46) (bl [32, 19]) HT_ HW_ hHeld ?_
              refine qT 32 (some 48) (bl [33, 18]) HT_ HW_ hHeld ?_
              refine qA 33 (some 49) (bl [34, 17]) HT_ ?_
              refine one_ (i := 34) (N := some 50) (bl [35, 16]) rfl rfl (one_of HT_.out (by kernel_rfl)) (by decide) (fun K hK => ?_)
              refine goes_ Try.func114 (by kernel_rfl) rfl #[.agg #[.int .i64 ((rd_T36 l0 x3_1).f3), .int .i64 ((rd_T36 l0 x3_1).f4)]] (by rfl) rfl rfl (by (try simp only [List.map_toArray, List.map_cons, List.map_nil]); first | done | rfl | (simp only [List.length_drop, List.length_take]; rfl)) ?_
              with_reducible refine (syllabaryref21_Inside.calls ((rd_T36 l0 x3_1).f3) ((rd_T36 l0 x3_1).f4) true _ A18.out).mono ?_
              rintro e w28 ⟨rfl, hb⟩
              refine ⟨_, rfl, ?_⟩
              have n0_ := Aside0.mk (blk_below (g := gb103) (o := .cells #[.int .u8 ((rd_T36 l0 x3_1).f0), .int .i64 ((rd_T36 l0 x3_1).f1), .int .i64 ((rd_T36 l0 x3_1).f2), .int .i64 ((rd_T36 l0 x3_1).f3), .int .i64 ((rd_T36 l0 x3_1).f4)] 36 (0, 0)) (by (with_reducible repeat (first | refine blk_drewN ?_ _ | refine blk_drew ?_ | refine blk_alloc ?_ _)); exact BK103.out) hb)
              have n1_ := Aside0.mk (below_step (by repeat (first | (with_reducible first | exact HB.out | apply below_alloc | apply pw_below_drewN | apply below_drew1 | refine below_set ?_ GE103.out) | exact HB.out)) hb)
              clear BK103; clear HB
              have BK103 := n0_
              have HB := n1_
              clear n0_ n1_
              (try clear hb)
              (try clear hb2)
              (try clear hk)
              (try clear hi)
              refine hK.out _ _ ⟨(blk_cell BK103.out 0).trans rfl, (blk_cell BK103.out 1).trans rfl, (blk_cell BK103.out 2).trans rfl, (blk_cell BK103.out 3).trans rfl, (blk_cell BK103.out 4).trans rfl, ((HB.out.cell (World.block_lt_of_cell? w _ hw105_0)).trans hw105_0), ((HB.out.cell (World.block_lt_of_cell? w _ hw105_1)).trans hw105_1), ((HB.out.cell (World.block_lt_of_cell? w _ hw105_2)).trans hw105_2), ((HB.out.cell (World.block_lt_of_cell? w _ hw105_3)).trans hw105_3), ((HB.out.cell (World.block_lt_of_cell? w _ hw105_4)).trans hw105_4)⟩ (fun hHeld => ?_)
              clear hK K
              refine norm_ (a' := ?_) ?_ ?_
              rotate_left; · (show Act.put _ (some 50) _ = _; simp only [Act.put, q1, q2, q3, i64_w, i32_w]; rfl)
              refine qA 35 (some 51) (bl [36, 15]) HT_ ?_
              refine qA 36 (some 52) (bl [37, 14]) HT_ ?_
              refine qA 37 (some 53) (bl [38, 13]) HT_ ?_
              refine qA 38 (some 54) (bl [39, 12]) HT_ ?_
              refine qA 40 (some 56) (bl [39, 1, 1, 10]) HT_ ?_
              refine qT 39 (some 55) (bl [41, 10]) HT_ HW_ hHeld ?_
              refine qT 41 (some 57) (bl [42, 9]) HT_ HW_ hHeld ?_
              refine qA 42 (some 58) (bl [43, 8]) HT_ ?_
              refine qA 43 (some 59) (bl [44, 7]) HT_ ?_
              refine qA 44 (some 60) (bl [45, 6]) HT_ ?_
              refine qA 45 (some 61) (bl [46, 5]) HT_ ?_
              refine qA 47 (some 63) (bl [46, 1, 1, 3]) HT_ ?_
              refine qT 46 (some 62) (bl [48, 3]) HT_ HW_ hHeld ?_
              refine qT 48 (some 64) (bl [49, 2]) HT_ HW_ hHeld ?_
              refine qA 49 (some 65) (bl [50, 1]) HT_ ?_
              refine qA 50 (some 66) (bl [51]) HT_ ?_
              refine done_ (done_of HT_.out (by kernel_rfl)) ?_
              try go_wp2
              go_meet
              case rel => exact ⟨_, (decide (((rd_T36 l0 x3_1).f2) > ((rd_T36 l0 x3_1).f4))), (by first | rfl | (simp; done) | (simp [*]; done)), H', ⟨by have := HK1.out; first | omega | exact Nat.le_refl _⟩, ⟨by (with_reducible repeat (first | refine blk_drewN ?_ _ | refine blk_drew ?_ | refine blk_alloc ?_ _)); exact BK103.out⟩, ⟨by repeat (first | (with_reducible first | exact HB.out | apply below_alloc | apply pw_below_drewN | apply below_drew1 | refine below_set ?_ GE103.out) | exact HB.out)⟩⟩
            ·
             replace c19 := Bool.eq_false_iff.mpr c19
             subst c19
             have H1 : (syllabaryref21_areas.j1 k1 l0 x3_1 true ((rd_T36 l0 x3_1).f0) ((rd_T36 l0 x3_1).f1) ((rd_T36 l0 x3_1).f2) ((rd_T36 l0 x3_1).f3) ((rd_T36 l0 x3_1).f4)) = some r := by rw [if_neg (show ¬ (false = true) by decide)] at H; exact H
             clear H
             have H := H1
             clear H1
             have H' := Aside0.mk H
             clear H
             try go_wp2
             have n0_ : Aside0 ((((((w5.setCell ⟨gb103, 0, none⟩ (.int .u8 ((rd_T36 l0 x3_1).f0))).setCell ⟨gb103, 1, none⟩ (.int .i64 ((rd_T36 l0 x3_1).f1))).setCell ⟨gb103, 2, none⟩ (.int .i64 ((rd_T36 l0 x3_1).f2))).setCell ⟨gb103, 3, none⟩ (.int .i64 ((rd_T36 l0 x3_1).f3))).setCell ⟨gb103, 4, none⟩ (.int .i64 ((rd_T36 l0 x3_1).f4))).heap[gb103]? = some (.cells #[.int .u8 ((rd_T36 l0 x3_1).f0), .int .i64 ((rd_T36 l0 x3_1).f1), .int .i64 ((rd_T36 l0 x3_1).f2), .int .i64 ((rd_T36 l0 x3_1).f3), .int .i64 ((rd_T36 l0 x3_1).f4)] 36 (0, 0))) := ⟨by (with_reducible repeat (first | refine blk_drewN ?_ _ | refine blk_drew ?_ | refine blk_alloc ?_ _)); refine blk_put (cs := #[.int .u8 ((rd_T36 l0 x3_1).f0), .int .i64 ((rd_T36 l0 x3_1).f1), .int .i64 ((rd_T36 l0 x3_1).f2), .int .i64 ((rd_T36 l0 x3_1).f3), .int .i64 0]) ?_ 4 _ rfl; (with_reducible repeat (first | refine blk_drewN ?_ _ | refine blk_drew ?_ | refine blk_alloc ?_ _)); refine blk_put (cs := #[.int .u8 ((rd_T36 l0 x3_1).f0), .int .i64 ((rd_T36 l0 x3_1).f1), .int .i64 ((rd_T36 l0 x3_1).f2), .int .i64 0, .int .i64 0]) ?_ 3 _ rfl; (with_reducible repeat (first | refine blk_drewN ?_ _ | refine blk_drew ?_ | refine blk_alloc ?_ _)); refine blk_put (cs := #[.int .u8 ((rd_T36 l0 x3_1).f0), .int .i64 ((rd_T36 l0 x3_1).f1), .int .i64 0, .int .i64 0, .int .i64 0]) ?_ 2 _ rfl; (with_reducible repeat (first | refine blk_drewN ?_ _ | refine blk_drew ?_ | refine blk_alloc ?_ _)); refine blk_put (cs := #[.int .u8 ((rd_T36 l0 x3_1).f0), .int .i64 0, .int .i64 0, .int .i64 0, .int .i64 0]) ?_ 1 _ rfl; (with_reducible repeat (first | refine blk_drewN ?_ _ | refine blk_drew ?_ | refine blk_alloc ?_ _)); refine blk_put (cs := #[.int .u8 0, .int .i64 0, .int .i64 0, .int .i64 0, .int .i64 0]) ?_ 0 _ rfl; (with_reducible repeat (first | refine blk_drewN ?_ _ | refine blk_drew ?_ | refine blk_alloc ?_ _)); exact BK103.out⟩
             have n1_ : Aside0 (Below w.heap.size w (((((w5.setCell ⟨gb103, 0, none⟩ (.int .u8 ((rd_T36 l0 x3_1).f0))).setCell ⟨gb103, 1, none⟩ (.int .i64 ((rd_T36 l0 x3_1).f1))).setCell ⟨gb103, 2, none⟩ (.int .i64 ((rd_T36 l0 x3_1).f2))).setCell ⟨gb103, 3, none⟩ (.int .i64 ((rd_T36 l0 x3_1).f3))).setCell ⟨gb103, 4, none⟩ (.int .i64 ((rd_T36 l0 x3_1).f4)))) := ⟨by repeat (first | (with_reducible first | exact HB.out | apply below_alloc | apply pw_below_drewN | apply below_drew1 | refine below_set ?_ GE103.out) | exact HB.out)⟩
             (try clear BK103)
             (try clear HB)
             generalize (((((w5.setCell ⟨gb103, 0, none⟩ (.int .u8 ((rd_T36 l0 x3_1).f0))).setCell ⟨gb103, 1, none⟩ (.int .i64 ((rd_T36 l0 x3_1).f1))).setCell ⟨gb103, 2, none⟩ (.int .i64 ((rd_T36 l0 x3_1).f2))).setCell ⟨gb103, 3, none⟩ (.int .i64 ((rd_T36 l0 x3_1).f3))).setCell ⟨gb103, 4, none⟩ (.int .i64 ((rd_T36 l0 x3_1).f4))) = w29 at n0_ n1_ ⊢
             have BK103 := n0_
             have HB := n1_
             clear n0_ n1_
             have n0_ := Aside0.mk (blk_drew BK103.out)
             have n1_ := Aside0.mk (below_drew1 HB.out)
             clear BK103; clear HB
             have BK103 := n0_
             have HB := n1_
             clear n0_ n1_
             have p105 : 0 ≤ ((ji10) : Int) := of_decide_eq_true (by assumption)
             have q105 : (ji10) < (l0.length : Int) := of_decide_eq_true (by assumption)
             obtain ⟨ad105, e105, hx105_0, hx105_1, hx105_2, hx105_3, hx105_4⟩ := at_T36 HR0.out (ji10) p105 q105
             have hw105_4 := hx105_4
             have hw105_3 := hx105_3
             have hw105_2 := hx105_2
             have hw105_1 := hx105_1
             have hw105_0 := hx105_0
             obtain rfl : ad102 = ad105 := (by injection e105)
             replace hx105_0 := (HB.out.cell (World.block_lt_of_cell? w _ hx105_0)).trans hx105_0
             replace hx105_1 := (HB.out.cell (World.block_lt_of_cell? w _ hx105_1)).trans hx105_1
             replace hx105_2 := (HB.out.cell (World.block_lt_of_cell? w _ hx105_2)).trans hx105_2
             replace hx105_3 := (HB.out.cell (World.block_lt_of_cell? w _ hx105_3)).trans hx105_3
             replace hx105_4 := (HB.out.cell (World.block_lt_of_cell? w _ hx105_4)).trans hx105_4
             replace p105 := eq_true p105
             replace q105 := eq_true q105
             refine start_ (n := 51) (S := fun w' => w'.cell? ⟨gb103, 0, none⟩ = some (.int .u8 ((rd_T36 l0 x3_1).f0)) ∧ w'.cell? ⟨gb103, 1, none⟩ = some (.int .i64 ((rd_T36 l0 x3_1).f1)) ∧ w'.cell? ⟨gb103, 2, none⟩ = some (.int .i64 ((rd_T36 l0 x3_1).f2)) ∧ w'.cell? ⟨gb103, 3, none⟩ = some (.int .i64 ((rd_T36 l0 x3_1).f3)) ∧ w'.cell? ⟨gb103, 4, none⟩ = some (.int .i64 ((rd_T36 l0 x3_1).f4)) ∧ w'.cell? (ad102.add (((ji10)).toNat * 5)) = some (.int .u8 ((rd_T36 l0 (ji10)).f0)) ∧ w'.cell? ⟨(ad102.add (((ji10)).toNat * 5)).block, (ad102.add (((ji10)).toNat * 5)).off + 1, none⟩ = some (.int .i64 ((rd_T36 l0 (ji10)).f1)) ∧ w'.cell? ⟨(ad102.add (((ji10)).toNat * 5)).block, (ad102.add (((ji10)).toNat * 5)).off + 2, none⟩ = some (.int .i64 ((rd_T36 l0 (ji10)).f2)) ∧ w'.cell? ⟨(ad102.add (((ji10)).toNat * 5)).block, (ad102.add (((ji10)).toNat * 5)).off + 3, none⟩ = some (.int .i64 ((rd_T36 l0 (ji10)).f3)) ∧ w'.cell? ⟨(ad102.add (((ji10)).toNat * 5)).block, (ad102.add (((ji10)).toNat * 5)).off + 4, none⟩ = some (.int .i64 ((rd_T36 l0 (ji10)).f4))) (ds := []) (bl [0, 51]) (by kernel_rfl) rfl rfl ⟨(blk_cell BK103.out 0).trans rfl, (blk_cell BK103.out 1).trans rfl, (blk_cell BK103.out 2).trans rfl, (blk_cell BK103.out 3).trans rfl, (blk_cell BK103.out 4).trans rfl, ((HB.out.cell (World.block_lt_of_cell? w _ hw105_0)).trans hw105_0), ((HB.out.cell (World.block_lt_of_cell? w _ hw105_1)).trans hw105_1), ((HB.out.cell (World.block_lt_of_cell? w _ hw105_2)).trans hw105_2), ((HB.out.cell (World.block_lt_of_cell? w _ hw105_3)).trans hw105_3), ((HB.out.cell (World.block_lt_of_cell? w _ hw105_4)).trans hw105_4)⟩ (fun hHeld => ?_); refine with_tabW syllabaryref21_areas.tab5 syllabaryref21_areas.bits5 (fun HT_ HW_ => ?_)
             generalize w29.drew = w30 at BK103 HB hx105_0 hx105_1 hx105_2 hx105_3 hx105_4 hHeld ⊢
             refine qA 0 (some 16) (bl [1, 50]) HT_ ?_
             refine qT 1 (some 17) (bl [2, 49]) HT_ HW_ hHeld ?_
             refine one_ (i := 2) (N := some 18) (bl [3, 48]) rfl rfl (one_of HT_.out (by kernel_rfl)) (by decide) (fun K hK => ?_)
             refine goes_ Try.func86 (by kernel_rfl) rfl #[.int .u8 ((rd_T36 l0 x3_1).f0)] (by rfl) rfl rfl (by (try simp only [List.map_toArray, List.map_cons, List.map_nil]); first | done | rfl | (simp only [List.length_drop, List.length_take]; rfl)) ?_
             with_reducible refine (syllabaryref21_Letter.calls ((rd_T36 l0 x3_1).f0) true _ A7.out).mono ?_
             rintro e w' ⟨rfl, ⟨nd, rfl⟩⟩
             refine ⟨_, rfl, ?_⟩
             refine hK.out _ _ ⟨(blk_cell BK103.out 0).trans rfl, (blk_cell BK103.out 1).trans rfl, (blk_cell BK103.out 2).trans rfl, (blk_cell BK103.out 3).trans rfl, (blk_cell BK103.out 4).trans rfl, ((HB.out.cell (World.block_lt_of_cell? w _ hw105_0)).trans hw105_0), ((HB.out.cell (World.block_lt_of_cell? w _ hw105_1)).trans hw105_1), ((HB.out.cell (World.block_lt_of_cell? w _ hw105_2)).trans hw105_2), ((HB.out.cell (World.block_lt_of_cell? w _ hw105_3)).trans hw105_3), ((HB.out.cell (World.block_lt_of_cell? w _ hw105_4)).trans hw105_4)⟩ (fun hHeld => ?_)
             clear hK K
             refine norm_ (a' := ?_) ?_ ?_
             rotate_left; · (show Act.put _ (some 18) _ = _; simp only [Act.put, q1, q2, q3, i64_w, i32_w]; rfl)
             refine qA 3 (some 19) (bl [4, 47]) HT_ ?_
             refine qA 4 (some 20) (bl [5, 46]) HT_ ?_
             refine qA 5 (some 21) (bl [6, 45]) HT_ ?_
             refine qA 6 (some 22) (bl [7, 44]) HT_ ?_
             refine qA 7 (some 23) (bl [8, 43]) HT_ ?_
             refine qA 8 (some 24) (bl [9, 42]) HT_ ?_
             refine qA 10 (some 26) (bl [9, 1, 1, 40]) HT_ ?_
             refine qA 11 (some 27) (bl [9, 1, 2, 39]) HT_ ?_
             refine qA 12 (some 28) (bl [9, 1, 3, 38]) HT_ ?_
             refine qA 13 (some 29) (bl [9, 1, 4, 37]) HT_ ?_
             refine qA 14 (some 30) (bl [9, 1, 5, 36]) HT_ ?_
             refine qT 9 (some 25) (bl [15, 36]) HT_ HW_ hHeld ?_
             refine qT 15 (some 31) (bl [16, 35]) HT_ HW_ hHeld ?_
             refine qA 16 (some 32) (bl [17, 34]) HT_ ?_
             refine qA 17 (some 33) (bl [18, 33]) HT_ ?_
             refine qA 18 (some 34) (bl [19, 32]) HT_ ?_
             refine qA 19 (some 35) (bl [20, 31]) HT_ ?_
             refine qA 20 (some 36) (bl [21, 30]) HT_ ?_
             refine qA 22 (some 38) (bl [21, 1, 1, 28]) HT_ ?_
             refine qT 21 (some 37) (bl [23, 28]) HT_ HW_ hHeld ?_
             refine qT 23 (some 39) (bl [24, 27]) HT_ HW_ hHeld ?_
             refine qA 24 (some 40) (bl [25, 26]) HT_ ?_
             refine one_ (i := 25) (N := some 41) (bl [26, 25]) rfl rfl (one_of HT_.out (by kernel_rfl)) (by decide) (fun K hK => ?_)
             refine goes_ Try.func114 (by kernel_rfl) rfl #[.agg #[.int .i64 ((rd_T36 l0 x3_1).f1), .int .i64 ((rd_T36 l0 x3_1).f2)]] (by rfl) rfl rfl (by (try simp only [List.map_toArray, List.map_cons, List.map_nil]); first | done | rfl | (simp only [List.length_drop, List.length_take]; rfl)) ?_
             with_reducible refine (syllabaryref21_Inside.calls ((rd_T36 l0 x3_1).f1) ((rd_T36 l0 x3_1).f2) true _ A16.out).mono ?_
             rintro e w31 ⟨rfl, hb⟩
             refine ⟨_, rfl, ?_⟩
             have n0_ := Aside0.mk (blk_below (g := gb103) (o := .cells #[.int .u8 ((rd_T36 l0 x3_1).f0), .int .i64 ((rd_T36 l0 x3_1).f1), .int .i64 ((rd_T36 l0 x3_1).f2), .int .i64 ((rd_T36 l0 x3_1).f3), .int .i64 ((rd_T36 l0 x3_1).f4)] 36 (0, 0)) (by (with_reducible repeat (first | refine blk_drewN ?_ _ | refine blk_drew ?_ | refine blk_alloc ?_ _)); exact BK103.out) hb)
             have n1_ := Aside0.mk (below_step (by repeat (first | (with_reducible first | exact HB.out | apply below_alloc | apply pw_below_drewN | apply below_drew1 | refine below_set ?_ GE103.out) | exact HB.out)) hb)
             clear BK103; clear HB
             have BK103 := n0_
             have HB := n1_
             clear n0_ n1_
             (try clear hb)
             (try clear hb2)
             (try clear hk)
             (try clear hi)
             refine hK.out _ _ ⟨(blk_cell BK103.out 0).trans rfl, (blk_cell BK103.out 1).trans rfl, (blk_cell BK103.out 2).trans rfl, (blk_cell BK103.out 3).trans rfl, (blk_cell BK103.out 4).trans rfl, ((HB.out.cell (World.block_lt_of_cell? w _ hw105_0)).trans hw105_0), ((HB.out.cell (World.block_lt_of_cell? w _ hw105_1)).trans hw105_1), ((HB.out.cell (World.block_lt_of_cell? w _ hw105_2)).trans hw105_2), ((HB.out.cell (World.block_lt_of_cell? w _ hw105_3)).trans hw105_3), ((HB.out.cell (World.block_lt_of_cell? w _ hw105_4)).trans hw105_4)⟩ (fun hHeld => ?_)
             clear hK K
             refine norm_ (a' := ?_) ?_ ?_
             rotate_left; · (show Act.put _ (some 41) _ = _; simp only [Act.put, q1, q2, q3, i64_w, i32_w]; rfl)
             refine qA 26 (some 42) (bl [27, 24]) HT_ ?_
             refine qA 27 (some 43) (bl [28, 23]) HT_ ?_
             refine qA 28 (some 44) (bl [29, 22]) HT_ ?_
             refine qA 29 (some 45) (bl [30, 21]) HT_ ?_
             refine qA 31 (some 47) (bl [30, 1, 1, 19]) HT_ ?_
             refine qT 30 (some 46) (bl [32, 19]) HT_ HW_ hHeld ?_
             refine qT 32 (some 48) (bl [33, 18]) HT_ HW_ hHeld ?_
             refine qA 33 (some 49) (bl [34, 17]) HT_ ?_
             refine one_ (i := 34) (N := some 50) (bl [35, 16]) rfl rfl (one_of HT_.out (by kernel_rfl)) (by decide) (fun K hK => ?_)
             refine goes_ Try.func114 (by kernel_rfl) rfl #[.agg #[.int .i64 ((rd_T36 l0 x3_1).f3), .int .i64 ((rd_T36 l0 x3_1).f4)]] (by rfl) rfl rfl (by (try simp only [List.map_toArray, List.map_cons, List.map_nil]); first | done | rfl | (simp only [List.length_drop, List.length_take]; rfl)) ?_
             with_reducible refine (syllabaryref21_Inside.calls ((rd_T36 l0 x3_1).f3) ((rd_T36 l0 x3_1).f4) false _ A18.out).mono ?_
             rintro e w32 ⟨rfl, hb⟩
             refine ⟨_, rfl, ?_⟩
             have n0_ := Aside0.mk (blk_below (g := gb103) (o := .cells #[.int .u8 ((rd_T36 l0 x3_1).f0), .int .i64 ((rd_T36 l0 x3_1).f1), .int .i64 ((rd_T36 l0 x3_1).f2), .int .i64 ((rd_T36 l0 x3_1).f3), .int .i64 ((rd_T36 l0 x3_1).f4)] 36 (0, 0)) (by (with_reducible repeat (first | refine blk_drewN ?_ _ | refine blk_drew ?_ | refine blk_alloc ?_ _)); exact BK103.out) hb)
             have n1_ := Aside0.mk (below_step (by repeat (first | (with_reducible first | exact HB.out | apply below_alloc | apply pw_below_drewN | apply below_drew1 | refine below_set ?_ GE103.out) | exact HB.out)) hb)
             clear BK103; clear HB
             have BK103 := n0_
             have HB := n1_
             clear n0_ n1_
             (try clear hb)
             (try clear hb2)
             (try clear hk)
             (try clear hi)
             refine hK.out _ _ ⟨(blk_cell BK103.out 0).trans rfl, (blk_cell BK103.out 1).trans rfl, (blk_cell BK103.out 2).trans rfl, (blk_cell BK103.out 3).trans rfl, (blk_cell BK103.out 4).trans rfl, ((HB.out.cell (World.block_lt_of_cell? w _ hw105_0)).trans hw105_0), ((HB.out.cell (World.block_lt_of_cell? w _ hw105_1)).trans hw105_1), ((HB.out.cell (World.block_lt_of_cell? w _ hw105_2)).trans hw105_2), ((HB.out.cell (World.block_lt_of_cell? w _ hw105_3)).trans hw105_3), ((HB.out.cell (World.block_lt_of_cell? w _ hw105_4)).trans hw105_4)⟩ (fun hHeld => ?_)
             clear hK K
             refine norm_ (a' := ?_) ?_ ?_
             rotate_left; · (show Act.put _ (some 50) _ = _; simp only [Act.put, q1, q2, q3, i64_w, i32_w]; rfl)
             refine qA 35 (some 51) (bl [36, 15]) HT_ ?_
             refine qA 36 (some 52) (bl [37, 14]) HT_ ?_
             refine qA 37 (some 53) (bl [38, 13]) HT_ ?_
             refine qO 38 (some 54) (bl [39, 12]) HT_ ?_
             refine qO 39 (some 55) (bl [40, 11]) HT_ ?_
             refine qO 40 (some 56) (bl [41, 10]) HT_ ?_
             refine qO 41 (some 57) (bl [42, 9]) HT_ ?_
             refine qO 42 (some 58) (bl [43, 8]) HT_ ?_
             refine qA 43 (some 59) (bl [44, 7]) HT_ ?_
             refine qA 44 (some 60) (bl [45, 6]) HT_ ?_
             refine qO 45 (some 61) (bl [46, 5]) HT_ ?_
             refine qO 46 (some 62) (bl [47, 4]) HT_ ?_
             refine qO 47 (some 63) (bl [48, 3]) HT_ ?_
             refine qO 48 (some 64) (bl [49, 2]) HT_ ?_
             refine qO 49 (some 65) (bl [50, 1]) HT_ ?_
             refine qA 50 (some 66) (bl [51]) HT_ ?_
             refine done_ (done_of HT_.out (by kernel_rfl)) ?_
             try go_wp2
             go_meet
             case rel => exact ⟨_, (true), (by first | rfl | (simp; done) | (simp [*]; done)), H', ⟨by have := HK1.out; first | omega | exact Nat.le_refl _⟩, ⟨by (with_reducible repeat (first | refine blk_drewN ?_ _ | refine blk_drew ?_ | refine blk_alloc ?_ _)); exact BK103.out⟩, ⟨by repeat (first | (with_reducible first | exact HB.out | apply below_alloc | apply pw_below_drewN | apply below_drew1 | refine below_set ?_ GE103.out) | exact HB.out)⟩⟩
           ·
            replace c17 := Bool.eq_false_iff.mpr c17
            subst c17
            have H1 : (syllabaryref21_areas.j1 k1 l0 x3_1 true ((rd_T36 l0 x3_1).f0) ((rd_T36 l0 x3_1).f1) ((rd_T36 l0 x3_1).f2) ((rd_T36 l0 x3_1).f3) ((rd_T36 l0 x3_1).f4)) = some r := by rw [if_neg (show ¬ (false = true) by decide)] at H; exact H
            clear H
            have H := H1
            clear H1
            have H' := Aside0.mk H
            clear H
            try go_wp2
            have n0_ : Aside0 ((((((w5.setCell ⟨gb103, 0, none⟩ (.int .u8 ((rd_T36 l0 x3_1).f0))).setCell ⟨gb103, 1, none⟩ (.int .i64 ((rd_T36 l0 x3_1).f1))).setCell ⟨gb103, 2, none⟩ (.int .i64 ((rd_T36 l0 x3_1).f2))).setCell ⟨gb103, 3, none⟩ (.int .i64 ((rd_T36 l0 x3_1).f3))).setCell ⟨gb103, 4, none⟩ (.int .i64 ((rd_T36 l0 x3_1).f4))).heap[gb103]? = some (.cells #[.int .u8 ((rd_T36 l0 x3_1).f0), .int .i64 ((rd_T36 l0 x3_1).f1), .int .i64 ((rd_T36 l0 x3_1).f2), .int .i64 ((rd_T36 l0 x3_1).f3), .int .i64 ((rd_T36 l0 x3_1).f4)] 36 (0, 0))) := ⟨by (with_reducible repeat (first | refine blk_drewN ?_ _ | refine blk_drew ?_ | refine blk_alloc ?_ _)); refine blk_put (cs := #[.int .u8 ((rd_T36 l0 x3_1).f0), .int .i64 ((rd_T36 l0 x3_1).f1), .int .i64 ((rd_T36 l0 x3_1).f2), .int .i64 ((rd_T36 l0 x3_1).f3), .int .i64 0]) ?_ 4 _ rfl; (with_reducible repeat (first | refine blk_drewN ?_ _ | refine blk_drew ?_ | refine blk_alloc ?_ _)); refine blk_put (cs := #[.int .u8 ((rd_T36 l0 x3_1).f0), .int .i64 ((rd_T36 l0 x3_1).f1), .int .i64 ((rd_T36 l0 x3_1).f2), .int .i64 0, .int .i64 0]) ?_ 3 _ rfl; (with_reducible repeat (first | refine blk_drewN ?_ _ | refine blk_drew ?_ | refine blk_alloc ?_ _)); refine blk_put (cs := #[.int .u8 ((rd_T36 l0 x3_1).f0), .int .i64 ((rd_T36 l0 x3_1).f1), .int .i64 0, .int .i64 0, .int .i64 0]) ?_ 2 _ rfl; (with_reducible repeat (first | refine blk_drewN ?_ _ | refine blk_drew ?_ | refine blk_alloc ?_ _)); refine blk_put (cs := #[.int .u8 ((rd_T36 l0 x3_1).f0), .int .i64 0, .int .i64 0, .int .i64 0, .int .i64 0]) ?_ 1 _ rfl; (with_reducible repeat (first | refine blk_drewN ?_ _ | refine blk_drew ?_ | refine blk_alloc ?_ _)); refine blk_put (cs := #[.int .u8 0, .int .i64 0, .int .i64 0, .int .i64 0, .int .i64 0]) ?_ 0 _ rfl; (with_reducible repeat (first | refine blk_drewN ?_ _ | refine blk_drew ?_ | refine blk_alloc ?_ _)); exact BK103.out⟩
            have n1_ : Aside0 (Below w.heap.size w (((((w5.setCell ⟨gb103, 0, none⟩ (.int .u8 ((rd_T36 l0 x3_1).f0))).setCell ⟨gb103, 1, none⟩ (.int .i64 ((rd_T36 l0 x3_1).f1))).setCell ⟨gb103, 2, none⟩ (.int .i64 ((rd_T36 l0 x3_1).f2))).setCell ⟨gb103, 3, none⟩ (.int .i64 ((rd_T36 l0 x3_1).f3))).setCell ⟨gb103, 4, none⟩ (.int .i64 ((rd_T36 l0 x3_1).f4)))) := ⟨by repeat (first | (with_reducible first | exact HB.out | apply below_alloc | apply pw_below_drewN | apply below_drew1 | refine below_set ?_ GE103.out) | exact HB.out)⟩
            (try clear BK103)
            (try clear HB)
            generalize (((((w5.setCell ⟨gb103, 0, none⟩ (.int .u8 ((rd_T36 l0 x3_1).f0))).setCell ⟨gb103, 1, none⟩ (.int .i64 ((rd_T36 l0 x3_1).f1))).setCell ⟨gb103, 2, none⟩ (.int .i64 ((rd_T36 l0 x3_1).f2))).setCell ⟨gb103, 3, none⟩ (.int .i64 ((rd_T36 l0 x3_1).f3))).setCell ⟨gb103, 4, none⟩ (.int .i64 ((rd_T36 l0 x3_1).f4))) = w33 at n0_ n1_ ⊢
            have BK103 := n0_
            have HB := n1_
            clear n0_ n1_
            have n0_ := Aside0.mk (blk_drew BK103.out)
            have n1_ := Aside0.mk (below_drew1 HB.out)
            clear BK103; clear HB
            have BK103 := n0_
            have HB := n1_
            clear n0_ n1_
            have p105 : 0 ≤ ((ji10) : Int) := of_decide_eq_true (by assumption)
            have q105 : (ji10) < (l0.length : Int) := of_decide_eq_true (by assumption)
            obtain ⟨ad105, e105, hx105_0, hx105_1, hx105_2, hx105_3, hx105_4⟩ := at_T36 HR0.out (ji10) p105 q105
            have hw105_4 := hx105_4
            have hw105_3 := hx105_3
            have hw105_2 := hx105_2
            have hw105_1 := hx105_1
            have hw105_0 := hx105_0
            obtain rfl : ad102 = ad105 := (by injection e105)
            replace hx105_0 := (HB.out.cell (World.block_lt_of_cell? w _ hx105_0)).trans hx105_0
            replace hx105_1 := (HB.out.cell (World.block_lt_of_cell? w _ hx105_1)).trans hx105_1
            replace hx105_2 := (HB.out.cell (World.block_lt_of_cell? w _ hx105_2)).trans hx105_2
            replace hx105_3 := (HB.out.cell (World.block_lt_of_cell? w _ hx105_3)).trans hx105_3
            replace hx105_4 := (HB.out.cell (World.block_lt_of_cell? w _ hx105_4)).trans hx105_4
            replace p105 := eq_true p105
            replace q105 := eq_true q105
            refine start_ (n := 51) (S := fun w' => w'.cell? ⟨gb103, 0, none⟩ = some (.int .u8 ((rd_T36 l0 x3_1).f0)) ∧ w'.cell? ⟨gb103, 1, none⟩ = some (.int .i64 ((rd_T36 l0 x3_1).f1)) ∧ w'.cell? ⟨gb103, 2, none⟩ = some (.int .i64 ((rd_T36 l0 x3_1).f2)) ∧ w'.cell? ⟨gb103, 3, none⟩ = some (.int .i64 ((rd_T36 l0 x3_1).f3)) ∧ w'.cell? ⟨gb103, 4, none⟩ = some (.int .i64 ((rd_T36 l0 x3_1).f4)) ∧ w'.cell? (ad102.add (((ji10)).toNat * 5)) = some (.int .u8 ((rd_T36 l0 (ji10)).f0)) ∧ w'.cell? ⟨(ad102.add (((ji10)).toNat * 5)).block, (ad102.add (((ji10)).toNat * 5)).off + 1, none⟩ = some (.int .i64 ((rd_T36 l0 (ji10)).f1)) ∧ w'.cell? ⟨(ad102.add (((ji10)).toNat * 5)).block, (ad102.add (((ji10)).toNat * 5)).off + 2, none⟩ = some (.int .i64 ((rd_T36 l0 (ji10)).f2)) ∧ w'.cell? ⟨(ad102.add (((ji10)).toNat * 5)).block, (ad102.add (((ji10)).toNat * 5)).off + 3, none⟩ = some (.int .i64 ((rd_T36 l0 (ji10)).f3)) ∧ w'.cell? ⟨(ad102.add (((ji10)).toNat * 5)).block, (ad102.add (((ji10)).toNat * 5)).off + 4, none⟩ = some (.int .i64 ((rd_T36 l0 (ji10)).f4))) (ds := []) (bl [0, 51]) (by kernel_rfl) rfl rfl ⟨(blk_cell BK103.out 0).trans rfl, (blk_cell BK103.out 1).trans rfl, (blk_cell BK103.out 2).trans rfl, (blk_cell BK103.out 3).trans rfl, (blk_cell BK103.out 4).trans rfl, ((HB.out.cell (World.block_lt_of_cell? w _ hw105_0)).trans hw105_0), ((HB.out.cell (World.block_lt_of_cell? w _ hw105_1)).trans hw105_1), ((HB.out.cell (World.block_lt_of_cell? w _ hw105_2)).trans hw105_2), ((HB.out.cell (World.block_lt_of_cell? w _ hw105_3)).trans hw105_3), ((HB.out.cell (World.block_lt_of_cell? w _ hw105_4)).trans hw105_4)⟩ (fun hHeld => ?_); refine with_tabW syllabaryref21_areas.tab5 syllabaryref21_areas.bits5 (fun HT_ HW_ => ?_)
            generalize w33.drew = w34 at BK103 HB hx105_0 hx105_1 hx105_2 hx105_3 hx105_4 hHeld ⊢
            refine qA 0 (some 16) (bl [1, 50]) HT_ ?_
            refine qT 1 (some 17) (bl [2, 49]) HT_ HW_ hHeld ?_
            refine one_ (i := 2) (N := some 18) (bl [3, 48]) rfl rfl (one_of HT_.out (by kernel_rfl)) (by decide) (fun K hK => ?_)
            refine goes_ Try.func86 (by kernel_rfl) rfl #[.int .u8 ((rd_T36 l0 x3_1).f0)] (by rfl) rfl rfl (by (try simp only [List.map_toArray, List.map_cons, List.map_nil]); first | done | rfl | (simp only [List.length_drop, List.length_take]; rfl)) ?_
            with_reducible refine (syllabaryref21_Letter.calls ((rd_T36 l0 x3_1).f0) true _ A7.out).mono ?_
            rintro e w' ⟨rfl, ⟨nd, rfl⟩⟩
            refine ⟨_, rfl, ?_⟩
            refine hK.out _ _ ⟨(blk_cell BK103.out 0).trans rfl, (blk_cell BK103.out 1).trans rfl, (blk_cell BK103.out 2).trans rfl, (blk_cell BK103.out 3).trans rfl, (blk_cell BK103.out 4).trans rfl, ((HB.out.cell (World.block_lt_of_cell? w _ hw105_0)).trans hw105_0), ((HB.out.cell (World.block_lt_of_cell? w _ hw105_1)).trans hw105_1), ((HB.out.cell (World.block_lt_of_cell? w _ hw105_2)).trans hw105_2), ((HB.out.cell (World.block_lt_of_cell? w _ hw105_3)).trans hw105_3), ((HB.out.cell (World.block_lt_of_cell? w _ hw105_4)).trans hw105_4)⟩ (fun hHeld => ?_)
            clear hK K
            refine norm_ (a' := ?_) ?_ ?_
            rotate_left; · (show Act.put _ (some 18) _ = _; simp only [Act.put, q1, q2, q3, i64_w, i32_w]; rfl)
            refine qA 3 (some 19) (bl [4, 47]) HT_ ?_
            refine qA 4 (some 20) (bl [5, 46]) HT_ ?_
            refine qA 5 (some 21) (bl [6, 45]) HT_ ?_
            refine qA 6 (some 22) (bl [7, 44]) HT_ ?_
            refine qA 7 (some 23) (bl [8, 43]) HT_ ?_
            refine qA 8 (some 24) (bl [9, 42]) HT_ ?_
            refine qA 10 (some 26) (bl [9, 1, 1, 40]) HT_ ?_
            refine qA 11 (some 27) (bl [9, 1, 2, 39]) HT_ ?_
            refine qA 12 (some 28) (bl [9, 1, 3, 38]) HT_ ?_
            refine qA 13 (some 29) (bl [9, 1, 4, 37]) HT_ ?_
            refine qA 14 (some 30) (bl [9, 1, 5, 36]) HT_ ?_
            refine qT 9 (some 25) (bl [15, 36]) HT_ HW_ hHeld ?_
            refine qT 15 (some 31) (bl [16, 35]) HT_ HW_ hHeld ?_
            refine qA 16 (some 32) (bl [17, 34]) HT_ ?_
            refine qA 17 (some 33) (bl [18, 33]) HT_ ?_
            refine qA 18 (some 34) (bl [19, 32]) HT_ ?_
            refine qA 19 (some 35) (bl [20, 31]) HT_ ?_
            refine qA 20 (some 36) (bl [21, 30]) HT_ ?_
            refine qA 22 (some 38) (bl [21, 1, 1, 28]) HT_ ?_
            refine qT 21 (some 37) (bl [23, 28]) HT_ HW_ hHeld ?_
            refine qT 23 (some 39) (bl [24, 27]) HT_ HW_ hHeld ?_
            refine qA 24 (some 40) (bl [25, 26]) HT_ ?_
            refine one_ (i := 25) (N := some 41) (bl [26, 25]) rfl rfl (one_of HT_.out (by kernel_rfl)) (by decide) (fun K hK => ?_)
            refine goes_ Try.func114 (by kernel_rfl) rfl #[.agg #[.int .i64 ((rd_T36 l0 x3_1).f1), .int .i64 ((rd_T36 l0 x3_1).f2)]] (by rfl) rfl rfl (by (try simp only [List.map_toArray, List.map_cons, List.map_nil]); first | done | rfl | (simp only [List.length_drop, List.length_take]; rfl)) ?_
            with_reducible refine (syllabaryref21_Inside.calls ((rd_T36 l0 x3_1).f1) ((rd_T36 l0 x3_1).f2) false _ A16.out).mono ?_
            rintro e w35 ⟨rfl, hb⟩
            refine ⟨_, rfl, ?_⟩
            have n0_ := Aside0.mk (blk_below (g := gb103) (o := .cells #[.int .u8 ((rd_T36 l0 x3_1).f0), .int .i64 ((rd_T36 l0 x3_1).f1), .int .i64 ((rd_T36 l0 x3_1).f2), .int .i64 ((rd_T36 l0 x3_1).f3), .int .i64 ((rd_T36 l0 x3_1).f4)] 36 (0, 0)) (by (with_reducible repeat (first | refine blk_drewN ?_ _ | refine blk_drew ?_ | refine blk_alloc ?_ _)); exact BK103.out) hb)
            have n1_ := Aside0.mk (below_step (by repeat (first | (with_reducible first | exact HB.out | apply below_alloc | apply pw_below_drewN | apply below_drew1 | refine below_set ?_ GE103.out) | exact HB.out)) hb)
            clear BK103; clear HB
            have BK103 := n0_
            have HB := n1_
            clear n0_ n1_
            (try clear hb)
            (try clear hb2)
            (try clear hk)
            (try clear hi)
            refine hK.out _ _ ⟨(blk_cell BK103.out 0).trans rfl, (blk_cell BK103.out 1).trans rfl, (blk_cell BK103.out 2).trans rfl, (blk_cell BK103.out 3).trans rfl, (blk_cell BK103.out 4).trans rfl, ((HB.out.cell (World.block_lt_of_cell? w _ hw105_0)).trans hw105_0), ((HB.out.cell (World.block_lt_of_cell? w _ hw105_1)).trans hw105_1), ((HB.out.cell (World.block_lt_of_cell? w _ hw105_2)).trans hw105_2), ((HB.out.cell (World.block_lt_of_cell? w _ hw105_3)).trans hw105_3), ((HB.out.cell (World.block_lt_of_cell? w _ hw105_4)).trans hw105_4)⟩ (fun hHeld => ?_)
            clear hK K
            refine norm_ (a' := ?_) ?_ ?_
            rotate_left; · (show Act.put _ (some 41) _ = _; simp only [Act.put, q1, q2, q3, i64_w, i32_w]; rfl)
            refine qA 26 (some 42) (bl [27, 24]) HT_ ?_
            refine qA 27 (some 43) (bl [28, 23]) HT_ ?_
            refine qA 28 (some 44) (bl [29, 22]) HT_ ?_
            refine qO 29 (some 45) (bl [30, 21]) HT_ ?_
            refine qO 30 (some 46) (bl [31, 20]) HT_ ?_
            refine qO 31 (some 47) (bl [32, 19]) HT_ ?_
            refine qO 32 (some 48) (bl [33, 18]) HT_ ?_
            refine qO 33 (some 49) (bl [34, 17]) HT_ ?_
            refine qO 34 (some 50) (bl [35, 16]) HT_ ?_
            refine qO 35 (some 51) (bl [36, 15]) HT_ ?_
            refine qA 36 (some 52) (bl [37, 14]) HT_ ?_
            refine qA 37 (some 53) (bl [38, 13]) HT_ ?_
            refine qO 38 (some 54) (bl [39, 12]) HT_ ?_
            refine qO 39 (some 55) (bl [40, 11]) HT_ ?_
            refine qO 40 (some 56) (bl [41, 10]) HT_ ?_
            refine qO 41 (some 57) (bl [42, 9]) HT_ ?_
            refine qO 42 (some 58) (bl [43, 8]) HT_ ?_
            refine qA 43 (some 59) (bl [44, 7]) HT_ ?_
            refine qA 44 (some 60) (bl [45, 6]) HT_ ?_
            refine qO 45 (some 61) (bl [46, 5]) HT_ ?_
            refine qO 46 (some 62) (bl [47, 4]) HT_ ?_
            refine qO 47 (some 63) (bl [48, 3]) HT_ ?_
            refine qO 48 (some 64) (bl [49, 2]) HT_ ?_
            refine qO 49 (some 65) (bl [50, 1]) HT_ ?_
            refine qA 50 (some 66) (bl [51]) HT_ ?_
            refine done_ (done_of HT_.out (by kernel_rfl)) ?_
            try go_wp2
            go_meet
            case rel => exact ⟨_, (true), (by first | rfl | (simp; done) | (simp [*]; done)), H', ⟨by have := HK1.out; first | omega | exact Nat.le_refl _⟩, ⟨by (with_reducible repeat (first | refine blk_drewN ?_ _ | refine blk_drew ?_ | refine blk_alloc ?_ _)); exact BK103.out⟩, ⟨by repeat (first | (with_reducible first | exact HB.out | apply below_alloc | apply pw_below_drewN | apply below_drew1 | refine below_set ?_ GE103.out) | exact HB.out)⟩⟩
         ·
          rw [if_neg c12] at H
          exact absurd H (by simp)
        ·
         rw [if_neg c11] at H
         exact absurd H (by simp)
       ·
        rw [if_neg c9] at H
        have c9b0 : decide (0 < x3_1) = false := decide_eq_false c9
        clear c9
        (first | rw [c9b0] | (simp only [i64_w, i32_w]; rw [c9b0]) | skip)
        replace H := Option.bind_eq_some_iff.mp H
        obtain ⟨t108, A360, H⟩ := H
        replace H : (if t108 = true then ((syllabaryref21_Inside.f ((rd_T36 l0 x3_1).f3) ((rd_T36 l0 x3_1).f4)).bind fun t109 => (if t109 = true then (if ((rd_T36 l0 x3_1).f1) > ((rd_T36 l0 x3_1).f3) then (syllabaryref21_areas.j1 k1 l0 x3_1 true ((rd_T36 l0 x3_1).f0) ((rd_T36 l0 x3_1).f1) ((rd_T36 l0 x3_1).f2) ((rd_T36 l0 x3_1).f3) ((rd_T36 l0 x3_1).f4)) else (syllabaryref21_areas.j1 k1 l0 x3_1 (decide (((rd_T36 l0 x3_1).f2) > ((rd_T36 l0 x3_1).f4))) ((rd_T36 l0 x3_1).f0) ((rd_T36 l0 x3_1).f1) ((rd_T36 l0 x3_1).f2) ((rd_T36 l0 x3_1).f3) ((rd_T36 l0 x3_1).f4))) else (syllabaryref21_areas.j1 k1 l0 x3_1 true ((rd_T36 l0 x3_1).f0) ((rd_T36 l0 x3_1).f1) ((rd_T36 l0 x3_1).f2) ((rd_T36 l0 x3_1).f3) ((rd_T36 l0 x3_1).f4)))) else (syllabaryref21_areas.j1 k1 l0 x3_1 true ((rd_T36 l0 x3_1).f0) ((rd_T36 l0 x3_1).f1) ((rd_T36 l0 x3_1).f2) ((rd_T36 l0 x3_1).f3) ((rd_T36 l0 x3_1).f4))) = some r := H
        have A36 := Aside0.mk A360
        clear A360
        by_cases c37 : t108 = true
        ·
         subst c37
         have H1 : ((syllabaryref21_Inside.f ((rd_T36 l0 x3_1).f3) ((rd_T36 l0 x3_1).f4)).bind fun t109 => (if t109 = true then (if ((rd_T36 l0 x3_1).f1) > ((rd_T36 l0 x3_1).f3) then (syllabaryref21_areas.j1 k1 l0 x3_1 true ((rd_T36 l0 x3_1).f0) ((rd_T36 l0 x3_1).f1) ((rd_T36 l0 x3_1).f2) ((rd_T36 l0 x3_1).f3) ((rd_T36 l0 x3_1).f4)) else (syllabaryref21_areas.j1 k1 l0 x3_1 (decide (((rd_T36 l0 x3_1).f2) > ((rd_T36 l0 x3_1).f4))) ((rd_T36 l0 x3_1).f0) ((rd_T36 l0 x3_1).f1) ((rd_T36 l0 x3_1).f2) ((rd_T36 l0 x3_1).f3) ((rd_T36 l0 x3_1).f4))) else (syllabaryref21_areas.j1 k1 l0 x3_1 true ((rd_T36 l0 x3_1).f0) ((rd_T36 l0 x3_1).f1) ((rd_T36 l0 x3_1).f2) ((rd_T36 l0 x3_1).f3) ((rd_T36 l0 x3_1).f4)))) = some r := by rw [if_pos rfl] at H; exact H
         clear H
         have H := H1
         clear H1
         replace H := Option.bind_eq_some_iff.mp H
         obtain ⟨t109, A380, H⟩ := H
         replace H : (if t109 = true then (if ((rd_T36 l0 x3_1).f1) > ((rd_T36 l0 x3_1).f3) then (syllabaryref21_areas.j1 k1 l0 x3_1 true ((rd_T36 l0 x3_1).f0) ((rd_T36 l0 x3_1).f1) ((rd_T36 l0 x3_1).f2) ((rd_T36 l0 x3_1).f3) ((rd_T36 l0 x3_1).f4)) else (syllabaryref21_areas.j1 k1 l0 x3_1 (decide (((rd_T36 l0 x3_1).f2) > ((rd_T36 l0 x3_1).f4))) ((rd_T36 l0 x3_1).f0) ((rd_T36 l0 x3_1).f1) ((rd_T36 l0 x3_1).f2) ((rd_T36 l0 x3_1).f3) ((rd_T36 l0 x3_1).f4))) else (syllabaryref21_areas.j1 k1 l0 x3_1 true ((rd_T36 l0 x3_1).f0) ((rd_T36 l0 x3_1).f1) ((rd_T36 l0 x3_1).f2) ((rd_T36 l0 x3_1).f3) ((rd_T36 l0 x3_1).f4))) = some r := H
         have A38 := Aside0.mk A380
         clear A380
         by_cases c39 : t109 = true
         ·
          subst c39
          have H1 : (if ((rd_T36 l0 x3_1).f1) > ((rd_T36 l0 x3_1).f3) then (syllabaryref21_areas.j1 k1 l0 x3_1 true ((rd_T36 l0 x3_1).f0) ((rd_T36 l0 x3_1).f1) ((rd_T36 l0 x3_1).f2) ((rd_T36 l0 x3_1).f3) ((rd_T36 l0 x3_1).f4)) else (syllabaryref21_areas.j1 k1 l0 x3_1 (decide (((rd_T36 l0 x3_1).f2) > ((rd_T36 l0 x3_1).f4))) ((rd_T36 l0 x3_1).f0) ((rd_T36 l0 x3_1).f1) ((rd_T36 l0 x3_1).f2) ((rd_T36 l0 x3_1).f3) ((rd_T36 l0 x3_1).f4))) = some r := by rw [if_pos rfl] at H; exact H
          clear H
          have H := H1
          clear H1
          by_cases c40 : ((rd_T36 l0 x3_1).f1) > ((rd_T36 l0 x3_1).f3)
          ·
           rw [if_pos c40] at H
           have c40b0 : decide (((rd_T36 l0 x3_1).f3) < ((rd_T36 l0 x3_1).f1)) = true := decide_eq_true c40
           clear c40
           have H' := Aside0.mk H
           clear H
           try go_wp2
           have n0_ : Aside0 ((((((w5.setCell ⟨gb103, 0, none⟩ (.int .u8 ((rd_T36 l0 x3_1).f0))).setCell ⟨gb103, 1, none⟩ (.int .i64 ((rd_T36 l0 x3_1).f1))).setCell ⟨gb103, 2, none⟩ (.int .i64 ((rd_T36 l0 x3_1).f2))).setCell ⟨gb103, 3, none⟩ (.int .i64 ((rd_T36 l0 x3_1).f3))).setCell ⟨gb103, 4, none⟩ (.int .i64 ((rd_T36 l0 x3_1).f4))).heap[gb103]? = some (.cells #[.int .u8 ((rd_T36 l0 x3_1).f0), .int .i64 ((rd_T36 l0 x3_1).f1), .int .i64 ((rd_T36 l0 x3_1).f2), .int .i64 ((rd_T36 l0 x3_1).f3), .int .i64 ((rd_T36 l0 x3_1).f4)] 36 (0, 0))) := ⟨by (with_reducible repeat (first | refine blk_drewN ?_ _ | refine blk_drew ?_ | refine blk_alloc ?_ _)); refine blk_put (cs := #[.int .u8 ((rd_T36 l0 x3_1).f0), .int .i64 ((rd_T36 l0 x3_1).f1), .int .i64 ((rd_T36 l0 x3_1).f2), .int .i64 ((rd_T36 l0 x3_1).f3), .int .i64 0]) ?_ 4 _ rfl; (with_reducible repeat (first | refine blk_drewN ?_ _ | refine blk_drew ?_ | refine blk_alloc ?_ _)); refine blk_put (cs := #[.int .u8 ((rd_T36 l0 x3_1).f0), .int .i64 ((rd_T36 l0 x3_1).f1), .int .i64 ((rd_T36 l0 x3_1).f2), .int .i64 0, .int .i64 0]) ?_ 3 _ rfl; (with_reducible repeat (first | refine blk_drewN ?_ _ | refine blk_drew ?_ | refine blk_alloc ?_ _)); refine blk_put (cs := #[.int .u8 ((rd_T36 l0 x3_1).f0), .int .i64 ((rd_T36 l0 x3_1).f1), .int .i64 0, .int .i64 0, .int .i64 0]) ?_ 2 _ rfl; (with_reducible repeat (first | refine blk_drewN ?_ _ | refine blk_drew ?_ | refine blk_alloc ?_ _)); refine blk_put (cs := #[.int .u8 ((rd_T36 l0 x3_1).f0), .int .i64 0, .int .i64 0, .int .i64 0, .int .i64 0]) ?_ 1 _ rfl; (with_reducible repeat (first | refine blk_drewN ?_ _ | refine blk_drew ?_ | refine blk_alloc ?_ _)); refine blk_put (cs := #[.int .u8 0, .int .i64 0, .int .i64 0, .int .i64 0, .int .i64 0]) ?_ 0 _ rfl; (with_reducible repeat (first | refine blk_drewN ?_ _ | refine blk_drew ?_ | refine blk_alloc ?_ _)); exact BK103.out⟩
           have n1_ : Aside0 (Below w.heap.size w (((((w5.setCell ⟨gb103, 0, none⟩ (.int .u8 ((rd_T36 l0 x3_1).f0))).setCell ⟨gb103, 1, none⟩ (.int .i64 ((rd_T36 l0 x3_1).f1))).setCell ⟨gb103, 2, none⟩ (.int .i64 ((rd_T36 l0 x3_1).f2))).setCell ⟨gb103, 3, none⟩ (.int .i64 ((rd_T36 l0 x3_1).f3))).setCell ⟨gb103, 4, none⟩ (.int .i64 ((rd_T36 l0 x3_1).f4)))) := ⟨by repeat (first | (with_reducible first | exact HB.out | apply below_alloc | apply pw_below_drewN | apply below_drew1 | refine below_set ?_ GE103.out) | exact HB.out)⟩
           (try clear BK103)
           (try clear HB)
           generalize (((((w5.setCell ⟨gb103, 0, none⟩ (.int .u8 ((rd_T36 l0 x3_1).f0))).setCell ⟨gb103, 1, none⟩ (.int .i64 ((rd_T36 l0 x3_1).f1))).setCell ⟨gb103, 2, none⟩ (.int .i64 ((rd_T36 l0 x3_1).f2))).setCell ⟨gb103, 3, none⟩ (.int .i64 ((rd_T36 l0 x3_1).f3))).setCell ⟨gb103, 4, none⟩ (.int .i64 ((rd_T36 l0 x3_1).f4))) = w41 at n0_ n1_ ⊢
           have BK103 := n0_
           have HB := n1_
           clear n0_ n1_
           have n0_ := Aside0.mk (blk_drew BK103.out)
           have n1_ := Aside0.mk (below_drew1 HB.out)
           clear BK103; clear HB
           have BK103 := n0_
           have HB := n1_
           clear n0_ n1_
           refine start_ (n := 51) (S := fun w' => w'.cell? ⟨gb103, 0, none⟩ = some (.int .u8 ((rd_T36 l0 x3_1).f0)) ∧ w'.cell? ⟨gb103, 1, none⟩ = some (.int .i64 ((rd_T36 l0 x3_1).f1)) ∧ w'.cell? ⟨gb103, 2, none⟩ = some (.int .i64 ((rd_T36 l0 x3_1).f2)) ∧ w'.cell? ⟨gb103, 3, none⟩ = some (.int .i64 ((rd_T36 l0 x3_1).f3)) ∧ w'.cell? ⟨gb103, 4, none⟩ = some (.int .i64 ((rd_T36 l0 x3_1).f4))) (ds := []) (bl [0, 51]) (by kernel_rfl) rfl rfl ⟨(blk_cell BK103.out 0).trans rfl, (blk_cell BK103.out 1).trans rfl, (blk_cell BK103.out 2).trans rfl, (blk_cell BK103.out 3).trans rfl, (blk_cell BK103.out 4).trans rfl⟩ (fun hHeld => ?_); refine with_tabW syllabaryref21_areas.tab5 syllabaryref21_areas.bits5 (fun HT_ HW_ => ?_)
           generalize w41.drew = w42 at BK103 HB hHeld ⊢
           refine qA 0 (some 16) (bl [1, 50]) HT_ ?_
           refine qT 1 (some 17) (bl [2, 49]) HT_ HW_ hHeld ?_
           refine one_ (i := 2) (N := some 18) (bl [3, 48]) rfl rfl (one_of HT_.out (by kernel_rfl)) (by decide) (fun K hK => ?_)
           refine goes_ Try.func86 (by kernel_rfl) rfl #[.int .u8 ((rd_T36 l0 x3_1).f0)] (by rfl) rfl rfl (by (try simp only [List.map_toArray, List.map_cons, List.map_nil]); first | done | rfl | (simp only [List.length_drop, List.length_take]; rfl)) ?_
           with_reducible refine (syllabaryref21_Letter.calls ((rd_T36 l0 x3_1).f0) true _ A7.out).mono ?_
           rintro e w' ⟨rfl, ⟨nd, rfl⟩⟩
           refine ⟨_, rfl, ?_⟩
           refine hK.out _ _ ⟨(blk_cell BK103.out 0).trans rfl, (blk_cell BK103.out 1).trans rfl, (blk_cell BK103.out 2).trans rfl, (blk_cell BK103.out 3).trans rfl, (blk_cell BK103.out 4).trans rfl⟩ (fun hHeld => ?_)
           clear hK K
           refine norm_ (a' := ?_) ?_ ?_
           rotate_left; · (show Act.put _ (some 18) _ = _; simp only [Act.put, q1, q2, q3, i64_w, i32_w]; rfl)
           refine qA 3 (some 19) (bl [4, 47]) HT_ ?_
           refine qA 4 (some 20) (bl [5, 46]) HT_ ?_
           refine qA 5 (some 21) (bl [6, 45]) HT_ ?_
           refine qA 6 (some 22) (bl [7, 44]) HT_ ?_
           refine qA 7 (some 23) (bl [8, 43]) HT_ ?_
           refine qO 8 (some 24) (bl [9, 42]) HT_ ?_
           refine qO 9 (some 25) (bl [10, 41]) HT_ ?_
           refine qO 10 (some 26) (bl [11, 40]) HT_ ?_
           refine qO 11 (some 27) (bl [12, 39]) HT_ ?_
           refine qO 12 (some 28) (bl [13, 38]) HT_ ?_
           refine qO 13 (some 29) (bl [14, 37]) HT_ ?_
           refine qO 14 (some 30) (bl [15, 36]) HT_ ?_
           refine qO 15 (some 31) (bl [16, 35]) HT_ ?_
           refine qO 16 (some 32) (bl [17, 34]) HT_ ?_
           refine qA 17 (some 33) (bl [18, 33]) HT_ ?_
           refine qA 18 (some 34) (bl [19, 32]) HT_ ?_
           refine qA 19 (some 35) (bl [20, 31]) HT_ ?_
           refine qA 20 (some 36) (bl [21, 30]) HT_ ?_
           refine qA 22 (some 38) (bl [21, 1, 1, 28]) HT_ ?_
           refine qT 21 (some 37) (bl [23, 28]) HT_ HW_ hHeld ?_
           refine qT 23 (some 39) (bl [24, 27]) HT_ HW_ hHeld ?_
           refine qA 24 (some 40) (bl [25, 26]) HT_ ?_
           refine one_ (i := 25) (N := some 41) (bl [26, 25]) rfl rfl (one_of HT_.out (by kernel_rfl)) (by decide) (fun K hK => ?_)
           refine goes_ Try.func114 (by kernel_rfl) rfl #[.agg #[.int .i64 ((rd_T36 l0 x3_1).f1), .int .i64 ((rd_T36 l0 x3_1).f2)]] (by rfl) rfl rfl (by (try simp only [List.map_toArray, List.map_cons, List.map_nil]); first | done | rfl | (simp only [List.length_drop, List.length_take]; rfl)) ?_
           with_reducible refine (syllabaryref21_Inside.calls ((rd_T36 l0 x3_1).f1) ((rd_T36 l0 x3_1).f2) true _ A36.out).mono ?_
           rintro e w43 ⟨rfl, hb⟩
           refine ⟨_, rfl, ?_⟩
           have n0_ := Aside0.mk (blk_below (g := gb103) (o := .cells #[.int .u8 ((rd_T36 l0 x3_1).f0), .int .i64 ((rd_T36 l0 x3_1).f1), .int .i64 ((rd_T36 l0 x3_1).f2), .int .i64 ((rd_T36 l0 x3_1).f3), .int .i64 ((rd_T36 l0 x3_1).f4)] 36 (0, 0)) (by (with_reducible repeat (first | refine blk_drewN ?_ _ | refine blk_drew ?_ | refine blk_alloc ?_ _)); exact BK103.out) hb)
           have n1_ := Aside0.mk (below_step (by repeat (first | (with_reducible first | exact HB.out | apply below_alloc | apply pw_below_drewN | apply below_drew1 | refine below_set ?_ GE103.out) | exact HB.out)) hb)
           clear BK103; clear HB
           have BK103 := n0_
           have HB := n1_
           clear n0_ n1_
           (try clear hb)
           (try clear hb2)
           (try clear hk)
           (try clear hi)
           refine hK.out _ _ ⟨(blk_cell BK103.out 0).trans rfl, (blk_cell BK103.out 1).trans rfl, (blk_cell BK103.out 2).trans rfl, (blk_cell BK103.out 3).trans rfl, (blk_cell BK103.out 4).trans rfl⟩ (fun hHeld => ?_)
           clear hK K
           refine norm_ (a' := ?_) ?_ ?_
           rotate_left; · (show Act.put _ (some 41) _ = _; simp only [Act.put, q1, q2, q3, i64_w, i32_w]; rfl)
           refine qA 26 (some 42) (bl [27, 24]) HT_ ?_
           refine qA 27 (some 43) (bl [28, 23]) HT_ ?_
           refine qA 28 (some 44) (bl [29, 22]) HT_ ?_
           refine qA 29 (some 45) (bl [30, 21]) HT_ ?_
           refine qA 31 (some 47) (bl [30, 1, 1, 19]) HT_ ?_
           refine qT 30 (some 46) (bl [32, 19]) HT_ HW_ hHeld ?_
           refine qT 32 (some 48) (bl [33, 18]) HT_ HW_ hHeld ?_
           refine qA 33 (some 49) (bl [34, 17]) HT_ ?_
           refine one_ (i := 34) (N := some 50) (bl [35, 16]) rfl rfl (one_of HT_.out (by kernel_rfl)) (by decide) (fun K hK => ?_)
           refine goes_ Try.func114 (by kernel_rfl) rfl #[.agg #[.int .i64 ((rd_T36 l0 x3_1).f3), .int .i64 ((rd_T36 l0 x3_1).f4)]] (by rfl) rfl rfl (by (try simp only [List.map_toArray, List.map_cons, List.map_nil]); first | done | rfl | (simp only [List.length_drop, List.length_take]; rfl)) ?_
           with_reducible refine (syllabaryref21_Inside.calls ((rd_T36 l0 x3_1).f3) ((rd_T36 l0 x3_1).f4) true _ A38.out).mono ?_
           rintro e w44 ⟨rfl, hb⟩
           refine ⟨_, rfl, ?_⟩
           have n0_ := Aside0.mk (blk_below (g := gb103) (o := .cells #[.int .u8 ((rd_T36 l0 x3_1).f0), .int .i64 ((rd_T36 l0 x3_1).f1), .int .i64 ((rd_T36 l0 x3_1).f2), .int .i64 ((rd_T36 l0 x3_1).f3), .int .i64 ((rd_T36 l0 x3_1).f4)] 36 (0, 0)) (by (with_reducible repeat (first | refine blk_drewN ?_ _ | refine blk_drew ?_ | refine blk_alloc ?_ _)); exact BK103.out) hb)
           have n1_ := Aside0.mk (below_step (by repeat (first | (with_reducible first | exact HB.out | apply below_alloc | apply pw_below_drewN | apply below_drew1 | refine below_set ?_ GE103.out) | exact HB.out)) hb)
           clear BK103; clear HB
           have BK103 := n0_
           have HB := n1_
           clear n0_ n1_
           (try clear hb)
           (try clear hb2)
           (try clear hk)
           (try clear hi)
           refine hK.out _ _ ⟨(blk_cell BK103.out 0).trans rfl, (blk_cell BK103.out 1).trans rfl, (blk_cell BK103.out 2).trans rfl, (blk_cell BK103.out 3).trans rfl, (blk_cell BK103.out 4).trans rfl⟩ (fun hHeld => ?_)
           clear hK K
           refine norm_ (a' := ?_) ?_ ?_
           rotate_left; · (show Act.put _ (some 50) _ = _; simp only [Act.put, q1, q2, q3, i64_w, i32_w]; rfl)
           refine qA 35 (some 51) (bl [36, 15]) HT_ ?_
           refine qA 36 (some 52) (bl [37, 14]) HT_ ?_
           refine qA 37 (some 53) (bl [38, 13]) HT_ ?_
           refine qA 38 (some 54) (bl [39, 12]) HT_ ?_
           refine qA 40 (some 56) (bl [39, 1, 1, 10]) HT_ ?_
           refine qT 39 (some 55) (bl [41, 10]) HT_ HW_ hHeld ?_
           refine qT 41 (some 57) (bl [42, 9]) HT_ HW_ hHeld ?_
           refine qA 42 (some 58) (bl [43, 8]) HT_ ?_
           refine qA 43 (some 59) (bl [44, 7]) HT_ ?_
           refine qA 44 (some 60) (bl [45, 6]) HT_ ?_
           refine qO 45 (some 61) (bl [46, 5]) HT_ ?_
           refine qO 46 (some 62) (bl [47, 4]) HT_ ?_
           refine qO 47 (some 63) (bl [48, 3]) HT_ ?_
           refine qO 48 (some 64) (bl [49, 2]) HT_ ?_
           refine qO 49 (some 65) (bl [50, 1]) HT_ ?_
           refine qA 50 (some 66) (bl [51]) HT_ ?_
           refine done_ (done_of HT_.out (by kernel_rfl)) ?_
           try go_wp2
           go_meet
           case rel => exact ⟨_, (true), (by first | rfl | (simp; done) | (simp [*]; done)), H', ⟨by have := HK1.out; first | omega | exact Nat.le_refl _⟩, ⟨by (with_reducible repeat (first | refine blk_drewN ?_ _ | refine blk_drew ?_ | refine blk_alloc ?_ _)); exact BK103.out⟩, ⟨by repeat (first | (with_reducible first | exact HB.out | apply below_alloc | apply pw_below_drewN | apply below_drew1 | refine below_set ?_ GE103.out) | exact HB.out)⟩⟩
          ·
           rw [if_neg c40] at H
           have c40b0 : decide (((rd_T36 l0 x3_1).f3) < ((rd_T36 l0 x3_1).f1)) = false := decide_eq_false c40
           clear c40
           have H' := Aside0.mk H
           clear H
           try go_wp2
           have n0_ : Aside0 ((((((w5.setCell ⟨gb103, 0, none⟩ (.int .u8 ((rd_T36 l0 x3_1).f0))).setCell ⟨gb103, 1, none⟩ (.int .i64 ((rd_T36 l0 x3_1).f1))).setCell ⟨gb103, 2, none⟩ (.int .i64 ((rd_T36 l0 x3_1).f2))).setCell ⟨gb103, 3, none⟩ (.int .i64 ((rd_T36 l0 x3_1).f3))).setCell ⟨gb103, 4, none⟩ (.int .i64 ((rd_T36 l0 x3_1).f4))).heap[gb103]? = some (.cells #[.int .u8 ((rd_T36 l0 x3_1).f0), .int .i64 ((rd_T36 l0 x3_1).f1), .int .i64 ((rd_T36 l0 x3_1).f2), .int .i64 ((rd_T36 l0 x3_1).f3), .int .i64 ((rd_T36 l0 x3_1).f4)] 36 (0, 0))) := ⟨by (with_reducible repeat (first | refine blk_drewN ?_ _ | refine blk_drew ?_ | refine blk_alloc ?_ _)); refine blk_put (cs := #[.int .u8 ((rd_T36 l0 x3_1).f0), .int .i64 ((rd_T36 l0 x3_1).f1), .int .i64 ((rd_T36 l0 x3_1).f2), .int .i64 ((rd_T36 l0 x3_1).f3), .int .i64 0]) ?_ 4 _ rfl; (with_reducible repeat (first | refine blk_drewN ?_ _ | refine blk_drew ?_ | refine blk_alloc ?_ _)); refine blk_put (cs := #[.int .u8 ((rd_T36 l0 x3_1).f0), .int .i64 ((rd_T36 l0 x3_1).f1), .int .i64 ((rd_T36 l0 x3_1).f2), .int .i64 0, .int .i64 0]) ?_ 3 _ rfl; (with_reducible repeat (first | refine blk_drewN ?_ _ | refine blk_drew ?_ | refine blk_alloc ?_ _)); refine blk_put (cs := #[.int .u8 ((rd_T36 l0 x3_1).f0), .int .i64 ((rd_T36 l0 x3_1).f1), .int .i64 0, .int .i64 0, .int .i64 0]) ?_ 2 _ rfl; (with_reducible repeat (first | refine blk_drewN ?_ _ | refine blk_drew ?_ | refine blk_alloc ?_ _)); refine blk_put (cs := #[.int .u8 ((rd_T36 l0 x3_1).f0), .int .i64 0, .int .i64 0, .int .i64 0, .int .i64 0]) ?_ 1 _ rfl; (with_reducible repeat (first | refine blk_drewN ?_ _ | refine blk_drew ?_ | refine blk_alloc ?_ _)); refine blk_put (cs := #[.int .u8 0, .int .i64 0, .int .i64 0, .int .i64 0, .int .i64 0]) ?_ 0 _ rfl; (with_reducible repeat (first | refine blk_drewN ?_ _ | refine blk_drew ?_ | refine blk_alloc ?_ _)); exact BK103.out⟩
           have n1_ : Aside0 (Below w.heap.size w (((((w5.setCell ⟨gb103, 0, none⟩ (.int .u8 ((rd_T36 l0 x3_1).f0))).setCell ⟨gb103, 1, none⟩ (.int .i64 ((rd_T36 l0 x3_1).f1))).setCell ⟨gb103, 2, none⟩ (.int .i64 ((rd_T36 l0 x3_1).f2))).setCell ⟨gb103, 3, none⟩ (.int .i64 ((rd_T36 l0 x3_1).f3))).setCell ⟨gb103, 4, none⟩ (.int .i64 ((rd_T36 l0 x3_1).f4)))) := ⟨by repeat (first | (with_reducible first | exact HB.out | apply below_alloc | apply pw_below_drewN | apply below_drew1 | refine below_set ?_ GE103.out) | exact HB.out)⟩
           (try clear BK103)
           (try clear HB)
           generalize (((((w5.setCell ⟨gb103, 0, none⟩ (.int .u8 ((rd_T36 l0 x3_1).f0))).setCell ⟨gb103, 1, none⟩ (.int .i64 ((rd_T36 l0 x3_1).f1))).setCell ⟨gb103, 2, none⟩ (.int .i64 ((rd_T36 l0 x3_1).f2))).setCell ⟨gb103, 3, none⟩ (.int .i64 ((rd_T36 l0 x3_1).f3))).setCell ⟨gb103, 4, none⟩ (.int .i64 ((rd_T36 l0 x3_1).f4))) = w45 at n0_ n1_ ⊢
           have BK103 := n0_
           have HB := n1_
           clear n0_ n1_
           have n0_ := Aside0.mk (blk_drew BK103.out)
           have n1_ := Aside0.mk (below_drew1 HB.out)
           clear BK103; clear HB
           have BK103 := n0_
           have HB := n1_
           clear n0_ n1_
           refine start_ (n := 51) (S := fun w' => w'.cell? ⟨gb103, 0, none⟩ = some (.int .u8 ((rd_T36 l0 x3_1).f0)) ∧ w'.cell? ⟨gb103, 1, none⟩ = some (.int .i64 ((rd_T36 l0 x3_1).f1)) ∧ w'.cell? ⟨gb103, 2, none⟩ = some (.int .i64 ((rd_T36 l0 x3_1).f2)) ∧ w'.cell? ⟨gb103, 3, none⟩ = some (.int .i64 ((rd_T36 l0 x3_1).f3)) ∧ w'.cell? ⟨gb103, 4, none⟩ = some (.int .i64 ((rd_T36 l0 x3_1).f4))) (ds := []) (bl [0, 51]) (by kernel_rfl) rfl rfl ⟨(blk_cell BK103.out 0).trans rfl, (blk_cell BK103.out 1).trans rfl, (blk_cell BK103.out 2).trans rfl, (blk_cell BK103.out 3).trans rfl, (blk_cell BK103.out 4).trans rfl⟩ (fun hHeld => ?_); refine with_tabW syllabaryref21_areas.tab5 syllabaryref21_areas.bits5 (fun HT_ HW_ => ?_)
           generalize w45.drew = w46 at BK103 HB hHeld ⊢
           refine qA 0 (some 16) (bl [1, 50]) HT_ ?_
           refine qT 1 (some 17) (bl [2, 49]) HT_ HW_ hHeld ?_
           refine one_ (i := 2) (N := some 18) (bl [3, 48]) rfl rfl (one_of HT_.out (by kernel_rfl)) (by decide) (fun K hK => ?_)
           refine goes_ Try.func86 (by kernel_rfl) rfl #[.int .u8 ((rd_T36 l0 x3_1).f0)] (by rfl) rfl rfl (by (try simp only [List.map_toArray, List.map_cons, List.map_nil]); first | done | rfl | (simp only [List.length_drop, List.length_take]; rfl)) ?_
           with_reducible refine (syllabaryref21_Letter.calls ((rd_T36 l0 x3_1).f0) true _ A7.out).mono ?_
           rintro e w' ⟨rfl, ⟨nd, rfl⟩⟩
           refine ⟨_, rfl, ?_⟩
           refine hK.out _ _ ⟨(blk_cell BK103.out 0).trans rfl, (blk_cell BK103.out 1).trans rfl, (blk_cell BK103.out 2).trans rfl, (blk_cell BK103.out 3).trans rfl, (blk_cell BK103.out 4).trans rfl⟩ (fun hHeld => ?_)
           clear hK K
           refine norm_ (a' := ?_) ?_ ?_
           rotate_left; · (show Act.put _ (some 18) _ = _; simp only [Act.put, q1, q2, q3, i64_w, i32_w]; rfl)
           refine qA 3 (some 19) (bl [4, 47]) HT_ ?_
           refine qA 4 (some 20) (bl [5, 46]) HT_ ?_
           refine qA 5 (some 21) (bl [6, 45]) HT_ ?_
           refine qA 6 (some 22) (bl [7, 44]) HT_ ?_
           refine qA 7 (some 23) (bl [8, 43]) HT_ ?_
           refine qO 8 (some 24) (bl [9, 42]) HT_ ?_
           refine qO 9 (some 25) (bl [10, 41]) HT_ ?_
           refine qO 10 (some 26) (bl [11, 40]) HT_ ?_
           refine qO 11 (some 27) (bl [12, 39]) HT_ ?_
           refine qO 12 (some 28) (bl [13, 38]) HT_ ?_
           refine qO 13 (some 29) (bl [14, 37]) HT_ ?_
           refine qO 14 (some 30) (bl [15, 36]) HT_ ?_
           refine qO 15 (some 31) (bl [16, 35]) HT_ ?_
           refine qO 16 (some 32) (bl [17, 34]) HT_ ?_
           refine qA 17 (some 33) (bl [18, 33]) HT_ ?_
           refine qA 18 (some 34) (bl [19, 32]) HT_ ?_
           refine qA 19 (some 35) (bl [20, 31]) HT_ ?_
           refine qA 20 (some 36) (bl [21, 30]) HT_ ?_
           refine qA 22 (some 38) (bl [21, 1, 1, 28]) HT_ ?_
           refine qT 21 (some 37) (bl [23, 28]) HT_ HW_ hHeld ?_
           refine qT 23 (some 39) (bl [24, 27]) HT_ HW_ hHeld ?_
           refine qA 24 (some 40) (bl [25, 26]) HT_ ?_
           refine one_ (i := 25) (N := some 41) (bl [26, 25]) rfl rfl (one_of HT_.out (by kernel_rfl)) (by decide) (fun K hK => ?_)
           refine goes_ Try.func114 (by kernel_rfl) rfl #[.agg #[.int .i64 ((rd_T36 l0 x3_1).f1), .int .i64 ((rd_T36 l0 x3_1).f2)]] (by rfl) rfl rfl (by (try simp only [List.map_toArray, List.map_cons, List.map_nil]); first | done | rfl | (simp only [List.length_drop, List.length_take]; rfl)) ?_
           with_reducible refine (syllabaryref21_Inside.calls ((rd_T36 l0 x3_1).f1) ((rd_T36 l0 x3_1).f2) true _ A36.out).mono ?_
           rintro e w47 ⟨rfl, hb⟩
           refine ⟨_, rfl, ?_⟩
           have n0_ := Aside0.mk (blk_below (g := gb103) (o := .cells #[.int .u8 ((rd_T36 l0 x3_1).f0), .int .i64 ((rd_T36 l0 x3_1).f1), .int .i64 ((rd_T36 l0 x3_1).f2), .int .i64 ((rd_T36 l0 x3_1).f3), .int .i64 ((rd_T36 l0 x3_1).f4)] 36 (0, 0)) (by (with_reducible repeat (first | refine blk_drewN ?_ _ | refine blk_drew ?_ | refine blk_alloc ?_ _)); exact BK103.out) hb)
           have n1_ := Aside0.mk (below_step (by repeat (first | (with_reducible first | exact HB.out | apply below_alloc | apply pw_below_drewN | apply below_drew1 | refine below_set ?_ GE103.out) | exact HB.out)) hb)
           clear BK103; clear HB
           have BK103 := n0_
           have HB := n1_
           clear n0_ n1_
           (try clear hb)
           (try clear hb2)
           (try clear hk)
           (try clear hi)
           refine hK.out _ _ ⟨(blk_cell BK103.out 0).trans rfl, (blk_cell BK103.out 1).trans rfl, (blk_cell BK103.out 2).trans rfl, (blk_cell BK103.out 3).trans rfl, (blk_cell BK103.out 4).trans rfl⟩ (fun hHeld => ?_)
           clear hK K
           refine norm_ (a' := ?_) ?_ ?_
           rotate_left; · (show Act.put _ (some 41) _ = _; simp only [Act.put, q1, q2, q3, i64_w, i32_w]; rfl)
           refine qA 26 (some 42) (bl [27, 24]) HT_ ?_
           refine qA 27 (some 43) (bl [28, 23]) HT_ ?_
           refine qA 28 (some 44) (bl [29, 22]) HT_ ?_
           refine qA 29 (some 45) (bl [30, 21]) HT_ ?_
           refine qA 31 (some 47) (bl [30, 1, 1, 19]) HT_ ?_
           refine qT 30 (some 46) (bl [32, 19]) HT_ HW_ hHeld ?_
           refine qT 32 (some 48) (bl [33, 18]) HT_ HW_ hHeld ?_
           refine qA 33 (some 49) (bl [34, 17]) HT_ ?_
           refine one_ (i := 34) (N := some 50) (bl [35, 16]) rfl rfl (one_of HT_.out (by kernel_rfl)) (by decide) (fun K hK => ?_)
           refine goes_ Try.func114 (by kernel_rfl) rfl #[.agg #[.int .i64 ((rd_T36 l0 x3_1).f3), .int .i64 ((rd_T36 l0 x3_1).f4)]] (by rfl) rfl rfl (by (try simp only [List.map_toArray, List.map_cons, List.map_nil]); first | done | rfl | (simp only [List.length_drop, List.length_take]; rfl)) ?_
           with_reducible refine (syllabaryref21_Inside.calls ((rd_T36 l0 x3_1).f3) ((rd_T36 l0 x3_1).f4) true _ A38.out).mono ?_
           rintro e w48 ⟨rfl, hb⟩
           refine ⟨_, rfl, ?_⟩
           have n0_ := Aside0.mk (blk_below (g := gb103) (o := .cells #[.int .u8 ((rd_T36 l0 x3_1).f0), .int .i64 ((rd_T36 l0 x3_1).f1), .int .i64 ((rd_T36 l0 x3_1).f2), .int .i64 ((rd_T36 l0 x3_1).f3), .int .i64 ((rd_T36 l0 x3_1).f4)] 36 (0, 0)) (by (with_reducible repeat (first | refine blk_drewN ?_ _ | refine blk_drew ?_ | refine blk_alloc ?_ _)); exact BK103.out) hb)
           have n1_ := Aside0.mk (below_step (by repeat (first | (with_reducible first | exact HB.out | apply below_alloc | apply pw_below_drewN | apply below_drew1 | refine below_set ?_ GE103.out) | exact HB.out)) hb)
           clear BK103; clear HB
           have BK103 := n0_
           have HB := n1_
           clear n0_ n1_
           (try clear hb)
           (try clear hb2)
           (try clear hk)
           (try clear hi)
           refine hK.out _ _ ⟨(blk_cell BK103.out 0).trans rfl, (blk_cell BK103.out 1).trans rfl, (blk_cell BK103.out 2).trans rfl, (blk_cell BK103.out 3).trans rfl, (blk_cell BK103.out 4).trans rfl⟩ (fun hHeld => ?_)
           clear hK K
           refine norm_ (a' := ?_) ?_ ?_
           rotate_left; · (show Act.put _ (some 50) _ = _; simp only [Act.put, q1, q2, q3, i64_w, i32_w]; rfl)
           refine qA 35 (some 51) (bl [36, 15]) HT_ ?_
           refine qA 36 (some 52) (bl [37, 14]) HT_ ?_
           refine qA 37 (some 53) (bl [38, 13]) HT_ ?_
           refine qA 38 (some 54) (bl [39, 12]) HT_ ?_
           refine qA 40 (some 56) (bl [39, 1, 1, 10]) HT_ ?_
           refine qT 39 (some 55) (bl [41, 10]) HT_ HW_ hHeld ?_
           refine qT 41 (some 57) (bl [42, 9]) HT_ HW_ hHeld ?_
           refine qA 42 (some 58) (bl [43, 8]) HT_ ?_
           refine qA 43 (some 59) (bl [44, 7]) HT_ ?_
           refine qA 44 (some 60) (bl [45, 6]) HT_ ?_
           refine qA 45 (some 61) (bl [46, 5]) HT_ ?_
           refine qA 47 (some 63) (bl [46, 1, 1, 3]) HT_ ?_
           refine qT 46 (some 62) (bl [48, 3]) HT_ HW_ hHeld ?_
           refine qT 48 (some 64) (bl [49, 2]) HT_ HW_ hHeld ?_
           refine qA 49 (some 65) (bl [50, 1]) HT_ ?_
           refine qA 50 (some 66) (bl [51]) HT_ ?_
           refine done_ (done_of HT_.out (by kernel_rfl)) ?_
           try go_wp2
           go_meet
           case rel => exact ⟨_, (decide (((rd_T36 l0 x3_1).f2) > ((rd_T36 l0 x3_1).f4))), (by first | rfl | (simp; done) | (simp [*]; done)), H', ⟨by have := HK1.out; first | omega | exact Nat.le_refl _⟩, ⟨by (with_reducible repeat (first | refine blk_drewN ?_ _ | refine blk_drew ?_ | refine blk_alloc ?_ _)); exact BK103.out⟩, ⟨by repeat (first | (with_reducible first | exact HB.out | apply below_alloc | apply pw_below_drewN | apply below_drew1 | refine below_set ?_ GE103.out) | exact HB.out)⟩⟩
         ·
          replace c39 := Bool.eq_false_iff.mpr c39
          subst c39
          have H1 : (syllabaryref21_areas.j1 k1 l0 x3_1 true ((rd_T36 l0 x3_1).f0) ((rd_T36 l0 x3_1).f1) ((rd_T36 l0 x3_1).f2) ((rd_T36 l0 x3_1).f3) ((rd_T36 l0 x3_1).f4)) = some r := by rw [if_neg (show ¬ (false = true) by decide)] at H; exact H
          clear H
          have H := H1
          clear H1
          have H' := Aside0.mk H
          clear H
          try go_wp2
          have n0_ : Aside0 ((((((w5.setCell ⟨gb103, 0, none⟩ (.int .u8 ((rd_T36 l0 x3_1).f0))).setCell ⟨gb103, 1, none⟩ (.int .i64 ((rd_T36 l0 x3_1).f1))).setCell ⟨gb103, 2, none⟩ (.int .i64 ((rd_T36 l0 x3_1).f2))).setCell ⟨gb103, 3, none⟩ (.int .i64 ((rd_T36 l0 x3_1).f3))).setCell ⟨gb103, 4, none⟩ (.int .i64 ((rd_T36 l0 x3_1).f4))).heap[gb103]? = some (.cells #[.int .u8 ((rd_T36 l0 x3_1).f0), .int .i64 ((rd_T36 l0 x3_1).f1), .int .i64 ((rd_T36 l0 x3_1).f2), .int .i64 ((rd_T36 l0 x3_1).f3), .int .i64 ((rd_T36 l0 x3_1).f4)] 36 (0, 0))) := ⟨by (with_reducible repeat (first | refine blk_drewN ?_ _ | refine blk_drew ?_ | refine blk_alloc ?_ _)); refine blk_put (cs := #[.int .u8 ((rd_T36 l0 x3_1).f0), .int .i64 ((rd_T36 l0 x3_1).f1), .int .i64 ((rd_T36 l0 x3_1).f2), .int .i64 ((rd_T36 l0 x3_1).f3), .int .i64 0]) ?_ 4 _ rfl; (with_reducible repeat (first | refine blk_drewN ?_ _ | refine blk_drew ?_ | refine blk_alloc ?_ _)); refine blk_put (cs := #[.int .u8 ((rd_T36 l0 x3_1).f0), .int .i64 ((rd_T36 l0 x3_1).f1), .int .i64 ((rd_T36 l0 x3_1).f2), .int .i64 0, .int .i64 0]) ?_ 3 _ rfl; (with_reducible repeat (first | refine blk_drewN ?_ _ | refine blk_drew ?_ | refine blk_alloc ?_ _)); refine blk_put (cs := #[.int .u8 ((rd_T36 l0 x3_1).f0), .int .i64 ((rd_T36 l0 x3_1).f1), .int .i64 0, .int .i64 0, .int .i64 0]) ?_ 2 _ rfl; (with_reducible repeat (first | refine blk_drewN ?_ _ | refine blk_drew ?_ | refine blk_alloc ?_ _)); refine blk_put (cs := #[.int .u8 ((rd_T36 l0 x3_1).f0), .int .i64 0, .int .i64 0, .int .i64 0, .int .i64 0]) ?_ 1 _ rfl; (with_reducible repeat (first | refine blk_drewN ?_ _ | refine blk_drew ?_ | refine blk_alloc ?_ _)); refine blk_put (cs := #[.int .u8 0, .int .i64 0, .int .i64 0, .int .i64 0, .int .i64 0]) ?_ 0 _ rfl; (with_reducible repeat (first | refine blk_drewN ?_ _ | refine blk_drew ?_ | refine blk_alloc ?_ _)); exact BK103.out⟩
          have n1_ : Aside0 (Below w.heap.size w (((((w5.setCell ⟨gb103, 0, none⟩ (.int .u8 ((rd_T36 l0 x3_1).f0))).setCell ⟨gb103, 1, none⟩ (.int .i64 ((rd_T36 l0 x3_1).f1))).setCell ⟨gb103, 2, none⟩ (.int .i64 ((rd_T36 l0 x3_1).f2))).setCell ⟨gb103, 3, none⟩ (.int .i64 ((rd_T36 l0 x3_1).f3))).setCell ⟨gb103, 4, none⟩ (.int .i64 ((rd_T36 l0 x3_1).f4)))) := ⟨by repeat (first | (with_reducible first | exact HB.out | apply below_alloc | apply pw_below_drewN | apply below_drew1 | refine below_set ?_ GE103.out) | exact HB.out)⟩
          (try clear BK103)
          (try clear HB)
          generalize (((((w5.setCell ⟨gb103, 0, none⟩ (.int .u8 ((rd_T36 l0 x3_1).f0))).setCell ⟨gb103, 1, none⟩ (.int .i64 ((rd_T36 l0 x3_1).f1))).setCell ⟨gb103, 2, none⟩ (.int .i64 ((rd_T36 l0 x3_1).f2))).setCell ⟨gb103, 3, none⟩ (.int .i64 ((rd_T36 l0 x3_1).f3))).setCell ⟨gb103, 4, none⟩ (.int .i64 ((rd_T36 l0 x3_1).f4))) = w49 at n0_ n1_ ⊢
          have BK103 := n0_
          have HB := n1_
          clear n0_ n1_
          have n0_ := Aside0.mk (blk_drew BK103.out)
          have n1_ := Aside0.mk (below_drew1 HB.out)
          clear BK103; clear HB
          have BK103 := n0_
          have HB := n1_
          clear n0_ n1_
          refine start_ (n := 51) (S := fun w' => w'.cell? ⟨gb103, 0, none⟩ = some (.int .u8 ((rd_T36 l0 x3_1).f0)) ∧ w'.cell? ⟨gb103, 1, none⟩ = some (.int .i64 ((rd_T36 l0 x3_1).f1)) ∧ w'.cell? ⟨gb103, 2, none⟩ = some (.int .i64 ((rd_T36 l0 x3_1).f2)) ∧ w'.cell? ⟨gb103, 3, none⟩ = some (.int .i64 ((rd_T36 l0 x3_1).f3)) ∧ w'.cell? ⟨gb103, 4, none⟩ = some (.int .i64 ((rd_T36 l0 x3_1).f4))) (ds := []) (bl [0, 51]) (by kernel_rfl) rfl rfl ⟨(blk_cell BK103.out 0).trans rfl, (blk_cell BK103.out 1).trans rfl, (blk_cell BK103.out 2).trans rfl, (blk_cell BK103.out 3).trans rfl, (blk_cell BK103.out 4).trans rfl⟩ (fun hHeld => ?_); refine with_tabW syllabaryref21_areas.tab5 syllabaryref21_areas.bits5 (fun HT_ HW_ => ?_)
          generalize w49.drew = w50 at BK103 HB hHeld ⊢
          refine qA 0 (some 16) (bl [1, 50]) HT_ ?_
          refine qT 1 (some 17) (bl [2, 49]) HT_ HW_ hHeld ?_
          refine one_ (i := 2) (N := some 18) (bl [3, 48]) rfl rfl (one_of HT_.out (by kernel_rfl)) (by decide) (fun K hK => ?_)
          refine goes_ Try.func86 (by kernel_rfl) rfl #[.int .u8 ((rd_T36 l0 x3_1).f0)] (by rfl) rfl rfl (by (try simp only [List.map_toArray, List.map_cons, List.map_nil]); first | done | rfl | (simp only [List.length_drop, List.length_take]; rfl)) ?_
          with_reducible refine (syllabaryref21_Letter.calls ((rd_T36 l0 x3_1).f0) true _ A7.out).mono ?_
          rintro e w' ⟨rfl, ⟨nd, rfl⟩⟩
          refine ⟨_, rfl, ?_⟩
          refine hK.out _ _ ⟨(blk_cell BK103.out 0).trans rfl, (blk_cell BK103.out 1).trans rfl, (blk_cell BK103.out 2).trans rfl, (blk_cell BK103.out 3).trans rfl, (blk_cell BK103.out 4).trans rfl⟩ (fun hHeld => ?_)
          clear hK K
          refine norm_ (a' := ?_) ?_ ?_
          rotate_left; · (show Act.put _ (some 18) _ = _; simp only [Act.put, q1, q2, q3, i64_w, i32_w]; rfl)
          refine qA 3 (some 19) (bl [4, 47]) HT_ ?_
          refine qA 4 (some 20) (bl [5, 46]) HT_ ?_
          refine qA 5 (some 21) (bl [6, 45]) HT_ ?_
          refine qA 6 (some 22) (bl [7, 44]) HT_ ?_
          refine qA 7 (some 23) (bl [8, 43]) HT_ ?_
          refine qO 8 (some 24) (bl [9, 42]) HT_ ?_
          refine qO 9 (some 25) (bl [10, 41]) HT_ ?_
          refine qO 10 (some 26) (bl [11, 40]) HT_ ?_
          refine qO 11 (some 27) (bl [12, 39]) HT_ ?_
          refine qO 12 (some 28) (bl [13, 38]) HT_ ?_
          refine qO 13 (some 29) (bl [14, 37]) HT_ ?_
          refine qO 14 (some 30) (bl [15, 36]) HT_ ?_
          refine qO 15 (some 31) (bl [16, 35]) HT_ ?_
          refine qO 16 (some 32) (bl [17, 34]) HT_ ?_
          refine qA 17 (some 33) (bl [18, 33]) HT_ ?_
          refine qA 18 (some 34) (bl [19, 32]) HT_ ?_
          refine qA 19 (some 35) (bl [20, 31]) HT_ ?_
          refine qA 20 (some 36) (bl [21, 30]) HT_ ?_
          refine qA 22 (some 38) (bl [21, 1, 1, 28]) HT_ ?_
          refine qT 21 (some 37) (bl [23, 28]) HT_ HW_ hHeld ?_
          refine qT 23 (some 39) (bl [24, 27]) HT_ HW_ hHeld ?_
          refine qA 24 (some 40) (bl [25, 26]) HT_ ?_
          refine one_ (i := 25) (N := some 41) (bl [26, 25]) rfl rfl (one_of HT_.out (by kernel_rfl)) (by decide) (fun K hK => ?_)
          refine goes_ Try.func114 (by kernel_rfl) rfl #[.agg #[.int .i64 ((rd_T36 l0 x3_1).f1), .int .i64 ((rd_T36 l0 x3_1).f2)]] (by rfl) rfl rfl (by (try simp only [List.map_toArray, List.map_cons, List.map_nil]); first | done | rfl | (simp only [List.length_drop, List.length_take]; rfl)) ?_
          with_reducible refine (syllabaryref21_Inside.calls ((rd_T36 l0 x3_1).f1) ((rd_T36 l0 x3_1).f2) true _ A36.out).mono ?_
          rintro e w51 ⟨rfl, hb⟩
          refine ⟨_, rfl, ?_⟩
          have n0_ := Aside0.mk (blk_below (g := gb103) (o := .cells #[.int .u8 ((rd_T36 l0 x3_1).f0), .int .i64 ((rd_T36 l0 x3_1).f1), .int .i64 ((rd_T36 l0 x3_1).f2), .int .i64 ((rd_T36 l0 x3_1).f3), .int .i64 ((rd_T36 l0 x3_1).f4)] 36 (0, 0)) (by (with_reducible repeat (first | refine blk_drewN ?_ _ | refine blk_drew ?_ | refine blk_alloc ?_ _)); exact BK103.out) hb)
          have n1_ := Aside0.mk (below_step (by repeat (first | (with_reducible first | exact HB.out | apply below_alloc | apply pw_below_drewN | apply below_drew1 | refine below_set ?_ GE103.out) | exact HB.out)) hb)
          clear BK103; clear HB
          have BK103 := n0_
          have HB := n1_
          clear n0_ n1_
          (try clear hb)
          (try clear hb2)
          (try clear hk)
          (try clear hi)
          refine hK.out _ _ ⟨(blk_cell BK103.out 0).trans rfl, (blk_cell BK103.out 1).trans rfl, (blk_cell BK103.out 2).trans rfl, (blk_cell BK103.out 3).trans rfl, (blk_cell BK103.out 4).trans rfl⟩ (fun hHeld => ?_)
          clear hK K
          refine norm_ (a' := ?_) ?_ ?_
          rotate_left; · (show Act.put _ (some 41) _ = _; simp only [Act.put, q1, q2, q3, i64_w, i32_w]; rfl)
          refine qA 26 (some 42) (bl [27, 24]) HT_ ?_
          refine qA 27 (some 43) (bl [28, 23]) HT_ ?_
          refine qA 28 (some 44) (bl [29, 22]) HT_ ?_
          refine qA 29 (some 45) (bl [30, 21]) HT_ ?_
          refine qA 31 (some 47) (bl [30, 1, 1, 19]) HT_ ?_
          refine qT 30 (some 46) (bl [32, 19]) HT_ HW_ hHeld ?_
          refine qT 32 (some 48) (bl [33, 18]) HT_ HW_ hHeld ?_
          refine qA 33 (some 49) (bl [34, 17]) HT_ ?_
          refine one_ (i := 34) (N := some 50) (bl [35, 16]) rfl rfl (one_of HT_.out (by kernel_rfl)) (by decide) (fun K hK => ?_)
          refine goes_ Try.func114 (by kernel_rfl) rfl #[.agg #[.int .i64 ((rd_T36 l0 x3_1).f3), .int .i64 ((rd_T36 l0 x3_1).f4)]] (by rfl) rfl rfl (by (try simp only [List.map_toArray, List.map_cons, List.map_nil]); first | done | rfl | (simp only [List.length_drop, List.length_take]; rfl)) ?_
          with_reducible refine (syllabaryref21_Inside.calls ((rd_T36 l0 x3_1).f3) ((rd_T36 l0 x3_1).f4) false _ A38.out).mono ?_
          rintro e w52 ⟨rfl, hb⟩
          refine ⟨_, rfl, ?_⟩
          have n0_ := Aside0.mk (blk_below (g := gb103) (o := .cells #[.int .u8 ((rd_T36 l0 x3_1).f0), .int .i64 ((rd_T36 l0 x3_1).f1), .int .i64 ((rd_T36 l0 x3_1).f2), .int .i64 ((rd_T36 l0 x3_1).f3), .int .i64 ((rd_T36 l0 x3_1).f4)] 36 (0, 0)) (by (with_reducible repeat (first | refine blk_drewN ?_ _ | refine blk_drew ?_ | refine blk_alloc ?_ _)); exact BK103.out) hb)
          have n1_ := Aside0.mk (below_step (by repeat (first | (with_reducible first | exact HB.out | apply below_alloc | apply pw_below_drewN | apply below_drew1 | refine below_set ?_ GE103.out) | exact HB.out)) hb)
          clear BK103; clear HB
          have BK103 := n0_
          have HB := n1_
          clear n0_ n1_
          (try clear hb)
          (try clear hb2)
          (try clear hk)
          (try clear hi)
          refine hK.out _ _ ⟨(blk_cell BK103.out 0).trans rfl, (blk_cell BK103.out 1).trans rfl, (blk_cell BK103.out 2).trans rfl, (blk_cell BK103.out 3).trans rfl, (blk_cell BK103.out 4).trans rfl⟩ (fun hHeld => ?_)
          clear hK K
          refine norm_ (a' := ?_) ?_ ?_
          rotate_left; · (show Act.put _ (some 50) _ = _; simp only [Act.put, q1, q2, q3, i64_w, i32_w]; rfl)
          refine qA 35 (some 51) (bl [36, 15]) HT_ ?_
          refine qA 36 (some 52) (bl [37, 14]) HT_ ?_
          refine qA 37 (some 53) (bl [38, 13]) HT_ ?_
          refine qO 38 (some 54) (bl [39, 12]) HT_ ?_
          refine qO 39 (some 55) (bl [40, 11]) HT_ ?_
          refine qO 40 (some 56) (bl [41, 10]) HT_ ?_
          refine qO 41 (some 57) (bl [42, 9]) HT_ ?_
          refine qO 42 (some 58) (bl [43, 8]) HT_ ?_
          refine qA 43 (some 59) (bl [44, 7]) HT_ ?_
          refine qA 44 (some 60) (bl [45, 6]) HT_ ?_
          refine qO 45 (some 61) (bl [46, 5]) HT_ ?_
          refine qO 46 (some 62) (bl [47, 4]) HT_ ?_
          refine qO 47 (some 63) (bl [48, 3]) HT_ ?_
          refine qO 48 (some 64) (bl [49, 2]) HT_ ?_
          refine qO 49 (some 65) (bl [50, 1]) HT_ ?_
          refine qA 50 (some 66) (bl [51]) HT_ ?_
          refine done_ (done_of HT_.out (by kernel_rfl)) ?_
          try go_wp2
          go_meet
          case rel => exact ⟨_, (true), (by first | rfl | (simp; done) | (simp [*]; done)), H', ⟨by have := HK1.out; first | omega | exact Nat.le_refl _⟩, ⟨by (with_reducible repeat (first | refine blk_drewN ?_ _ | refine blk_drew ?_ | refine blk_alloc ?_ _)); exact BK103.out⟩, ⟨by repeat (first | (with_reducible first | exact HB.out | apply below_alloc | apply pw_below_drewN | apply below_drew1 | refine below_set ?_ GE103.out) | exact HB.out)⟩⟩
        ·
         replace c37 := Bool.eq_false_iff.mpr c37
         subst c37
         have H1 : (syllabaryref21_areas.j1 k1 l0 x3_1 true ((rd_T36 l0 x3_1).f0) ((rd_T36 l0 x3_1).f1) ((rd_T36 l0 x3_1).f2) ((rd_T36 l0 x3_1).f3) ((rd_T36 l0 x3_1).f4)) = some r := by rw [if_neg (show ¬ (false = true) by decide)] at H; exact H
         clear H
         have H := H1
         clear H1
         have H' := Aside0.mk H
         clear H
         try go_wp2
         have n0_ : Aside0 ((((((w5.setCell ⟨gb103, 0, none⟩ (.int .u8 ((rd_T36 l0 x3_1).f0))).setCell ⟨gb103, 1, none⟩ (.int .i64 ((rd_T36 l0 x3_1).f1))).setCell ⟨gb103, 2, none⟩ (.int .i64 ((rd_T36 l0 x3_1).f2))).setCell ⟨gb103, 3, none⟩ (.int .i64 ((rd_T36 l0 x3_1).f3))).setCell ⟨gb103, 4, none⟩ (.int .i64 ((rd_T36 l0 x3_1).f4))).heap[gb103]? = some (.cells #[.int .u8 ((rd_T36 l0 x3_1).f0), .int .i64 ((rd_T36 l0 x3_1).f1), .int .i64 ((rd_T36 l0 x3_1).f2), .int .i64 ((rd_T36 l0 x3_1).f3), .int .i64 ((rd_T36 l0 x3_1).f4)] 36 (0, 0))) := ⟨by (with_reducible repeat (first | refine blk_drewN ?_ _ | refine blk_drew ?_ | refine blk_alloc ?_ _)); refine blk_put (cs := #[.int .u8 ((rd_T36 l0 x3_1).f0), .int .i64 ((rd_T36 l0 x3_1).f1), .int .i64 ((rd_T36 l0 x3_1).f2), .int .i64 ((rd_T36 l0 x3_1).f3), .int .i64 0]) ?_ 4 _ rfl; (with_reducible repeat (first | refine blk_drewN ?_ _ | refine blk_drew ?_ | refine blk_alloc ?_ _)); refine blk_put (cs := #[.int .u8 ((rd_T36 l0 x3_1).f0), .int .i64 ((rd_T36 l0 x3_1).f1), .int .i64 ((rd_T36 l0 x3_1).f2), .int .i64 0, .int .i64 0]) ?_ 3 _ rfl; (with_reducible repeat (first | refine blk_drewN ?_ _ | refine blk_drew ?_ | refine blk_alloc ?_ _)); refine blk_put (cs := #[.int .u8 ((rd_T36 l0 x3_1).f0), .int .i64 ((rd_T36 l0 x3_1).f1), .int .i64 0, .int .i64 0, .int .i64 0]) ?_ 2 _ rfl; (with_reducible repeat (first | refine blk_drewN ?_ _ | refine blk_drew ?_ | refine blk_alloc ?_ _)); refine blk_put (cs := #[.int .u8 ((rd_T36 l0 x3_1).f0), .int .i64 0, .int .i64 0, .int .i64 0, .int .i64 0]) ?_ 1 _ rfl; (with_reducible repeat (first | refine blk_drewN ?_ _ | refine blk_drew ?_ | refine blk_alloc ?_ _)); refine blk_put (cs := #[.int .u8 0, .int .i64 0, .int .i64 0, .int .i64 0, .int .i64 0]) ?_ 0 _ rfl; (with_reducible repeat (first | refine blk_drewN ?_ _ | refine blk_drew ?_ | refine blk_alloc ?_ _)); exact BK103.out⟩
         have n1_ : Aside0 (Below w.heap.size w (((((w5.setCell ⟨gb103, 0, none⟩ (.int .u8 ((rd_T36 l0 x3_1).f0))).setCell ⟨gb103, 1, none⟩ (.int .i64 ((rd_T36 l0 x3_1).f1))).setCell ⟨gb103, 2, none⟩ (.int .i64 ((rd_T36 l0 x3_1).f2))).setCell ⟨gb103, 3, none⟩ (.int .i64 ((rd_T36 l0 x3_1).f3))).setCell ⟨gb103, 4, none⟩ (.int .i64 ((rd_T36 l0 x3_1).f4)))) := ⟨by repeat (first | (with_reducible first | exact HB.out | apply below_alloc | apply pw_below_drewN | apply below_drew1 | refine below_set ?_ GE103.out) | exact HB.out)⟩
         (try clear BK103)
         (try clear HB)
         generalize (((((w5.setCell ⟨gb103, 0, none⟩ (.int .u8 ((rd_T36 l0 x3_1).f0))).setCell ⟨gb103, 1, none⟩ (.int .i64 ((rd_T36 l0 x3_1).f1))).setCell ⟨gb103, 2, none⟩ (.int .i64 ((rd_T36 l0 x3_1).f2))).setCell ⟨gb103, 3, none⟩ (.int .i64 ((rd_T36 l0 x3_1).f3))).setCell ⟨gb103, 4, none⟩ (.int .i64 ((rd_T36 l0 x3_1).f4))) = w53 at n0_ n1_ ⊢
         have BK103 := n0_
         have HB := n1_
         clear n0_ n1_
         have n0_ := Aside0.mk (blk_drew BK103.out)
         have n1_ := Aside0.mk (below_drew1 HB.out)
         clear BK103; clear HB
         have BK103 := n0_
         have HB := n1_
         clear n0_ n1_
         refine start_ (n := 51) (S := fun w' => w'.cell? ⟨gb103, 0, none⟩ = some (.int .u8 ((rd_T36 l0 x3_1).f0)) ∧ w'.cell? ⟨gb103, 1, none⟩ = some (.int .i64 ((rd_T36 l0 x3_1).f1)) ∧ w'.cell? ⟨gb103, 2, none⟩ = some (.int .i64 ((rd_T36 l0 x3_1).f2)) ∧ w'.cell? ⟨gb103, 3, none⟩ = some (.int .i64 ((rd_T36 l0 x3_1).f3)) ∧ w'.cell? ⟨gb103, 4, none⟩ = some (.int .i64 ((rd_T36 l0 x3_1).f4))) (ds := []) (bl [0, 51]) (by kernel_rfl) rfl rfl ⟨(blk_cell BK103.out 0).trans rfl, (blk_cell BK103.out 1).trans rfl, (blk_cell BK103.out 2).trans rfl, (blk_cell BK103.out 3).trans rfl, (blk_cell BK103.out 4).trans rfl⟩ (fun hHeld => ?_); refine with_tabW syllabaryref21_areas.tab5 syllabaryref21_areas.bits5 (fun HT_ HW_ => ?_)
         generalize w53.drew = w54 at BK103 HB hHeld ⊢
         refine qA 0 (some 16) (bl [1, 50]) HT_ ?_
         refine qT 1 (some 17) (bl [2, 49]) HT_ HW_ hHeld ?_
         refine one_ (i := 2) (N := some 18) (bl [3, 48]) rfl rfl (one_of HT_.out (by kernel_rfl)) (by decide) (fun K hK => ?_)
         refine goes_ Try.func86 (by kernel_rfl) rfl #[.int .u8 ((rd_T36 l0 x3_1).f0)] (by rfl) rfl rfl (by (try simp only [List.map_toArray, List.map_cons, List.map_nil]); first | done | rfl | (simp only [List.length_drop, List.length_take]; rfl)) ?_
         with_reducible refine (syllabaryref21_Letter.calls ((rd_T36 l0 x3_1).f0) true _ A7.out).mono ?_
         rintro e w' ⟨rfl, ⟨nd, rfl⟩⟩
         refine ⟨_, rfl, ?_⟩
         refine hK.out _ _ ⟨(blk_cell BK103.out 0).trans rfl, (blk_cell BK103.out 1).trans rfl, (blk_cell BK103.out 2).trans rfl, (blk_cell BK103.out 3).trans rfl, (blk_cell BK103.out 4).trans rfl⟩ (fun hHeld => ?_)
         clear hK K
         refine norm_ (a' := ?_) ?_ ?_
         rotate_left; · (show Act.put _ (some 18) _ = _; simp only [Act.put, q1, q2, q3, i64_w, i32_w]; rfl)
         refine qA 3 (some 19) (bl [4, 47]) HT_ ?_
         refine qA 4 (some 20) (bl [5, 46]) HT_ ?_
         refine qA 5 (some 21) (bl [6, 45]) HT_ ?_
         refine qA 6 (some 22) (bl [7, 44]) HT_ ?_
         refine qA 7 (some 23) (bl [8, 43]) HT_ ?_
         refine qO 8 (some 24) (bl [9, 42]) HT_ ?_
         refine qO 9 (some 25) (bl [10, 41]) HT_ ?_
         refine qO 10 (some 26) (bl [11, 40]) HT_ ?_
         refine qO 11 (some 27) (bl [12, 39]) HT_ ?_
         refine qO 12 (some 28) (bl [13, 38]) HT_ ?_
         refine qO 13 (some 29) (bl [14, 37]) HT_ ?_
         refine qO 14 (some 30) (bl [15, 36]) HT_ ?_
         refine qO 15 (some 31) (bl [16, 35]) HT_ ?_
         refine qO 16 (some 32) (bl [17, 34]) HT_ ?_
         refine qA 17 (some 33) (bl [18, 33]) HT_ ?_
         refine qA 18 (some 34) (bl [19, 32]) HT_ ?_
         refine qA 19 (some 35) (bl [20, 31]) HT_ ?_
         refine qA 20 (some 36) (bl [21, 30]) HT_ ?_
         refine qA 22 (some 38) (bl [21, 1, 1, 28]) HT_ ?_
         refine qT 21 (some 37) (bl [23, 28]) HT_ HW_ hHeld ?_
         refine qT 23 (some 39) (bl [24, 27]) HT_ HW_ hHeld ?_
         refine qA 24 (some 40) (bl [25, 26]) HT_ ?_
         refine one_ (i := 25) (N := some 41) (bl [26, 25]) rfl rfl (one_of HT_.out (by kernel_rfl)) (by decide) (fun K hK => ?_)
         refine goes_ Try.func114 (by kernel_rfl) rfl #[.agg #[.int .i64 ((rd_T36 l0 x3_1).f1), .int .i64 ((rd_T36 l0 x3_1).f2)]] (by rfl) rfl rfl (by (try simp only [List.map_toArray, List.map_cons, List.map_nil]); first | done | rfl | (simp only [List.length_drop, List.length_take]; rfl)) ?_
         with_reducible refine (syllabaryref21_Inside.calls ((rd_T36 l0 x3_1).f1) ((rd_T36 l0 x3_1).f2) false _ A36.out).mono ?_
         rintro e w55 ⟨rfl, hb⟩
         refine ⟨_, rfl, ?_⟩
         have n0_ := Aside0.mk (blk_below (g := gb103) (o := .cells #[.int .u8 ((rd_T36 l0 x3_1).f0), .int .i64 ((rd_T36 l0 x3_1).f1), .int .i64 ((rd_T36 l0 x3_1).f2), .int .i64 ((rd_T36 l0 x3_1).f3), .int .i64 ((rd_T36 l0 x3_1).f4)] 36 (0, 0)) (by (with_reducible repeat (first | refine blk_drewN ?_ _ | refine blk_drew ?_ | refine blk_alloc ?_ _)); exact BK103.out) hb)
         have n1_ := Aside0.mk (below_step (by repeat (first | (with_reducible first | exact HB.out | apply below_alloc | apply pw_below_drewN | apply below_drew1 | refine below_set ?_ GE103.out) | exact HB.out)) hb)
         clear BK103; clear HB
         have BK103 := n0_
         have HB := n1_
         clear n0_ n1_
         (try clear hb)
         (try clear hb2)
         (try clear hk)
         (try clear hi)
         refine hK.out _ _ ⟨(blk_cell BK103.out 0).trans rfl, (blk_cell BK103.out 1).trans rfl, (blk_cell BK103.out 2).trans rfl, (blk_cell BK103.out 3).trans rfl, (blk_cell BK103.out 4).trans rfl⟩ (fun hHeld => ?_)
         clear hK K
         refine norm_ (a' := ?_) ?_ ?_
         rotate_left; · (show Act.put _ (some 41) _ = _; simp only [Act.put, q1, q2, q3, i64_w, i32_w]; rfl)
         refine qA 26 (some 42) (bl [27, 24]) HT_ ?_
         refine qA 27 (some 43) (bl [28, 23]) HT_ ?_
         refine qA 28 (some 44) (bl [29, 22]) HT_ ?_
         refine qO 29 (some 45) (bl [30, 21]) HT_ ?_
         refine qO 30 (some 46) (bl [31, 20]) HT_ ?_
         refine qO 31 (some 47) (bl [32, 19]) HT_ ?_
         refine qO 32 (some 48) (bl [33, 18]) HT_ ?_
         refine qO 33 (some 49) (bl [34, 17]) HT_ ?_
         refine qO 34 (some 50) (bl [35, 16]) HT_ ?_
         refine qO 35 (some 51) (bl [36, 15]) HT_ ?_
         refine qA 36 (some 52) (bl [37, 14]) HT_ ?_
         refine qA 37 (some 53) (bl [38, 13]) HT_ ?_
         refine qO 38 (some 54) (bl [39, 12]) HT_ ?_
         refine qO 39 (some 55) (bl [40, 11]) HT_ ?_
         refine qO 40 (some 56) (bl [41, 10]) HT_ ?_
         refine qO 41 (some 57) (bl [42, 9]) HT_ ?_
         refine qO 42 (some 58) (bl [43, 8]) HT_ ?_
         refine qA 43 (some 59) (bl [44, 7]) HT_ ?_
         refine qA 44 (some 60) (bl [45, 6]) HT_ ?_
         refine qO 45 (some 61) (bl [46, 5]) HT_ ?_
         refine qO 46 (some 62) (bl [47, 4]) HT_ ?_
         refine qO 47 (some 63) (bl [48, 3]) HT_ ?_
         refine qO 48 (some 64) (bl [49, 2]) HT_ ?_
         refine qO 49 (some 65) (bl [50, 1]) HT_ ?_
         refine qA 50 (some 66) (bl [51]) HT_ ?_
         refine done_ (done_of HT_.out (by kernel_rfl)) ?_
         try go_wp2
         go_meet
         case rel => exact ⟨_, (true), (by first | rfl | (simp; done) | (simp [*]; done)), H', ⟨by have := HK1.out; first | omega | exact Nat.le_refl _⟩, ⟨by (with_reducible repeat (first | refine blk_drewN ?_ _ | refine blk_drew ?_ | refine blk_alloc ?_ _)); exact BK103.out⟩, ⟨by repeat (first | (with_reducible first | exact HB.out | apply below_alloc | apply pw_below_drewN | apply below_drew1 | refine below_set ?_ GE103.out) | exact HB.out)⟩⟩
      ·
       replace c8 := Bool.eq_false_iff.mpr c8
       subst c8
       have H1 : (syllabaryref21_areas.j1 k1 l0 x3_1 true ((rd_T36 l0 x3_1).f0) ((rd_T36 l0 x3_1).f1) ((rd_T36 l0 x3_1).f2) ((rd_T36 l0 x3_1).f3) ((rd_T36 l0 x3_1).f4)) = some r := by rw [if_neg (show ¬ (false = true) by decide)] at H; exact H
       clear H
       have H := H1
       clear H1
       have H' := Aside0.mk H
       clear H
       try go_wp2
       have n0_ : Aside0 ((((((w5.setCell ⟨gb103, 0, none⟩ (.int .u8 ((rd_T36 l0 x3_1).f0))).setCell ⟨gb103, 1, none⟩ (.int .i64 ((rd_T36 l0 x3_1).f1))).setCell ⟨gb103, 2, none⟩ (.int .i64 ((rd_T36 l0 x3_1).f2))).setCell ⟨gb103, 3, none⟩ (.int .i64 ((rd_T36 l0 x3_1).f3))).setCell ⟨gb103, 4, none⟩ (.int .i64 ((rd_T36 l0 x3_1).f4))).heap[gb103]? = some (.cells #[.int .u8 ((rd_T36 l0 x3_1).f0), .int .i64 ((rd_T36 l0 x3_1).f1), .int .i64 ((rd_T36 l0 x3_1).f2), .int .i64 ((rd_T36 l0 x3_1).f3), .int .i64 ((rd_T36 l0 x3_1).f4)] 36 (0, 0))) := ⟨by (with_reducible repeat (first | refine blk_drewN ?_ _ | refine blk_drew ?_ | refine blk_alloc ?_ _)); refine blk_put (cs := #[.int .u8 ((rd_T36 l0 x3_1).f0), .int .i64 ((rd_T36 l0 x3_1).f1), .int .i64 ((rd_T36 l0 x3_1).f2), .int .i64 ((rd_T36 l0 x3_1).f3), .int .i64 0]) ?_ 4 _ rfl; (with_reducible repeat (first | refine blk_drewN ?_ _ | refine blk_drew ?_ | refine blk_alloc ?_ _)); refine blk_put (cs := #[.int .u8 ((rd_T36 l0 x3_1).f0), .int .i64 ((rd_T36 l0 x3_1).f1), .int .i64 ((rd_T36 l0 x3_1).f2), .int .i64 0, .int .i64 0]) ?_ 3 _ rfl; (with_reducible repeat (first | refine blk_drewN ?_ _ | refine blk_drew ?_ | refine blk_alloc ?_ _)); refine blk_put (cs := #[.int .u8 ((rd_T36 l0 x3_1).f0), .int .i64 ((rd_T36 l0 x3_1).f1), .int .i64 0, .int .i64 0, .int .i64 0]) ?_ 2 _ rfl; (with_reducible repeat (first | refine blk_drewN ?_ _ | refine blk_drew ?_ | refine blk_alloc ?_ _)); refine blk_put (cs := #[.int .u8 ((rd_T36 l0 x3_1).f0), .int .i64 0, .int .i64 0, .int .i64 0, .int .i64 0]) ?_ 1 _ rfl; (with_reducible repeat (first | refine blk_drewN ?_ _ | refine blk_drew ?_ | refine blk_alloc ?_ _)); refine blk_put (cs := #[.int .u8 0, .int .i64 0, .int .i64 0, .int .i64 0, .int .i64 0]) ?_ 0 _ rfl; (with_reducible repeat (first | refine blk_drewN ?_ _ | refine blk_drew ?_ | refine blk_alloc ?_ _)); exact BK103.out⟩
       have n1_ : Aside0 (Below w.heap.size w (((((w5.setCell ⟨gb103, 0, none⟩ (.int .u8 ((rd_T36 l0 x3_1).f0))).setCell ⟨gb103, 1, none⟩ (.int .i64 ((rd_T36 l0 x3_1).f1))).setCell ⟨gb103, 2, none⟩ (.int .i64 ((rd_T36 l0 x3_1).f2))).setCell ⟨gb103, 3, none⟩ (.int .i64 ((rd_T36 l0 x3_1).f3))).setCell ⟨gb103, 4, none⟩ (.int .i64 ((rd_T36 l0 x3_1).f4)))) := ⟨by repeat (first | (with_reducible first | exact HB.out | apply below_alloc | apply pw_below_drewN | apply below_drew1 | refine below_set ?_ GE103.out) | exact HB.out)⟩
       (try clear BK103)
       (try clear HB)
       generalize (((((w5.setCell ⟨gb103, 0, none⟩ (.int .u8 ((rd_T36 l0 x3_1).f0))).setCell ⟨gb103, 1, none⟩ (.int .i64 ((rd_T36 l0 x3_1).f1))).setCell ⟨gb103, 2, none⟩ (.int .i64 ((rd_T36 l0 x3_1).f2))).setCell ⟨gb103, 3, none⟩ (.int .i64 ((rd_T36 l0 x3_1).f3))).setCell ⟨gb103, 4, none⟩ (.int .i64 ((rd_T36 l0 x3_1).f4))) = w56 at n0_ n1_ ⊢
       have BK103 := n0_
       have HB := n1_
       clear n0_ n1_
       have n0_ := Aside0.mk (blk_drew BK103.out)
       have n1_ := Aside0.mk (below_drew1 HB.out)
       clear BK103; clear HB
       have BK103 := n0_
       have HB := n1_
       clear n0_ n1_
       refine start_ (n := 51) (S := fun w' => w'.cell? ⟨gb103, 0, none⟩ = some (.int .u8 ((rd_T36 l0 x3_1).f0)) ∧ w'.cell? ⟨gb103, 1, none⟩ = some (.int .i64 ((rd_T36 l0 x3_1).f1)) ∧ w'.cell? ⟨gb103, 2, none⟩ = some (.int .i64 ((rd_T36 l0 x3_1).f2)) ∧ w'.cell? ⟨gb103, 3, none⟩ = some (.int .i64 ((rd_T36 l0 x3_1).f3)) ∧ w'.cell? ⟨gb103, 4, none⟩ = some (.int .i64 ((rd_T36 l0 x3_1).f4))) (ds := []) (bl [0, 51]) (by kernel_rfl) rfl rfl ⟨(blk_cell BK103.out 0).trans rfl, (blk_cell BK103.out 1).trans rfl, (blk_cell BK103.out 2).trans rfl, (blk_cell BK103.out 3).trans rfl, (blk_cell BK103.out 4).trans rfl⟩ (fun hHeld => ?_); refine with_tabW syllabaryref21_areas.tab5 syllabaryref21_areas.bits5 (fun HT_ HW_ => ?_)
       generalize w56.drew = w57 at BK103 HB hHeld ⊢
       refine qA 0 (some 16) (bl [1, 50]) HT_ ?_
       refine qT 1 (some 17) (bl [2, 49]) HT_ HW_ hHeld ?_
       refine one_ (i := 2) (N := some 18) (bl [3, 48]) rfl rfl (one_of HT_.out (by kernel_rfl)) (by decide) (fun K hK => ?_)
       refine goes_ Try.func86 (by kernel_rfl) rfl #[.int .u8 ((rd_T36 l0 x3_1).f0)] (by rfl) rfl rfl (by (try simp only [List.map_toArray, List.map_cons, List.map_nil]); first | done | rfl | (simp only [List.length_drop, List.length_take]; rfl)) ?_
       with_reducible refine (syllabaryref21_Letter.calls ((rd_T36 l0 x3_1).f0) false _ A7.out).mono ?_
       rintro e w' ⟨rfl, ⟨nd, rfl⟩⟩
       refine ⟨_, rfl, ?_⟩
       refine hK.out _ _ ⟨(blk_cell BK103.out 0).trans rfl, (blk_cell BK103.out 1).trans rfl, (blk_cell BK103.out 2).trans rfl, (blk_cell BK103.out 3).trans rfl, (blk_cell BK103.out 4).trans rfl⟩ (fun hHeld => ?_)
       clear hK K
       refine norm_ (a' := ?_) ?_ ?_
       rotate_left; · (show Act.put _ (some 18) _ = _; simp only [Act.put, q1, q2, q3, i64_w, i32_w]; rfl)
       refine qA 3 (some 19) (bl [4, 47]) HT_ ?_
       refine qA 4 (some 20) (bl [5, 46]) HT_ ?_
       refine qO 5 (some 21) (bl [6, 45]) HT_ ?_
       refine qO 6 (some 22) (bl [7, 44]) HT_ ?_
       refine qO 7 (some 23) (bl [8, 43]) HT_ ?_
       refine qO 8 (some 24) (bl [9, 42]) HT_ ?_
       refine qO 9 (some 25) (bl [10, 41]) HT_ ?_
       refine qO 10 (some 26) (bl [11, 40]) HT_ ?_
       refine qO 11 (some 27) (bl [12, 39]) HT_ ?_
       refine qO 12 (some 28) (bl [13, 38]) HT_ ?_
       refine qO 13 (some 29) (bl [14, 37]) HT_ ?_
       refine qO 14 (some 30) (bl [15, 36]) HT_ ?_
       refine qO 15 (some 31) (bl [16, 35]) HT_ ?_
       refine qO 16 (some 32) (bl [17, 34]) HT_ ?_
       refine qO 17 (some 33) (bl [18, 33]) HT_ ?_
       refine qA 18 (some 34) (bl [19, 32]) HT_ ?_
       refine qA 19 (some 35) (bl [20, 31]) HT_ ?_
       refine qO 20 (some 36) (bl [21, 30]) HT_ ?_
       refine qO 21 (some 37) (bl [22, 29]) HT_ ?_
       refine qO 22 (some 38) (bl [23, 28]) HT_ ?_
       refine qO 23 (some 39) (bl [24, 27]) HT_ ?_
       refine qO 24 (some 40) (bl [25, 26]) HT_ ?_
       refine qO 25 (some 41) (bl [26, 25]) HT_ ?_
       refine qO 26 (some 42) (bl [27, 24]) HT_ ?_
       refine qA 27 (some 43) (bl [28, 23]) HT_ ?_
       refine qA 28 (some 44) (bl [29, 22]) HT_ ?_
       refine qO 29 (some 45) (bl [30, 21]) HT_ ?_
       refine qO 30 (some 46) (bl [31, 20]) HT_ ?_
       refine qO 31 (some 47) (bl [32, 19]) HT_ ?_
       refine qO 32 (some 48) (bl [33, 18]) HT_ ?_
       refine qO 33 (some 49) (bl [34, 17]) HT_ ?_
       refine qO 34 (some 50) (bl [35, 16]) HT_ ?_
       refine qO 35 (some 51) (bl [36, 15]) HT_ ?_
       refine qA 36 (some 52) (bl [37, 14]) HT_ ?_
       refine qA 37 (some 53) (bl [38, 13]) HT_ ?_
       refine qO 38 (some 54) (bl [39, 12]) HT_ ?_
       refine qO 39 (some 55) (bl [40, 11]) HT_ ?_
       refine qO 40 (some 56) (bl [41, 10]) HT_ ?_
       refine qO 41 (some 57) (bl [42, 9]) HT_ ?_
       refine qO 42 (some 58) (bl [43, 8]) HT_ ?_
       refine qA 43 (some 59) (bl [44, 7]) HT_ ?_
       refine qA 44 (some 60) (bl [45, 6]) HT_ ?_
       refine qO 45 (some 61) (bl [46, 5]) HT_ ?_
       refine qO 46 (some 62) (bl [47, 4]) HT_ ?_
       refine qO 47 (some 63) (bl [48, 3]) HT_ ?_
       refine qO 48 (some 64) (bl [49, 2]) HT_ ?_
       refine qO 49 (some 65) (bl [50, 1]) HT_ ?_
       refine qA 50 (some 66) (bl [51]) HT_ ?_
       refine done_ (done_of HT_.out (by kernel_rfl)) ?_
       try go_wp2
       go_meet
       case rel => exact ⟨_, (true), (by first | rfl | (simp; done) | (simp [*]; done)), H', ⟨by have := HK1.out; first | omega | exact Nat.le_refl _⟩, ⟨by (with_reducible repeat (first | refine blk_drewN ?_ _ | refine blk_drew ?_ | refine blk_alloc ?_ _)); exact BK103.out⟩, ⟨by repeat (first | (with_reducible first | exact HB.out | apply below_alloc | apply pw_below_drewN | apply below_drew1 | refine below_set ?_ GE103.out) | exact HB.out)⟩⟩
     case rest =>
      clear HC4
      try clear c1
      try clear p2
      try clear c8
      try clear c11
      obtain ⟨kq, x66_3, rfl, HA, HJ3, BK103, HB⟩ := hcut
      cases kq with
      | zero => exact absurd HA.out (by simp [syllabaryref21_areas.j1])
      | succ kj3 =>
       have H := HA.out
       clear HA
       simp only [syllabaryref21_areas.j1] at H
       by_cases c58 : x66_3 = true
       ·
        subst c58
        have H1 : (some false) = some r := by rw [if_pos rfl] at H; exact H
        clear H
        have H := H1
        clear H1
        obtain rfl := Option.some.inj H
        go_wp2
        go_ret
        exact ⟨by first | rfl | (simp [errW_none, errW_some] <;> rfl) | (simp [*, errW_none, errW_some] <;> rfl), by repeat (first | (with_reducible first | exact HB.out | apply below_alloc | apply pw_below_drewN | apply below_drew1 | refine below_set ?_ GE103.out) | exact HB.out)⟩
       ·
        replace c58 := Bool.eq_false_iff.mpr c58
        subst c58
        have H1 : (syllabaryref21_areas.l1 kj3 l0 x3_1 0 ((rd_T36 l0 x3_1).f0) ((rd_T36 l0 x3_1).f1) ((rd_T36 l0 x3_1).f2) ((rd_T36 l0 x3_1).f3) ((rd_T36 l0 x3_1).f4)) = some r := by rw [if_neg (show ¬ (false = true) by decide)] at H; exact H
        clear H
        have H := H1
        clear H1
        have H' := Aside0.mk H
        clear H
        go_wp2
        go_loopg [5] kj3 (fun kq v5 w' => ∃ (x5_3 : Int), v5 = .int .i64 x5_3 ∧ Aside0 (syllabaryref21_areas.l1 kq l0 x3_1 x5_3 ((rd_T36 l0 x3_1).f0) ((rd_T36 l0 x3_1).f1) ((rd_T36 l0 x3_1).f2) ((rd_T36 l0 x3_1).f3) ((rd_T36 l0 x3_1).f4) = some r) ∧ Aside0 (kq ≤ kj3) ∧ Aside0 (w'.heap[gb103]? = some (.cells #[.int .u8 ((rd_T36 l0 x3_1).f0), .int .i64 ((rd_T36 l0 x3_1).f1), .int .i64 ((rd_T36 l0 x3_1).f2), .int .i64 ((rd_T36 l0 x3_1).f3), .int .i64 ((rd_T36 l0 x3_1).f4)] 36 (0, 0))) ∧ Aside0 (Below w.heap.size w w'))
        case atStart => exact ⟨(0), (by first | rfl | (simp; done) | (simp [*]; done)), H', ⟨Nat.le_refl _⟩, ⟨by (with_reducible repeat (first | refine blk_drewN ?_ _ | refine blk_drew ?_ | refine blk_alloc ?_ _)); exact BK103.out⟩, ⟨by repeat (first | (with_reducible first | exact HB.out | apply below_alloc | apply pw_below_drewN | apply below_drew1 | refine below_set ?_ GE103.out) | exact HB.out)⟩⟩
        case round =>
         clear H'
         try clear c1
         try clear p2
         try clear c5
         try clear c8
         try clear c11
         try clear c58
         try clear p2
         obtain ⟨x5_3, rfl, HA, HK3, BK103, HB⟩ := hrel
         cases gk with
         | zero => exact absurd HA.out (by simp [syllabaryref21_areas.l1])
         | succ k3 =>
          have H := HA.out
          clear HA
          simp only [syllabaryref21_areas.l1] at H
          by_cases c59 : x5_3 < x3_1
          ·
           rw [if_pos c59] at H
           have c59b0 : decide (x5_3 < x3_1) = true := decide_eq_true c59
           clear c59
           by_cases c60 : 0 ≤ x5_3
           ·
            rw [if_pos c60] at H
            have c60b0 : decide (0 ≤ x5_3) = true := decide_eq_true c60
            clear c60
            by_cases c61 : x5_3 < (l0.length : Int)
            ·
             rw [if_pos c61] at H
             have c61b0 : decide (x5_3 < (l0.length : Int)) = true := decide_eq_true c61
             clear c61
             by_cases c62 : ((rd_T36 l0 x3_1).f1) ≤ ((rd_T36 l0 x5_3).f3)
             ·
              rw [if_pos c62] at H
              have c62b0 : decide (((rd_T36 l0 x3_1).f1) ≤ ((rd_T36 l0 x5_3).f3)) = true := decide_eq_true c62
              clear c62
              by_cases c63 : ((rd_T36 l0 x5_3).f1) ≤ ((rd_T36 l0 x3_1).f3)
              ·
               rw [if_pos c63] at H
               have c63b0 : decide (((rd_T36 l0 x5_3).f1) ≤ ((rd_T36 l0 x3_1).f3)) = true := decide_eq_true c63
               clear c63
               by_cases c64 : ((rd_T36 l0 x3_1).f2) ≤ ((rd_T36 l0 x5_3).f4)
               ·
                rw [if_pos c64] at H
                have c64b0 : decide (((rd_T36 l0 x3_1).f2) ≤ ((rd_T36 l0 x5_3).f4)) = true := decide_eq_true c64
                clear c64
                by_cases c65 : ((rd_T36 l0 x5_3).f2) ≤ ((rd_T36 l0 x3_1).f4)
                ·
                 rw [if_pos c65] at H
                 have c65b0 : decide (((rd_T36 l0 x5_3).f2) ≤ ((rd_T36 l0 x3_1).f4)) = true := decide_eq_true c65
                 clear c65
                 obtain rfl := Option.some.inj H
                 try go_wp2
                 have n0_ := Aside0.mk (blk_drew BK103.out)
                 have n1_ := Aside0.mk (below_drew1 HB.out)
                 clear BK103; clear HB
                 have BK103 := n0_
                 have HB := n1_
                 clear n0_ n1_
                 have p110 : 0 ≤ (x5_3 : Int) := of_decide_eq_true (by assumption)
                 have q110 : x5_3 < (l0.length : Int) := of_decide_eq_true (by assumption)
                 obtain ⟨ad110, e110, hx110_0, hx110_1, hx110_2, hx110_3, hx110_4⟩ := at_T36 HR0.out x5_3 p110 q110
                 have hw110_4 := hx110_4
                 have hw110_3 := hx110_3
                 have hw110_2 := hx110_2
                 have hw110_1 := hx110_1
                 have hw110_0 := hx110_0
                 obtain rfl : ad102 = ad110 := (by injection e110)
                 replace hx110_0 := (HB.out.cell (World.block_lt_of_cell? w _ hx110_0)).trans hx110_0
                 replace hx110_1 := (HB.out.cell (World.block_lt_of_cell? w _ hx110_1)).trans hx110_1
                 replace hx110_2 := (HB.out.cell (World.block_lt_of_cell? w _ hx110_2)).trans hx110_2
                 replace hx110_3 := (HB.out.cell (World.block_lt_of_cell? w _ hx110_3)).trans hx110_3
                 replace hx110_4 := (HB.out.cell (World.block_lt_of_cell? w _ hx110_4)).trans hx110_4
                 replace p110 := eq_true p110
                 replace q110 := eq_true q110
                 have p111 : 0 ≤ (x5_3 : Int) := of_decide_eq_true (by assumption)
                 have q111 : x5_3 < (l0.length : Int) := of_decide_eq_true (by assumption)
                 obtain ⟨ad111, e111, hx111_0, hx111_1, hx111_2, hx111_3, hx111_4⟩ := at_T36 HR0.out x5_3 p111 q111
                 have hw111_4 := hx111_4
                 have hw111_3 := hx111_3
                 have hw111_2 := hx111_2
                 have hw111_1 := hx111_1
                 have hw111_0 := hx111_0
                 obtain rfl : ad102 = ad111 := (by injection e111)
                 replace hx111_0 := (HB.out.cell (World.block_lt_of_cell? w _ hx111_0)).trans hx111_0
                 replace hx111_1 := (HB.out.cell (World.block_lt_of_cell? w _ hx111_1)).trans hx111_1
                 replace hx111_2 := (HB.out.cell (World.block_lt_of_cell? w _ hx111_2)).trans hx111_2
                 replace hx111_3 := (HB.out.cell (World.block_lt_of_cell? w _ hx111_3)).trans hx111_3
                 replace hx111_4 := (HB.out.cell (World.block_lt_of_cell? w _ hx111_4)).trans hx111_4
                 replace p111 := eq_true p111
                 replace q111 := eq_true q111
                 have p112 : 0 ≤ (x5_3 : Int) := of_decide_eq_true (by assumption)
                 have q112 : x5_3 < (l0.length : Int) := of_decide_eq_true (by assumption)
                 obtain ⟨ad112, e112, hx112_0, hx112_1, hx112_2, hx112_3, hx112_4⟩ := at_T36 HR0.out x5_3 p112 q112
                 have hw112_4 := hx112_4
                 have hw112_3 := hx112_3
                 have hw112_2 := hx112_2
                 have hw112_1 := hx112_1
                 have hw112_0 := hx112_0
                 obtain rfl : ad102 = ad112 := (by injection e112)
                 replace hx112_0 := (HB.out.cell (World.block_lt_of_cell? w _ hx112_0)).trans hx112_0
                 replace hx112_1 := (HB.out.cell (World.block_lt_of_cell? w _ hx112_1)).trans hx112_1
                 replace hx112_2 := (HB.out.cell (World.block_lt_of_cell? w _ hx112_2)).trans hx112_2
                 replace hx112_3 := (HB.out.cell (World.block_lt_of_cell? w _ hx112_3)).trans hx112_3
                 replace hx112_4 := (HB.out.cell (World.block_lt_of_cell? w _ hx112_4)).trans hx112_4
                 replace p112 := eq_true p112
                 replace q112 := eq_true q112
                 have p113 : 0 ≤ (x5_3 : Int) := of_decide_eq_true (by assumption)
                 have q113 : x5_3 < (l0.length : Int) := of_decide_eq_true (by assumption)
                 obtain ⟨ad113, e113, hx113_0, hx113_1, hx113_2, hx113_3, hx113_4⟩ := at_T36 HR0.out x5_3 p113 q113
                 have hw113_4 := hx113_4
                 have hw113_3 := hx113_3
                 have hw113_2 := hx113_2
                 have hw113_1 := hx113_1
                 have hw113_0 := hx113_0
                 obtain rfl : ad102 = ad113 := (by injection e113)
                 replace hx113_0 := (HB.out.cell (World.block_lt_of_cell? w _ hx113_0)).trans hx113_0
                 replace hx113_1 := (HB.out.cell (World.block_lt_of_cell? w _ hx113_1)).trans hx113_1
                 replace hx113_2 := (HB.out.cell (World.block_lt_of_cell? w _ hx113_2)).trans hx113_2
                 replace hx113_3 := (HB.out.cell (World.block_lt_of_cell? w _ hx113_3)).trans hx113_3
                 replace hx113_4 := (HB.out.cell (World.block_lt_of_cell? w _ hx113_4)).trans hx113_4
                 replace p113 := eq_true p113
                 replace q113 := eq_true q113
                 refine start_ (n := 38) (S := fun w' => w'.cell? ⟨gb103, 0, none⟩ = some (.int .u8 ((rd_T36 l0 x3_1).f0)) ∧ w'.cell? ⟨gb103, 1, none⟩ = some (.int .i64 ((rd_T36 l0 x3_1).f1)) ∧ w'.cell? ⟨gb103, 2, none⟩ = some (.int .i64 ((rd_T36 l0 x3_1).f2)) ∧ w'.cell? ⟨gb103, 3, none⟩ = some (.int .i64 ((rd_T36 l0 x3_1).f3)) ∧ w'.cell? ⟨gb103, 4, none⟩ = some (.int .i64 ((rd_T36 l0 x3_1).f4)) ∧ w'.cell? (ad102.add ((x5_3).toNat * 5)) = some (.int .u8 ((rd_T36 l0 x5_3).f0)) ∧ w'.cell? ⟨(ad102.add ((x5_3).toNat * 5)).block, (ad102.add ((x5_3).toNat * 5)).off + 1, none⟩ = some (.int .i64 ((rd_T36 l0 x5_3).f1)) ∧ w'.cell? ⟨(ad102.add ((x5_3).toNat * 5)).block, (ad102.add ((x5_3).toNat * 5)).off + 2, none⟩ = some (.int .i64 ((rd_T36 l0 x5_3).f2)) ∧ w'.cell? ⟨(ad102.add ((x5_3).toNat * 5)).block, (ad102.add ((x5_3).toNat * 5)).off + 3, none⟩ = some (.int .i64 ((rd_T36 l0 x5_3).f3)) ∧ w'.cell? ⟨(ad102.add ((x5_3).toNat * 5)).block, (ad102.add ((x5_3).toNat * 5)).off + 4, none⟩ = some (.int .i64 ((rd_T36 l0 x5_3).f4)) ∧ w'.cell? (ad102.add ((x5_3).toNat * 5)) = some (.int .u8 ((rd_T36 l0 x5_3).f0)) ∧ w'.cell? ⟨(ad102.add ((x5_3).toNat * 5)).block, (ad102.add ((x5_3).toNat * 5)).off + 1, none⟩ = some (.int .i64 ((rd_T36 l0 x5_3).f1)) ∧ w'.cell? ⟨(ad102.add ((x5_3).toNat * 5)).block, (ad102.add ((x5_3).toNat * 5)).off + 2, none⟩ = some (.int .i64 ((rd_T36 l0 x5_3).f2)) ∧ w'.cell? ⟨(ad102.add ((x5_3).toNat * 5)).block, (ad102.add ((x5_3).toNat * 5)).off + 3, none⟩ = some (.int .i64 ((rd_T36 l0 x5_3).f3)) ∧ w'.cell? ⟨(ad102.add ((x5_3).toNat * 5)).block, (ad102.add ((x5_3).toNat * 5)).off + 4, none⟩ = some (.int .i64 ((rd_T36 l0 x5_3).f4)) ∧ w'.cell? (ad102.add ((x5_3).toNat * 5)) = some (.int .u8 ((rd_T36 l0 x5_3).f0)) ∧ w'.cell? ⟨(ad102.add ((x5_3).toNat * 5)).block, (ad102.add ((x5_3).toNat * 5)).off + 1, none⟩ = some (.int .i64 ((rd_T36 l0 x5_3).f1)) ∧ w'.cell? ⟨(ad102.add ((x5_3).toNat * 5)).block, (ad102.add ((x5_3).toNat * 5)).off + 2, none⟩ = some (.int .i64 ((rd_T36 l0 x5_3).f2)) ∧ w'.cell? ⟨(ad102.add ((x5_3).toNat * 5)).block, (ad102.add ((x5_3).toNat * 5)).off + 3, none⟩ = some (.int .i64 ((rd_T36 l0 x5_3).f3)) ∧ w'.cell? ⟨(ad102.add ((x5_3).toNat * 5)).block, (ad102.add ((x5_3).toNat * 5)).off + 4, none⟩ = some (.int .i64 ((rd_T36 l0 x5_3).f4)) ∧ w'.cell? (ad102.add ((x5_3).toNat * 5)) = some (.int .u8 ((rd_T36 l0 x5_3).f0)) ∧ w'.cell? ⟨(ad102.add ((x5_3).toNat * 5)).block, (ad102.add ((x5_3).toNat * 5)).off + 1, none⟩ = some (.int .i64 ((rd_T36 l0 x5_3).f1)) ∧ w'.cell? ⟨(ad102.add ((x5_3).toNat * 5)).block, (ad102.add ((x5_3).toNat * 5)).off + 2, none⟩ = some (.int .i64 ((rd_T36 l0 x5_3).f2)) ∧ w'.cell? ⟨(ad102.add ((x5_3).toNat * 5)).block, (ad102.add ((x5_3).toNat * 5)).off + 3, none⟩ = some (.int .i64 ((rd_T36 l0 x5_3).f3)) ∧ w'.cell? ⟨(ad102.add ((x5_3).toNat * 5)).block, (ad102.add ((x5_3).toNat * 5)).off + 4, none⟩ = some (.int .i64 ((rd_T36 l0 x5_3).f4))) (ds := []) (bl [0, 38]) (by kernel_rfl) rfl rfl ⟨(blk_cell BK103.out 0).trans rfl, (blk_cell BK103.out 1).trans rfl, (blk_cell BK103.out 2).trans rfl, (blk_cell BK103.out 3).trans rfl, (blk_cell BK103.out 4).trans rfl, ((HB.out.cell (World.block_lt_of_cell? w _ hw110_0)).trans hw110_0), ((HB.out.cell (World.block_lt_of_cell? w _ hw110_1)).trans hw110_1), ((HB.out.cell (World.block_lt_of_cell? w _ hw110_2)).trans hw110_2), ((HB.out.cell (World.block_lt_of_cell? w _ hw110_3)).trans hw110_3), ((HB.out.cell (World.block_lt_of_cell? w _ hw110_4)).trans hw110_4), ((HB.out.cell (World.block_lt_of_cell? w _ hw111_0)).trans hw111_0), ((HB.out.cell (World.block_lt_of_cell? w _ hw111_1)).trans hw111_1), ((HB.out.cell (World.block_lt_of_cell? w _ hw111_2)).trans hw111_2), ((HB.out.cell (World.block_lt_of_cell? w _ hw111_3)).trans hw111_3), ((HB.out.cell (World.block_lt_of_cell? w _ hw111_4)).trans hw111_4), ((HB.out.cell (World.block_lt_of_cell? w _ hw112_0)).trans hw112_0), ((HB.out.cell (World.block_lt_of_cell? w _ hw112_1)).trans hw112_1), ((HB.out.cell (World.block_lt_of_cell? w _ hw112_2)).trans hw112_2), ((HB.out.cell (World.block_lt_of_cell? w _ hw112_3)).trans hw112_3), ((HB.out.cell (World.block_lt_of_cell? w _ hw112_4)).trans hw112_4), ((HB.out.cell (World.block_lt_of_cell? w _ hw113_0)).trans hw113_0), ((HB.out.cell (World.block_lt_of_cell? w _ hw113_1)).trans hw113_1), ((HB.out.cell (World.block_lt_of_cell? w _ hw113_2)).trans hw113_2), ((HB.out.cell (World.block_lt_of_cell? w _ hw113_3)).trans hw113_3), ((HB.out.cell (World.block_lt_of_cell? w _ hw113_4)).trans hw113_4)⟩ (fun hHeld => ?_); refine with_tabW syllabaryref21_areas.tab10 syllabaryref21_areas.bits10 (fun HT_ HW_ => ?_)
                 generalize wr.drew = w66 at BK103 HB hx110_0 hx110_1 hx110_2 hx110_3 hx110_4 hx111_0 hx111_1 hx111_2 hx111_3 hx111_4 hx112_0 hx112_1 hx112_2 hx112_3 hx112_4 hx113_0 hx113_1 hx113_2 hx113_3 hx113_4 hHeld ⊢
                 refine qA 0 (some 72) (bl [1, 37]) HT_ ?_
                 refine qA 2 (some 74) (bl [1, 1, 1, 35]) HT_ ?_
                 refine qA 3 (some 75) (bl [1, 1, 2, 34]) HT_ ?_
                 refine qA 4 (some 76) (bl [1, 1, 3, 33]) HT_ ?_
                 refine qA 5 (some 77) (bl [1, 1, 4, 32]) HT_ ?_
                 refine qT 1 (some 73) (bl [6, 32]) HT_ HW_ hHeld ?_
                 refine qT 6 (some 78) (bl [7, 31]) HT_ HW_ hHeld ?_
                 refine qA 7 (some 79) (bl [8, 30]) HT_ ?_
                 refine qA 8 (some 80) (bl [9, 29]) HT_ ?_
                 refine qA 9 (some 81) (bl [10, 28]) HT_ ?_
                 refine qA 10 (some 82) (bl [11, 27]) HT_ ?_
                 refine qA 11 (some 83) (bl [12, 26]) HT_ ?_
                 refine qA 12 (some 84) (bl [13, 25]) HT_ ?_
                 refine qA 14 (some 86) (bl [13, 1, 1, 23]) HT_ ?_
                 refine qT 13 (some 85) (bl [15, 23]) HT_ HW_ hHeld ?_
                 refine qT 15 (some 87) (bl [16, 22]) HT_ HW_ hHeld ?_
                 refine qA 16 (some 88) (bl [17, 21]) HT_ ?_
                 refine qA 17 (some 89) (bl [18, 20]) HT_ ?_
                 refine qA 18 (some 90) (bl [19, 19]) HT_ ?_
                 refine qA 19 (some 91) (bl [20, 18]) HT_ ?_
                 refine qA 21 (some 93) (bl [20, 1, 1, 16]) HT_ ?_
                 refine qA 22 (some 94) (bl [20, 1, 2, 15]) HT_ ?_
                 refine qA 23 (some 95) (bl [20, 1, 3, 14]) HT_ ?_
                 refine qA 24 (some 96) (bl [20, 1, 4, 13]) HT_ ?_
                 refine qT 20 (some 92) (bl [25, 13]) HT_ HW_ hHeld ?_
                 refine qT 25 (some 97) (bl [26, 12]) HT_ HW_ hHeld ?_
                 refine qA 26 (some 98) (bl [27, 11]) HT_ ?_
                 refine qA 27 (some 99) (bl [28, 10]) HT_ ?_
                 refine qA 28 (some 100) (bl [29, 9]) HT_ ?_
                 refine qA 29 (some 101) (bl [30, 8]) HT_ ?_
                 refine qA 30 (some 102) (bl [31, 7]) HT_ ?_
                 refine qA 31 (some 103) (bl [32, 6]) HT_ ?_
                 refine qA 32 (some 104) (bl [33, 5]) HT_ ?_
                 refine qA 34 (some 106) (bl [33, 1, 1, 3]) HT_ ?_
                 refine qT 33 (some 105) (bl [35, 3]) HT_ HW_ hHeld ?_
                 refine qT 35 (some 107) (bl [36, 2]) HT_ HW_ hHeld ?_
                 refine qA 36 (some 108) (bl [37, 1]) HT_ ?_
                 refine qA 37 (some 109) (bl [38]) HT_ ?_
                 refine done_ (done_of HT_.out (by kernel_rfl)) ?_
                 try go_wp2
                 go_ret
                 exact ⟨by first | rfl | (simp [errW_none, errW_some] <;> rfl) | (simp [*, errW_none, errW_some] <;> rfl), by repeat (first | (with_reducible first | exact HB.out | apply below_alloc | apply pw_below_drewN | apply below_drew1 | refine below_set ?_ GE103.out) | exact HB.out)⟩
                ·
                 rw [if_neg c65] at H
                 have c65b0 : decide (((rd_T36 l0 x5_3).f2) ≤ ((rd_T36 l0 x3_1).f4)) = false := decide_eq_false c65
                 clear c65
                 have H' := Aside0.mk H
                 clear H
                 try go_wp2
                 have n0_ := Aside0.mk (blk_drew BK103.out)
                 have n1_ := Aside0.mk (below_drew1 HB.out)
                 clear BK103; clear HB
                 have BK103 := n0_
                 have HB := n1_
                 clear n0_ n1_
                 have p110 : 0 ≤ (x5_3 : Int) := of_decide_eq_true (by assumption)
                 have q110 : x5_3 < (l0.length : Int) := of_decide_eq_true (by assumption)
                 obtain ⟨ad110, e110, hx110_0, hx110_1, hx110_2, hx110_3, hx110_4⟩ := at_T36 HR0.out x5_3 p110 q110
                 have hw110_4 := hx110_4
                 have hw110_3 := hx110_3
                 have hw110_2 := hx110_2
                 have hw110_1 := hx110_1
                 have hw110_0 := hx110_0
                 obtain rfl : ad102 = ad110 := (by injection e110)
                 replace hx110_0 := (HB.out.cell (World.block_lt_of_cell? w _ hx110_0)).trans hx110_0
                 replace hx110_1 := (HB.out.cell (World.block_lt_of_cell? w _ hx110_1)).trans hx110_1
                 replace hx110_2 := (HB.out.cell (World.block_lt_of_cell? w _ hx110_2)).trans hx110_2
                 replace hx110_3 := (HB.out.cell (World.block_lt_of_cell? w _ hx110_3)).trans hx110_3
                 replace hx110_4 := (HB.out.cell (World.block_lt_of_cell? w _ hx110_4)).trans hx110_4
                 replace p110 := eq_true p110
                 replace q110 := eq_true q110
                 have p111 : 0 ≤ (x5_3 : Int) := of_decide_eq_true (by assumption)
                 have q111 : x5_3 < (l0.length : Int) := of_decide_eq_true (by assumption)
                 obtain ⟨ad111, e111, hx111_0, hx111_1, hx111_2, hx111_3, hx111_4⟩ := at_T36 HR0.out x5_3 p111 q111
                 have hw111_4 := hx111_4
                 have hw111_3 := hx111_3
                 have hw111_2 := hx111_2
                 have hw111_1 := hx111_1
                 have hw111_0 := hx111_0
                 obtain rfl : ad102 = ad111 := (by injection e111)
                 replace hx111_0 := (HB.out.cell (World.block_lt_of_cell? w _ hx111_0)).trans hx111_0
                 replace hx111_1 := (HB.out.cell (World.block_lt_of_cell? w _ hx111_1)).trans hx111_1
                 replace hx111_2 := (HB.out.cell (World.block_lt_of_cell? w _ hx111_2)).trans hx111_2
                 replace hx111_3 := (HB.out.cell (World.block_lt_of_cell? w _ hx111_3)).trans hx111_3
                 replace hx111_4 := (HB.out.cell (World.block_lt_of_cell? w _ hx111_4)).trans hx111_4
                 replace p111 := eq_true p111
                 replace q111 := eq_true q111
                 have p112 : 0 ≤ (x5_3 : Int) := of_decide_eq_true (by assumption)
                 have q112 : x5_3 < (l0.length : Int) := of_decide_eq_true (by assumption)
                 obtain ⟨ad112, e112, hx112_0, hx112_1, hx112_2, hx112_3, hx112_4⟩ := at_T36 HR0.out x5_3 p112 q112
                 have hw112_4 := hx112_4
                 have hw112_3 := hx112_3
                 have hw112_2 := hx112_2
                 have hw112_1 := hx112_1
                 have hw112_0 := hx112_0
                 obtain rfl : ad102 = ad112 := (by injection e112)
                 replace hx112_0 := (HB.out.cell (World.block_lt_of_cell? w _ hx112_0)).trans hx112_0
                 replace hx112_1 := (HB.out.cell (World.block_lt_of_cell? w _ hx112_1)).trans hx112_1
                 replace hx112_2 := (HB.out.cell (World.block_lt_of_cell? w _ hx112_2)).trans hx112_2
                 replace hx112_3 := (HB.out.cell (World.block_lt_of_cell? w _ hx112_3)).trans hx112_3
                 replace hx112_4 := (HB.out.cell (World.block_lt_of_cell? w _ hx112_4)).trans hx112_4
                 replace p112 := eq_true p112
                 replace q112 := eq_true q112
                 have p113 : 0 ≤ (x5_3 : Int) := of_decide_eq_true (by assumption)
                 have q113 : x5_3 < (l0.length : Int) := of_decide_eq_true (by assumption)
                 obtain ⟨ad113, e113, hx113_0, hx113_1, hx113_2, hx113_3, hx113_4⟩ := at_T36 HR0.out x5_3 p113 q113
                 have hw113_4 := hx113_4
                 have hw113_3 := hx113_3
                 have hw113_2 := hx113_2
                 have hw113_1 := hx113_1
                 have hw113_0 := hx113_0
                 obtain rfl : ad102 = ad113 := (by injection e113)
                 replace hx113_0 := (HB.out.cell (World.block_lt_of_cell? w _ hx113_0)).trans hx113_0
                 replace hx113_1 := (HB.out.cell (World.block_lt_of_cell? w _ hx113_1)).trans hx113_1
                 replace hx113_2 := (HB.out.cell (World.block_lt_of_cell? w _ hx113_2)).trans hx113_2
                 replace hx113_3 := (HB.out.cell (World.block_lt_of_cell? w _ hx113_3)).trans hx113_3
                 replace hx113_4 := (HB.out.cell (World.block_lt_of_cell? w _ hx113_4)).trans hx113_4
                 replace p113 := eq_true p113
                 replace q113 := eq_true q113
                 refine start_ (n := 38) (S := fun w' => w'.cell? ⟨gb103, 0, none⟩ = some (.int .u8 ((rd_T36 l0 x3_1).f0)) ∧ w'.cell? ⟨gb103, 1, none⟩ = some (.int .i64 ((rd_T36 l0 x3_1).f1)) ∧ w'.cell? ⟨gb103, 2, none⟩ = some (.int .i64 ((rd_T36 l0 x3_1).f2)) ∧ w'.cell? ⟨gb103, 3, none⟩ = some (.int .i64 ((rd_T36 l0 x3_1).f3)) ∧ w'.cell? ⟨gb103, 4, none⟩ = some (.int .i64 ((rd_T36 l0 x3_1).f4)) ∧ w'.cell? (ad102.add ((x5_3).toNat * 5)) = some (.int .u8 ((rd_T36 l0 x5_3).f0)) ∧ w'.cell? ⟨(ad102.add ((x5_3).toNat * 5)).block, (ad102.add ((x5_3).toNat * 5)).off + 1, none⟩ = some (.int .i64 ((rd_T36 l0 x5_3).f1)) ∧ w'.cell? ⟨(ad102.add ((x5_3).toNat * 5)).block, (ad102.add ((x5_3).toNat * 5)).off + 2, none⟩ = some (.int .i64 ((rd_T36 l0 x5_3).f2)) ∧ w'.cell? ⟨(ad102.add ((x5_3).toNat * 5)).block, (ad102.add ((x5_3).toNat * 5)).off + 3, none⟩ = some (.int .i64 ((rd_T36 l0 x5_3).f3)) ∧ w'.cell? ⟨(ad102.add ((x5_3).toNat * 5)).block, (ad102.add ((x5_3).toNat * 5)).off + 4, none⟩ = some (.int .i64 ((rd_T36 l0 x5_3).f4)) ∧ w'.cell? (ad102.add ((x5_3).toNat * 5)) = some (.int .u8 ((rd_T36 l0 x5_3).f0)) ∧ w'.cell? ⟨(ad102.add ((x5_3).toNat * 5)).block, (ad102.add ((x5_3).toNat * 5)).off + 1, none⟩ = some (.int .i64 ((rd_T36 l0 x5_3).f1)) ∧ w'.cell? ⟨(ad102.add ((x5_3).toNat * 5)).block, (ad102.add ((x5_3).toNat * 5)).off + 2, none⟩ = some (.int .i64 ((rd_T36 l0 x5_3).f2)) ∧ w'.cell? ⟨(ad102.add ((x5_3).toNat * 5)).block, (ad102.add ((x5_3).toNat * 5)).off + 3, none⟩ = some (.int .i64 ((rd_T36 l0 x5_3).f3)) ∧ w'.cell? ⟨(ad102.add ((x5_3).toNat * 5)).block, (ad102.add ((x5_3).toNat * 5)).off + 4, none⟩ = some (.int .i64 ((rd_T36 l0 x5_3).f4)) ∧ w'.cell? (ad102.add ((x5_3).toNat * 5)) = some (.int .u8 ((rd_T36 l0 x5_3).f0)) ∧ w'.cell? ⟨(ad102.add ((x5_3).toNat * 5)).block, (ad102.add ((x5_3).toNat * 5)).off + 1, none⟩ = some (.int .i64 ((rd_T36 l0 x5_3).f1)) ∧ w'.cell? ⟨(ad102.add ((x5_3).toNat * 5)).block, (ad102.add ((x5_3).toNat * 5)).off + 2, none⟩ = some (.int .i64 ((rd_T36 l0 x5_3).f2)) ∧ w'.cell? ⟨(ad102.add ((x5_3).toNat * 5)).block, (ad102.add ((x5_3).toNat * 5)).off + 3, none⟩ = some (.int .i64 ((rd_T36 l0 x5_3).f3)) ∧ w'.cell? ⟨(ad102.add ((x5_3).toNat * 5)).block, (ad102.add ((x5_3).toNat * 5)).off + 4, none⟩ = some (.int .i64 ((rd_T36 l0 x5_3).f4)) ∧ w'.cell? (ad102.add ((x5_3).toNat * 5)) = some (.int .u8 ((rd_T36 l0 x5_3).f0)) ∧ w'.cell? ⟨(ad102.add ((x5_3).toNat * 5)).block, (ad102.add ((x5_3).toNat * 5)).off + 1, none⟩ = some (.int .i64 ((rd_T36 l0 x5_3).f1)) ∧ w'.cell? ⟨(ad102.add ((x5_3).toNat * 5)).block, (ad102.add ((x5_3).toNat * 5)).off + 2, none⟩ = some (.int .i64 ((rd_T36 l0 x5_3).f2)) ∧ w'.cell? ⟨(ad102.add ((x5_3).toNat * 5)).block, (ad102.add ((x5_3).toNat * 5)).off + 3, none⟩ = some (.int .i64 ((rd_T36 l0 x5_3).f3)) ∧ w'.cell? ⟨(ad102.add ((x5_3).toNat * 5)).block, (ad102.add ((x5_3).toNat * 5)).off + 4, none⟩ = some (.int .i64 ((rd_T36 l0 x5_3).f4))) (ds := []) (bl [0, 38]) (by kernel_rfl) rfl rfl ⟨(blk_cell BK103.out 0).trans rfl, (blk_cell BK103.out 1).trans rfl, (blk_cell BK103.out 2).trans rfl, (blk_cell BK103.out 3).trans rfl, (blk_cell BK103.out 4).trans rfl, ((HB.out.cell (World.block_lt_of_cell? w _ hw110_0)).trans hw110_0), ((HB.out.cell (World.block_lt_of_cell? w _ hw110_1)).trans hw110_1), ((HB.out.cell (World.block_lt_of_cell? w _ hw110_2)).trans hw110_2), ((HB.out.cell (World.block_lt_of_cell? w _ hw110_3)).trans hw110_3), ((HB.out.cell (World.block_lt_of_cell? w _ hw110_4)).trans hw110_4), ((HB.out.cell (World.block_lt_of_cell? w _ hw111_0)).trans hw111_0), ((HB.out.cell (World.block_lt_of_cell? w _ hw111_1)).trans hw111_1), ((HB.out.cell (World.block_lt_of_cell? w _ hw111_2)).trans hw111_2), ((HB.out.cell (World.block_lt_of_cell? w _ hw111_3)).trans hw111_3), ((HB.out.cell (World.block_lt_of_cell? w _ hw111_4)).trans hw111_4), ((HB.out.cell (World.block_lt_of_cell? w _ hw112_0)).trans hw112_0), ((HB.out.cell (World.block_lt_of_cell? w _ hw112_1)).trans hw112_1), ((HB.out.cell (World.block_lt_of_cell? w _ hw112_2)).trans hw112_2), ((HB.out.cell (World.block_lt_of_cell? w _ hw112_3)).trans hw112_3), ((HB.out.cell (World.block_lt_of_cell? w _ hw112_4)).trans hw112_4), ((HB.out.cell (World.block_lt_of_cell? w _ hw113_0)).trans hw113_0), ((HB.out.cell (World.block_lt_of_cell? w _ hw113_1)).trans hw113_1), ((HB.out.cell (World.block_lt_of_cell? w _ hw113_2)).trans hw113_2), ((HB.out.cell (World.block_lt_of_cell? w _ hw113_3)).trans hw113_3), ((HB.out.cell (World.block_lt_of_cell? w _ hw113_4)).trans hw113_4)⟩ (fun hHeld => ?_); refine with_tabW syllabaryref21_areas.tab10 syllabaryref21_areas.bits10 (fun HT_ HW_ => ?_)
                 generalize wr.drew = w67 at BK103 HB hx110_0 hx110_1 hx110_2 hx110_3 hx110_4 hx111_0 hx111_1 hx111_2 hx111_3 hx111_4 hx112_0 hx112_1 hx112_2 hx112_3 hx112_4 hx113_0 hx113_1 hx113_2 hx113_3 hx113_4 hHeld ⊢
                 refine qA 0 (some 72) (bl [1, 37]) HT_ ?_
                 refine qA 2 (some 74) (bl [1, 1, 1, 35]) HT_ ?_
                 refine qA 3 (some 75) (bl [1, 1, 2, 34]) HT_ ?_
                 refine qA 4 (some 76) (bl [1, 1, 3, 33]) HT_ ?_
                 refine qA 5 (some 77) (bl [1, 1, 4, 32]) HT_ ?_
                 refine qT 1 (some 73) (bl [6, 32]) HT_ HW_ hHeld ?_
                 refine qT 6 (some 78) (bl [7, 31]) HT_ HW_ hHeld ?_
                 refine qA 7 (some 79) (bl [8, 30]) HT_ ?_
                 refine qA 8 (some 80) (bl [9, 29]) HT_ ?_
                 refine qA 9 (some 81) (bl [10, 28]) HT_ ?_
                 refine qA 10 (some 82) (bl [11, 27]) HT_ ?_
                 refine qA 11 (some 83) (bl [12, 26]) HT_ ?_
                 refine qA 12 (some 84) (bl [13, 25]) HT_ ?_
                 refine qA 14 (some 86) (bl [13, 1, 1, 23]) HT_ ?_
                 refine qT 13 (some 85) (bl [15, 23]) HT_ HW_ hHeld ?_
                 refine qT 15 (some 87) (bl [16, 22]) HT_ HW_ hHeld ?_
                 refine qA 16 (some 88) (bl [17, 21]) HT_ ?_
                 refine qA 17 (some 89) (bl [18, 20]) HT_ ?_
                 refine qA 18 (some 90) (bl [19, 19]) HT_ ?_
                 refine qA 19 (some 91) (bl [20, 18]) HT_ ?_
                 refine qA 21 (some 93) (bl [20, 1, 1, 16]) HT_ ?_
                 refine qA 22 (some 94) (bl [20, 1, 2, 15]) HT_ ?_
                 refine qA 23 (some 95) (bl [20, 1, 3, 14]) HT_ ?_
                 refine qA 24 (some 96) (bl [20, 1, 4, 13]) HT_ ?_
                 refine qT 20 (some 92) (bl [25, 13]) HT_ HW_ hHeld ?_
                 refine qT 25 (some 97) (bl [26, 12]) HT_ HW_ hHeld ?_
                 refine qA 26 (some 98) (bl [27, 11]) HT_ ?_
                 refine qA 27 (some 99) (bl [28, 10]) HT_ ?_
                 refine qA 28 (some 100) (bl [29, 9]) HT_ ?_
                 refine qA 29 (some 101) (bl [30, 8]) HT_ ?_
                 refine qA 30 (some 102) (bl [31, 7]) HT_ ?_
                 refine qA 31 (some 103) (bl [32, 6]) HT_ ?_
                 refine qA 32 (some 104) (bl [33, 5]) HT_ ?_
                 refine qA 34 (some 106) (bl [33, 1, 1, 3]) HT_ ?_
                 refine qT 33 (some 105) (bl [35, 3]) HT_ HW_ hHeld ?_
                 refine qT 35 (some 107) (bl [36, 2]) HT_ HW_ hHeld ?_
                 refine qA 36 (some 108) (bl [37, 1]) HT_ ?_
                 refine qA 37 (some 109) (bl [38]) HT_ ?_
                 refine done_ (done_of HT_.out (by kernel_rfl)) ?_
                 try go_wp2
                 go_roundg k3
                 case measure => have := HK1.out; have := HJ3.out; have := HK3.out; omega
                 case rel => exact ⟨(wrap64 (x5_3 + 1)), (by first | rfl | (simp; done) | (simp [*]; done)), H', ⟨by have := HK1.out; have := HJ3.out; have := HK3.out; omega⟩, ⟨by (with_reducible repeat (first | refine blk_drewN ?_ _ | refine blk_drew ?_ | refine blk_alloc ?_ _)); exact BK103.out⟩, ⟨by repeat (first | (with_reducible first | exact HB.out | apply below_alloc | apply pw_below_drewN | apply below_drew1 | refine below_set ?_ GE103.out) | exact HB.out)⟩⟩
               ·
                rw [if_neg c64] at H
                have c64b0 : decide (((rd_T36 l0 x3_1).f2) ≤ ((rd_T36 l0 x5_3).f4)) = false := decide_eq_false c64
                clear c64
                have H' := Aside0.mk H
                clear H
                try go_wp2
                have n0_ := Aside0.mk (blk_drew BK103.out)
                have n1_ := Aside0.mk (below_drew1 HB.out)
                clear BK103; clear HB
                have BK103 := n0_
                have HB := n1_
                clear n0_ n1_
                have p110 : 0 ≤ (x5_3 : Int) := of_decide_eq_true (by assumption)
                have q110 : x5_3 < (l0.length : Int) := of_decide_eq_true (by assumption)
                obtain ⟨ad110, e110, hx110_0, hx110_1, hx110_2, hx110_3, hx110_4⟩ := at_T36 HR0.out x5_3 p110 q110
                have hw110_4 := hx110_4
                have hw110_3 := hx110_3
                have hw110_2 := hx110_2
                have hw110_1 := hx110_1
                have hw110_0 := hx110_0
                obtain rfl : ad102 = ad110 := (by injection e110)
                replace hx110_0 := (HB.out.cell (World.block_lt_of_cell? w _ hx110_0)).trans hx110_0
                replace hx110_1 := (HB.out.cell (World.block_lt_of_cell? w _ hx110_1)).trans hx110_1
                replace hx110_2 := (HB.out.cell (World.block_lt_of_cell? w _ hx110_2)).trans hx110_2
                replace hx110_3 := (HB.out.cell (World.block_lt_of_cell? w _ hx110_3)).trans hx110_3
                replace hx110_4 := (HB.out.cell (World.block_lt_of_cell? w _ hx110_4)).trans hx110_4
                replace p110 := eq_true p110
                replace q110 := eq_true q110
                have p111 : 0 ≤ (x5_3 : Int) := of_decide_eq_true (by assumption)
                have q111 : x5_3 < (l0.length : Int) := of_decide_eq_true (by assumption)
                obtain ⟨ad111, e111, hx111_0, hx111_1, hx111_2, hx111_3, hx111_4⟩ := at_T36 HR0.out x5_3 p111 q111
                have hw111_4 := hx111_4
                have hw111_3 := hx111_3
                have hw111_2 := hx111_2
                have hw111_1 := hx111_1
                have hw111_0 := hx111_0
                obtain rfl : ad102 = ad111 := (by injection e111)
                replace hx111_0 := (HB.out.cell (World.block_lt_of_cell? w _ hx111_0)).trans hx111_0
                replace hx111_1 := (HB.out.cell (World.block_lt_of_cell? w _ hx111_1)).trans hx111_1
                replace hx111_2 := (HB.out.cell (World.block_lt_of_cell? w _ hx111_2)).trans hx111_2
                replace hx111_3 := (HB.out.cell (World.block_lt_of_cell? w _ hx111_3)).trans hx111_3
                replace hx111_4 := (HB.out.cell (World.block_lt_of_cell? w _ hx111_4)).trans hx111_4
                replace p111 := eq_true p111
                replace q111 := eq_true q111
                have p112 : 0 ≤ (x5_3 : Int) := of_decide_eq_true (by assumption)
                have q112 : x5_3 < (l0.length : Int) := of_decide_eq_true (by assumption)
                obtain ⟨ad112, e112, hx112_0, hx112_1, hx112_2, hx112_3, hx112_4⟩ := at_T36 HR0.out x5_3 p112 q112
                have hw112_4 := hx112_4
                have hw112_3 := hx112_3
                have hw112_2 := hx112_2
                have hw112_1 := hx112_1
                have hw112_0 := hx112_0
                obtain rfl : ad102 = ad112 := (by injection e112)
                replace hx112_0 := (HB.out.cell (World.block_lt_of_cell? w _ hx112_0)).trans hx112_0
                replace hx112_1 := (HB.out.cell (World.block_lt_of_cell? w _ hx112_1)).trans hx112_1
                replace hx112_2 := (HB.out.cell (World.block_lt_of_cell? w _ hx112_2)).trans hx112_2
                replace hx112_3 := (HB.out.cell (World.block_lt_of_cell? w _ hx112_3)).trans hx112_3
                replace hx112_4 := (HB.out.cell (World.block_lt_of_cell? w _ hx112_4)).trans hx112_4
                replace p112 := eq_true p112
                replace q112 := eq_true q112
                refine start_ (n := 38) (S := fun w' => w'.cell? ⟨gb103, 0, none⟩ = some (.int .u8 ((rd_T36 l0 x3_1).f0)) ∧ w'.cell? ⟨gb103, 1, none⟩ = some (.int .i64 ((rd_T36 l0 x3_1).f1)) ∧ w'.cell? ⟨gb103, 2, none⟩ = some (.int .i64 ((rd_T36 l0 x3_1).f2)) ∧ w'.cell? ⟨gb103, 3, none⟩ = some (.int .i64 ((rd_T36 l0 x3_1).f3)) ∧ w'.cell? ⟨gb103, 4, none⟩ = some (.int .i64 ((rd_T36 l0 x3_1).f4)) ∧ w'.cell? (ad102.add ((x5_3).toNat * 5)) = some (.int .u8 ((rd_T36 l0 x5_3).f0)) ∧ w'.cell? ⟨(ad102.add ((x5_3).toNat * 5)).block, (ad102.add ((x5_3).toNat * 5)).off + 1, none⟩ = some (.int .i64 ((rd_T36 l0 x5_3).f1)) ∧ w'.cell? ⟨(ad102.add ((x5_3).toNat * 5)).block, (ad102.add ((x5_3).toNat * 5)).off + 2, none⟩ = some (.int .i64 ((rd_T36 l0 x5_3).f2)) ∧ w'.cell? ⟨(ad102.add ((x5_3).toNat * 5)).block, (ad102.add ((x5_3).toNat * 5)).off + 3, none⟩ = some (.int .i64 ((rd_T36 l0 x5_3).f3)) ∧ w'.cell? ⟨(ad102.add ((x5_3).toNat * 5)).block, (ad102.add ((x5_3).toNat * 5)).off + 4, none⟩ = some (.int .i64 ((rd_T36 l0 x5_3).f4)) ∧ w'.cell? (ad102.add ((x5_3).toNat * 5)) = some (.int .u8 ((rd_T36 l0 x5_3).f0)) ∧ w'.cell? ⟨(ad102.add ((x5_3).toNat * 5)).block, (ad102.add ((x5_3).toNat * 5)).off + 1, none⟩ = some (.int .i64 ((rd_T36 l0 x5_3).f1)) ∧ w'.cell? ⟨(ad102.add ((x5_3).toNat * 5)).block, (ad102.add ((x5_3).toNat * 5)).off + 2, none⟩ = some (.int .i64 ((rd_T36 l0 x5_3).f2)) ∧ w'.cell? ⟨(ad102.add ((x5_3).toNat * 5)).block, (ad102.add ((x5_3).toNat * 5)).off + 3, none⟩ = some (.int .i64 ((rd_T36 l0 x5_3).f3)) ∧ w'.cell? ⟨(ad102.add ((x5_3).toNat * 5)).block, (ad102.add ((x5_3).toNat * 5)).off + 4, none⟩ = some (.int .i64 ((rd_T36 l0 x5_3).f4)) ∧ w'.cell? (ad102.add ((x5_3).toNat * 5)) = some (.int .u8 ((rd_T36 l0 x5_3).f0)) ∧ w'.cell? ⟨(ad102.add ((x5_3).toNat * 5)).block, (ad102.add ((x5_3).toNat * 5)).off + 1, none⟩ = some (.int .i64 ((rd_T36 l0 x5_3).f1)) ∧ w'.cell? ⟨(ad102.add ((x5_3).toNat * 5)).block, (ad102.add ((x5_3).toNat * 5)).off + 2, none⟩ = some (.int .i64 ((rd_T36 l0 x5_3).f2)) ∧ w'.cell? ⟨(ad102.add ((x5_3).toNat * 5)).block, (ad102.add ((x5_3).toNat * 5)).off + 3, none⟩ = some (.int .i64 ((rd_T36 l0 x5_3).f3)) ∧ w'.cell? ⟨(ad102.add ((x5_3).toNat * 5)).block, (ad102.add ((x5_3).toNat * 5)).off + 4, none⟩ = some (.int .i64 ((rd_T36 l0 x5_3).f4))) (ds := []) (bl [0, 38]) (by kernel_rfl) rfl rfl ⟨(blk_cell BK103.out 0).trans rfl, (blk_cell BK103.out 1).trans rfl, (blk_cell BK103.out 2).trans rfl, (blk_cell BK103.out 3).trans rfl, (blk_cell BK103.out 4).trans rfl, ((HB.out.cell (World.block_lt_of_cell? w _ hw110_0)).trans hw110_0), ((HB.out.cell (World.block_lt_of_cell? w _ hw110_1)).trans hw110_1), ((HB.out.cell (World.block_lt_of_cell? w _ hw110_2)).trans hw110_2), ((HB.out.cell (World.block_lt_of_cell? w _ hw110_3)).trans hw110_3), ((HB.out.cell (World.block_lt_of_cell? w _ hw110_4)).trans hw110_4), ((HB.out.cell (World.block_lt_of_cell? w _ hw111_0)).trans hw111_0), ((HB.out.cell (World.block_lt_of_cell? w _ hw111_1)).trans hw111_1), ((HB.out.cell (World.block_lt_of_cell? w _ hw111_2)).trans hw111_2), ((HB.out.cell (World.block_lt_of_cell? w _ hw111_3)).trans hw111_3), ((HB.out.cell (World.block_lt_of_cell? w _ hw111_4)).trans hw111_4), ((HB.out.cell (World.block_lt_of_cell? w _ hw112_0)).trans hw112_0), ((HB.out.cell (World.block_lt_of_cell? w _ hw112_1)).trans hw112_1), ((HB.out.cell (World.block_lt_of_cell? w _ hw112_2)).trans hw112_2), ((HB.out.cell (World.block_lt_of_cell? w _ hw112_3)).trans hw112_3), ((HB.out.cell (World.block_lt_of_cell? w _ hw112_4)).trans hw112_4)⟩ (fun hHeld => ?_); refine with_tabW syllabaryref21_areas.tab10 syllabaryref21_areas.bits10 (fun HT_ HW_ => ?_)
                generalize wr.drew = w68 at BK103 HB hx110_0 hx110_1 hx110_2 hx110_3 hx110_4 hx111_0 hx111_1 hx111_2 hx111_3 hx111_4 hx112_0 hx112_1 hx112_2 hx112_3 hx112_4 hHeld ⊢
                refine qA 0 (some 72) (bl [1, 37]) HT_ ?_
                refine qA 2 (some 74) (bl [1, 1, 1, 35]) HT_ ?_
                refine qA 3 (some 75) (bl [1, 1, 2, 34]) HT_ ?_
                refine qA 4 (some 76) (bl [1, 1, 3, 33]) HT_ ?_
                refine qA 5 (some 77) (bl [1, 1, 4, 32]) HT_ ?_
                refine qT 1 (some 73) (bl [6, 32]) HT_ HW_ hHeld ?_
                refine qT 6 (some 78) (bl [7, 31]) HT_ HW_ hHeld ?_
                refine qA 7 (some 79) (bl [8, 30]) HT_ ?_
                refine qA 8 (some 80) (bl [9, 29]) HT_ ?_
                refine qA 9 (some 81) (bl [10, 28]) HT_ ?_
                refine qA 10 (some 82) (bl [11, 27]) HT_ ?_
                refine qA 11 (some 83) (bl [12, 26]) HT_ ?_
                refine qA 12 (some 84) (bl [13, 25]) HT_ ?_
                refine qA 14 (some 86) (bl [13, 1, 1, 23]) HT_ ?_
                refine qT 13 (some 85) (bl [15, 23]) HT_ HW_ hHeld ?_
                refine qT 15 (some 87) (bl [16, 22]) HT_ HW_ hHeld ?_
                refine qA 16 (some 88) (bl [17, 21]) HT_ ?_
                refine qA 17 (some 89) (bl [18, 20]) HT_ ?_
                refine qA 18 (some 90) (bl [19, 19]) HT_ ?_
                refine qA 19 (some 91) (bl [20, 18]) HT_ ?_
                refine qA 21 (some 93) (bl [20, 1, 1, 16]) HT_ ?_
                refine qA 22 (some 94) (bl [20, 1, 2, 15]) HT_ ?_
                refine qA 23 (some 95) (bl [20, 1, 3, 14]) HT_ ?_
                refine qA 24 (some 96) (bl [20, 1, 4, 13]) HT_ ?_
                refine qT 20 (some 92) (bl [25, 13]) HT_ HW_ hHeld ?_
                refine qT 25 (some 97) (bl [26, 12]) HT_ HW_ hHeld ?_
                refine qA 26 (some 98) (bl [27, 11]) HT_ ?_
                refine qA 27 (some 99) (bl [28, 10]) HT_ ?_
                refine qA 28 (some 100) (bl [29, 9]) HT_ ?_
                refine qO 29 (some 101) (bl [30, 8]) HT_ ?_
                refine qO 30 (some 102) (bl [31, 7]) HT_ ?_
                refine qO 31 (some 103) (bl [32, 6]) HT_ ?_
                refine qO 32 (some 104) (bl [33, 5]) HT_ ?_
                refine qO 33 (some 105) (bl [34, 4]) HT_ ?_
                refine qO 34 (some 106) (bl [35, 3]) HT_ ?_
                refine qO 35 (some 107) (bl [36, 2]) HT_ ?_
                refine qO 36 (some 108) (bl [37, 1]) HT_ ?_
                refine qA 37 (some 109) (bl [38]) HT_ ?_
                refine done_ (done_of HT_.out (by kernel_rfl)) ?_
                try go_wp2
                go_roundg k3
                case measure => have := HK1.out; have := HJ3.out; have := HK3.out; omega
                case rel => exact ⟨(wrap64 (x5_3 + 1)), (by first | rfl | (simp; done) | (simp [*]; done)), H', ⟨by have := HK1.out; have := HJ3.out; have := HK3.out; omega⟩, ⟨by (with_reducible repeat (first | refine blk_drewN ?_ _ | refine blk_drew ?_ | refine blk_alloc ?_ _)); exact BK103.out⟩, ⟨by repeat (first | (with_reducible first | exact HB.out | apply below_alloc | apply pw_below_drewN | apply below_drew1 | refine below_set ?_ GE103.out) | exact HB.out)⟩⟩
              ·
               rw [if_neg c63] at H
               have c63b0 : decide (((rd_T36 l0 x5_3).f1) ≤ ((rd_T36 l0 x3_1).f3)) = false := decide_eq_false c63
               clear c63
               have H' := Aside0.mk H
               clear H
               try go_wp2
               have n0_ := Aside0.mk (blk_drew BK103.out)
               have n1_ := Aside0.mk (below_drew1 HB.out)
               clear BK103; clear HB
               have BK103 := n0_
               have HB := n1_
               clear n0_ n1_
               have p110 : 0 ≤ (x5_3 : Int) := of_decide_eq_true (by assumption)
               have q110 : x5_3 < (l0.length : Int) := of_decide_eq_true (by assumption)
               obtain ⟨ad110, e110, hx110_0, hx110_1, hx110_2, hx110_3, hx110_4⟩ := at_T36 HR0.out x5_3 p110 q110
               have hw110_4 := hx110_4
               have hw110_3 := hx110_3
               have hw110_2 := hx110_2
               have hw110_1 := hx110_1
               have hw110_0 := hx110_0
               obtain rfl : ad102 = ad110 := (by injection e110)
               replace hx110_0 := (HB.out.cell (World.block_lt_of_cell? w _ hx110_0)).trans hx110_0
               replace hx110_1 := (HB.out.cell (World.block_lt_of_cell? w _ hx110_1)).trans hx110_1
               replace hx110_2 := (HB.out.cell (World.block_lt_of_cell? w _ hx110_2)).trans hx110_2
               replace hx110_3 := (HB.out.cell (World.block_lt_of_cell? w _ hx110_3)).trans hx110_3
               replace hx110_4 := (HB.out.cell (World.block_lt_of_cell? w _ hx110_4)).trans hx110_4
               replace p110 := eq_true p110
               replace q110 := eq_true q110
               have p111 : 0 ≤ (x5_3 : Int) := of_decide_eq_true (by assumption)
               have q111 : x5_3 < (l0.length : Int) := of_decide_eq_true (by assumption)
               obtain ⟨ad111, e111, hx111_0, hx111_1, hx111_2, hx111_3, hx111_4⟩ := at_T36 HR0.out x5_3 p111 q111
               have hw111_4 := hx111_4
               have hw111_3 := hx111_3
               have hw111_2 := hx111_2
               have hw111_1 := hx111_1
               have hw111_0 := hx111_0
               obtain rfl : ad102 = ad111 := (by injection e111)
               replace hx111_0 := (HB.out.cell (World.block_lt_of_cell? w _ hx111_0)).trans hx111_0
               replace hx111_1 := (HB.out.cell (World.block_lt_of_cell? w _ hx111_1)).trans hx111_1
               replace hx111_2 := (HB.out.cell (World.block_lt_of_cell? w _ hx111_2)).trans hx111_2
               replace hx111_3 := (HB.out.cell (World.block_lt_of_cell? w _ hx111_3)).trans hx111_3
               replace hx111_4 := (HB.out.cell (World.block_lt_of_cell? w _ hx111_4)).trans hx111_4
               replace p111 := eq_true p111
               replace q111 := eq_true q111
               refine start_ (n := 38) (S := fun w' => w'.cell? ⟨gb103, 0, none⟩ = some (.int .u8 ((rd_T36 l0 x3_1).f0)) ∧ w'.cell? ⟨gb103, 1, none⟩ = some (.int .i64 ((rd_T36 l0 x3_1).f1)) ∧ w'.cell? ⟨gb103, 2, none⟩ = some (.int .i64 ((rd_T36 l0 x3_1).f2)) ∧ w'.cell? ⟨gb103, 3, none⟩ = some (.int .i64 ((rd_T36 l0 x3_1).f3)) ∧ w'.cell? ⟨gb103, 4, none⟩ = some (.int .i64 ((rd_T36 l0 x3_1).f4)) ∧ w'.cell? (ad102.add ((x5_3).toNat * 5)) = some (.int .u8 ((rd_T36 l0 x5_3).f0)) ∧ w'.cell? ⟨(ad102.add ((x5_3).toNat * 5)).block, (ad102.add ((x5_3).toNat * 5)).off + 1, none⟩ = some (.int .i64 ((rd_T36 l0 x5_3).f1)) ∧ w'.cell? ⟨(ad102.add ((x5_3).toNat * 5)).block, (ad102.add ((x5_3).toNat * 5)).off + 2, none⟩ = some (.int .i64 ((rd_T36 l0 x5_3).f2)) ∧ w'.cell? ⟨(ad102.add ((x5_3).toNat * 5)).block, (ad102.add ((x5_3).toNat * 5)).off + 3, none⟩ = some (.int .i64 ((rd_T36 l0 x5_3).f3)) ∧ w'.cell? ⟨(ad102.add ((x5_3).toNat * 5)).block, (ad102.add ((x5_3).toNat * 5)).off + 4, none⟩ = some (.int .i64 ((rd_T36 l0 x5_3).f4)) ∧ w'.cell? (ad102.add ((x5_3).toNat * 5)) = some (.int .u8 ((rd_T36 l0 x5_3).f0)) ∧ w'.cell? ⟨(ad102.add ((x5_3).toNat * 5)).block, (ad102.add ((x5_3).toNat * 5)).off + 1, none⟩ = some (.int .i64 ((rd_T36 l0 x5_3).f1)) ∧ w'.cell? ⟨(ad102.add ((x5_3).toNat * 5)).block, (ad102.add ((x5_3).toNat * 5)).off + 2, none⟩ = some (.int .i64 ((rd_T36 l0 x5_3).f2)) ∧ w'.cell? ⟨(ad102.add ((x5_3).toNat * 5)).block, (ad102.add ((x5_3).toNat * 5)).off + 3, none⟩ = some (.int .i64 ((rd_T36 l0 x5_3).f3)) ∧ w'.cell? ⟨(ad102.add ((x5_3).toNat * 5)).block, (ad102.add ((x5_3).toNat * 5)).off + 4, none⟩ = some (.int .i64 ((rd_T36 l0 x5_3).f4))) (ds := []) (bl [0, 38]) (by kernel_rfl) rfl rfl ⟨(blk_cell BK103.out 0).trans rfl, (blk_cell BK103.out 1).trans rfl, (blk_cell BK103.out 2).trans rfl, (blk_cell BK103.out 3).trans rfl, (blk_cell BK103.out 4).trans rfl, ((HB.out.cell (World.block_lt_of_cell? w _ hw110_0)).trans hw110_0), ((HB.out.cell (World.block_lt_of_cell? w _ hw110_1)).trans hw110_1), ((HB.out.cell (World.block_lt_of_cell? w _ hw110_2)).trans hw110_2), ((HB.out.cell (World.block_lt_of_cell? w _ hw110_3)).trans hw110_3), ((HB.out.cell (World.block_lt_of_cell? w _ hw110_4)).trans hw110_4), ((HB.out.cell (World.block_lt_of_cell? w _ hw111_0)).trans hw111_0), ((HB.out.cell (World.block_lt_of_cell? w _ hw111_1)).trans hw111_1), ((HB.out.cell (World.block_lt_of_cell? w _ hw111_2)).trans hw111_2), ((HB.out.cell (World.block_lt_of_cell? w _ hw111_3)).trans hw111_3), ((HB.out.cell (World.block_lt_of_cell? w _ hw111_4)).trans hw111_4)⟩ (fun hHeld => ?_); refine with_tabW syllabaryref21_areas.tab10 syllabaryref21_areas.bits10 (fun HT_ HW_ => ?_)
               generalize wr.drew = w69 at BK103 HB hx110_0 hx110_1 hx110_2 hx110_3 hx110_4 hx111_0 hx111_1 hx111_2 hx111_3 hx111_4 hHeld ⊢
               refine qA 0 (some 72) (bl [1, 37]) HT_ ?_
               refine qA 2 (some 74) (bl [1, 1, 1, 35]) HT_ ?_
               refine qA 3 (some 75) (bl [1, 1, 2, 34]) HT_ ?_
               refine qA 4 (some 76) (bl [1, 1, 3, 33]) HT_ ?_
               refine qA 5 (some 77) (bl [1, 1, 4, 32]) HT_ ?_
               refine qT 1 (some 73) (bl [6, 32]) HT_ HW_ hHeld ?_
               refine qT 6 (some 78) (bl [7, 31]) HT_ HW_ hHeld ?_
               refine qA 7 (some 79) (bl [8, 30]) HT_ ?_
               refine qA 8 (some 80) (bl [9, 29]) HT_ ?_
               refine qA 9 (some 81) (bl [10, 28]) HT_ ?_
               refine qA 10 (some 82) (bl [11, 27]) HT_ ?_
               refine qA 11 (some 83) (bl [12, 26]) HT_ ?_
               refine qA 12 (some 84) (bl [13, 25]) HT_ ?_
               refine qA 14 (some 86) (bl [13, 1, 1, 23]) HT_ ?_
               refine qT 13 (some 85) (bl [15, 23]) HT_ HW_ hHeld ?_
               refine qT 15 (some 87) (bl [16, 22]) HT_ HW_ hHeld ?_
               refine qA 16 (some 88) (bl [17, 21]) HT_ ?_
               refine qA 17 (some 89) (bl [18, 20]) HT_ ?_
               refine qA 18 (some 90) (bl [19, 19]) HT_ ?_
               refine qO 19 (some 91) (bl [20, 18]) HT_ ?_
               refine qO 20 (some 92) (bl [21, 17]) HT_ ?_
               refine qO 21 (some 93) (bl [22, 16]) HT_ ?_
               refine qO 22 (some 94) (bl [23, 15]) HT_ ?_
               refine qO 23 (some 95) (bl [24, 14]) HT_ ?_
               refine qO 24 (some 96) (bl [25, 13]) HT_ ?_
               refine qO 25 (some 97) (bl [26, 12]) HT_ ?_
               refine qO 26 (some 98) (bl [27, 11]) HT_ ?_
               refine qA 27 (some 99) (bl [28, 10]) HT_ ?_
               refine qA 28 (some 100) (bl [29, 9]) HT_ ?_
               refine qO 29 (some 101) (bl [30, 8]) HT_ ?_
               refine qO 30 (some 102) (bl [31, 7]) HT_ ?_
               refine qO 31 (some 103) (bl [32, 6]) HT_ ?_
               refine qO 32 (some 104) (bl [33, 5]) HT_ ?_
               refine qO 33 (some 105) (bl [34, 4]) HT_ ?_
               refine qO 34 (some 106) (bl [35, 3]) HT_ ?_
               refine qO 35 (some 107) (bl [36, 2]) HT_ ?_
               refine qO 36 (some 108) (bl [37, 1]) HT_ ?_
               refine qA 37 (some 109) (bl [38]) HT_ ?_
               refine done_ (done_of HT_.out (by kernel_rfl)) ?_
               try go_wp2
               go_roundg k3
               case measure => have := HK1.out; have := HJ3.out; have := HK3.out; omega
               case rel => exact ⟨(wrap64 (x5_3 + 1)), (by first | rfl | (simp; done) | (simp [*]; done)), H', ⟨by have := HK1.out; have := HJ3.out; have := HK3.out; omega⟩, ⟨by (with_reducible repeat (first | refine blk_drewN ?_ _ | refine blk_drew ?_ | refine blk_alloc ?_ _)); exact BK103.out⟩, ⟨by repeat (first | (with_reducible first | exact HB.out | apply below_alloc | apply pw_below_drewN | apply below_drew1 | refine below_set ?_ GE103.out) | exact HB.out)⟩⟩
             ·
              rw [if_neg c62] at H
              have c62b0 : decide (((rd_T36 l0 x3_1).f1) ≤ ((rd_T36 l0 x5_3).f3)) = false := decide_eq_false c62
              clear c62
              have H' := Aside0.mk H
              clear H
              try go_wp2
              have n0_ := Aside0.mk (blk_drew BK103.out)
              have n1_ := Aside0.mk (below_drew1 HB.out)
              clear BK103; clear HB
              have BK103 := n0_
              have HB := n1_
              clear n0_ n1_
              have p110 : 0 ≤ (x5_3 : Int) := of_decide_eq_true (by assumption)
              have q110 : x5_3 < (l0.length : Int) := of_decide_eq_true (by assumption)
              obtain ⟨ad110, e110, hx110_0, hx110_1, hx110_2, hx110_3, hx110_4⟩ := at_T36 HR0.out x5_3 p110 q110
              have hw110_4 := hx110_4
              have hw110_3 := hx110_3
              have hw110_2 := hx110_2
              have hw110_1 := hx110_1
              have hw110_0 := hx110_0
              obtain rfl : ad102 = ad110 := (by injection e110)
              replace hx110_0 := (HB.out.cell (World.block_lt_of_cell? w _ hx110_0)).trans hx110_0
              replace hx110_1 := (HB.out.cell (World.block_lt_of_cell? w _ hx110_1)).trans hx110_1
              replace hx110_2 := (HB.out.cell (World.block_lt_of_cell? w _ hx110_2)).trans hx110_2
              replace hx110_3 := (HB.out.cell (World.block_lt_of_cell? w _ hx110_3)).trans hx110_3
              replace hx110_4 := (HB.out.cell (World.block_lt_of_cell? w _ hx110_4)).trans hx110_4
              replace p110 := eq_true p110
              replace q110 := eq_true q110
              refine start_ (n := 38) (S := fun w' => w'.cell? ⟨gb103, 0, none⟩ = some (.int .u8 ((rd_T36 l0 x3_1).f0)) ∧ w'.cell? ⟨gb103, 1, none⟩ = some (.int .i64 ((rd_T36 l0 x3_1).f1)) ∧ w'.cell? ⟨gb103, 2, none⟩ = some (.int .i64 ((rd_T36 l0 x3_1).f2)) ∧ w'.cell? ⟨gb103, 3, none⟩ = some (.int .i64 ((rd_T36 l0 x3_1).f3)) ∧ w'.cell? ⟨gb103, 4, none⟩ = some (.int .i64 ((rd_T36 l0 x3_1).f4)) ∧ w'.cell? (ad102.add ((x5_3).toNat * 5)) = some (.int .u8 ((rd_T36 l0 x5_3).f0)) ∧ w'.cell? ⟨(ad102.add ((x5_3).toNat * 5)).block, (ad102.add ((x5_3).toNat * 5)).off + 1, none⟩ = some (.int .i64 ((rd_T36 l0 x5_3).f1)) ∧ w'.cell? ⟨(ad102.add ((x5_3).toNat * 5)).block, (ad102.add ((x5_3).toNat * 5)).off + 2, none⟩ = some (.int .i64 ((rd_T36 l0 x5_3).f2)) ∧ w'.cell? ⟨(ad102.add ((x5_3).toNat * 5)).block, (ad102.add ((x5_3).toNat * 5)).off + 3, none⟩ = some (.int .i64 ((rd_T36 l0 x5_3).f3)) ∧ w'.cell? ⟨(ad102.add ((x5_3).toNat * 5)).block, (ad102.add ((x5_3).toNat * 5)).off + 4, none⟩ = some (.int .i64 ((rd_T36 l0 x5_3).f4))) (ds := []) (bl [0, 38]) (by kernel_rfl) rfl rfl ⟨(blk_cell BK103.out 0).trans rfl, (blk_cell BK103.out 1).trans rfl, (blk_cell BK103.out 2).trans rfl, (blk_cell BK103.out 3).trans rfl, (blk_cell BK103.out 4).trans rfl, ((HB.out.cell (World.block_lt_of_cell? w _ hw110_0)).trans hw110_0), ((HB.out.cell (World.block_lt_of_cell? w _ hw110_1)).trans hw110_1), ((HB.out.cell (World.block_lt_of_cell? w _ hw110_2)).trans hw110_2), ((HB.out.cell (World.block_lt_of_cell? w _ hw110_3)).trans hw110_3), ((HB.out.cell (World.block_lt_of_cell? w _ hw110_4)).trans hw110_4)⟩ (fun hHeld => ?_); refine with_tabW syllabaryref21_areas.tab10 syllabaryref21_areas.bits10 (fun HT_ HW_ => ?_)
              generalize wr.drew = w70 at BK103 HB hx110_0 hx110_1 hx110_2 hx110_3 hx110_4 hHeld ⊢
              refine qA 0 (some 72) (bl [1, 37]) HT_ ?_
              refine qA 2 (some 74) (bl [1, 1, 1, 35]) HT_ ?_
              refine qA 3 (some 75) (bl [1, 1, 2, 34]) HT_ ?_
              refine qA 4 (some 76) (bl [1, 1, 3, 33]) HT_ ?_
              refine qA 5 (some 77) (bl [1, 1, 4, 32]) HT_ ?_
              refine qT 1 (some 73) (bl [6, 32]) HT_ HW_ hHeld ?_
              refine qT 6 (some 78) (bl [7, 31]) HT_ HW_ hHeld ?_
              refine qA 7 (some 79) (bl [8, 30]) HT_ ?_
              refine qA 8 (some 80) (bl [9, 29]) HT_ ?_
              refine qO 9 (some 81) (bl [10, 28]) HT_ ?_
              refine qO 10 (some 82) (bl [11, 27]) HT_ ?_
              refine qO 11 (some 83) (bl [12, 26]) HT_ ?_
              refine qO 12 (some 84) (bl [13, 25]) HT_ ?_
              refine qO 13 (some 85) (bl [14, 24]) HT_ ?_
              refine qO 14 (some 86) (bl [15, 23]) HT_ ?_
              refine qO 15 (some 87) (bl [16, 22]) HT_ ?_
              refine qO 16 (some 88) (bl [17, 21]) HT_ ?_
              refine qA 17 (some 89) (bl [18, 20]) HT_ ?_
              refine qA 18 (some 90) (bl [19, 19]) HT_ ?_
              refine qO 19 (some 91) (bl [20, 18]) HT_ ?_
              refine qO 20 (some 92) (bl [21, 17]) HT_ ?_
              refine qO 21 (some 93) (bl [22, 16]) HT_ ?_
              refine qO 22 (some 94) (bl [23, 15]) HT_ ?_
              refine qO 23 (some 95) (bl [24, 14]) HT_ ?_
              refine qO 24 (some 96) (bl [25, 13]) HT_ ?_
              refine qO 25 (some 97) (bl [26, 12]) HT_ ?_
              refine qO 26 (some 98) (bl [27, 11]) HT_ ?_
              refine qA 27 (some 99) (bl [28, 10]) HT_ ?_
              refine qA 28 (some 100) (bl [29, 9]) HT_ ?_
              refine qO 29 (some 101) (bl [30, 8]) HT_ ?_
              refine qO 30 (some 102) (bl [31, 7]) HT_ ?_
              refine qO 31 (some 103) (bl [32, 6]) HT_ ?_
              refine qO 32 (some 104) (bl [33, 5]) HT_ ?_
              refine qO 33 (some 105) (bl [34, 4]) HT_ ?_
              refine qO 34 (some 106) (bl [35, 3]) HT_ ?_
              refine qO 35 (some 107) (bl [36, 2]) HT_ ?_
              refine qO 36 (some 108) (bl [37, 1]) HT_ ?_
              refine qA 37 (some 109) (bl [38]) HT_ ?_
              refine done_ (done_of HT_.out (by kernel_rfl)) ?_
              try go_wp2
              go_roundg k3
              case measure => have := HK1.out; have := HJ3.out; have := HK3.out; omega
              case rel => exact ⟨(wrap64 (x5_3 + 1)), (by first | rfl | (simp; done) | (simp [*]; done)), H', ⟨by have := HK1.out; have := HJ3.out; have := HK3.out; omega⟩, ⟨by (with_reducible repeat (first | refine blk_drewN ?_ _ | refine blk_drew ?_ | refine blk_alloc ?_ _)); exact BK103.out⟩, ⟨by repeat (first | (with_reducible first | exact HB.out | apply below_alloc | apply pw_below_drewN | apply below_drew1 | refine below_set ?_ GE103.out) | exact HB.out)⟩⟩
            ·
             rw [if_neg c61] at H
             exact absurd H (by simp)
           ·
            rw [if_neg c60] at H
            exact absurd H (by simp)
          ·
           rw [if_neg c59] at H
           have c59b0 : decide (x5_3 < x3_1) = false := decide_eq_false c59
           clear c59
           have H' := Aside0.mk H
           clear H
           go_wp2
           go_roundg k3
           case measure => have := HK1.out; have := HJ3.out; have := HK3.out; omega
           case rel => exact ⟨(wrap64 (x3_1 + 1)), (by first | rfl | (simp; done) | (simp [*]; done)), H', ⟨by have := HK1.out; have := HJ3.out; have := HK3.out; omega⟩, ⟨by repeat (first | (with_reducible first | exact HB.out | apply below_alloc | apply pw_below_drewN | apply below_drew1 | refine below_set ?_ GE103.out) | exact HB.out)⟩⟩
    ·
     rw [if_neg c3] at H
     exact absurd H (by simp)
   ·
    rw [if_neg c2] at H
    have c2b0 : decide (x3_1 < (l0.length : Int)) = false := decide_eq_false c2
    clear c2
    obtain rfl := Option.some.inj H
    go_wp2
    go_ret
    exact ⟨by first | rfl | (simp [errW_none, errW_some] <;> rfl) | (simp [*, errW_none, errW_some] <;> rfl), by repeat (first | (with_reducible first | exact HB.out | apply below_alloc | apply pw_below_drewN | apply below_drew1) | exact HB.out)⟩

end Go.Proofs.Ytplhilglokbplaa.PAll
