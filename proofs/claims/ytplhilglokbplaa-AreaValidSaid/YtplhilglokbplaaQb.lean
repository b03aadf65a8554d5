/- syllabaryref21_templates: printed by the kit's print.py, made smaller by squeeze.py. -/
import Derived.Test.YtplhilglokbplaaQz
import Derived.Test.YtplhilglokbplaaQt
import Derived.Test.YtplhilglokbplaaQa
namespace Go.Proofs.Ytplhilglokbplaa.PAll
open Go.RowKit Go.Proofs.YtplhilglokbplaaW.PrintWords Go.Proofs.YtplhilglokbplaaW.PrintLast Go.Proofs.YtplhilglokbplaaW.PrintMore
attribute [local go_sem] max2_int min2_int max_two min_two max_three min_three max_four min_four   -- for this text's walks alone
set_option linter.unusedVariables false
set_option linter.unusedSimpArgs false
attribute [local go_sem high] eqA103 eqA225 eqA59 eqA63 eqA84

/-! ### syllabaryref21_templates: function 45 -/
mutual
def syllabaryref21_templates.l0 : Nat → List (S33) → Int → Option (Bool)
 | 0, _, _ => none
 | k + 1, x0, x3 => if x3 < (x0.length : Int) then (if 0 ≤ x3 then ((syllabaryref21_Letter.f ((rd_T33 x0 x3).f0)).bind fun t180 => (if t180 = true then (if x3 > 0 then (if 0 ≤ (wrap64 (x3 - 1)) then (if (wrap64 (x3 - 1)) < (x0.length : Int) then (if ((rd_T33 x0 x3).f0) ≤ ((rd_T33 x0 (wrap64 (x3 - 1))).f0) then (syllabaryref21_templates.j1 k x0 x3 true) else (if (((rd_T33 x0 x3).f1).length : Int) < 2 then (syllabaryref21_templates.j1 k x0 x3 true) else (syllabaryref21_templates.j1 k x0 x3 (decide ((((rd_T33 x0 x3).f1).length : Int) > 12))))) else (none)) else (none)) else (if (((rd_T33 x0 x3).f1).length : Int) < 2 then (syllabaryref21_templates.j1 k x0 x3 true) else (syllabaryref21_templates.j1 k x0 x3 (decide ((((rd_T33 x0 x3).f1).length : Int) > 12))))) else (syllabaryref21_templates.j1 k x0 x3 true))) else (none)) else (some (decide ((x0.length : Int) ≤ 26)))
def syllabaryref21_templates.j1 : Nat → List (S33) → Int → Bool → Option (Bool)
 | 0, _, _, _ => none
 | k + 1, x0, x3, x53 => if x53 = true then (some false) else (syllabaryref21_templates.l1 k x0 x3 0)
def syllabaryref21_templates.l1 : Nat → List (S33) → Int → Int → Option (Bool)
 | 0, _, _, _ => none
 | k + 1, x0, x3, x4 => if 0 ≤ x3 then (if x3 < (x0.length : Int) then (if x4 < (((rd_T33 x0 x3).f1).length : Int) then (if 0 ≤ x4 then ((syllabaryref21_Inside.f ((rd_T89 ((rd_T33 x0 x3).f1) x4).f0) ((rd_T89 ((rd_T33 x0 x3).f1) x4).f1)).bind fun t190 => (if t190 = true then (syllabaryref21_templates.l1 k x0 x3 (wrap64 (x4 + 1))) else (some false))) else (none)) else (syllabaryref21_templates.l0 k x0 (wrap64 (x3 + 1)))) else (none)) else (none)
end
def syllabaryref21_templates.f (k : Nat) (l0 : List (S33)) : Option (Bool) := syllabaryref21_templates.l0 k l0 0
theorem syllabaryref21_templates.mono_l : ∀ k, (∀ y0 y1, LeO (syllabaryref21_templates.l0 k y0 y1) (syllabaryref21_templates.l0 (k + 1) y0 y1)) ∧ (∀ y0 y1 y2, LeO (syllabaryref21_templates.j1 k y0 y1 y2) (syllabaryref21_templates.j1 (k + 1) y0 y1 y2)) ∧ (∀ y0 y1 y2, LeO (syllabaryref21_templates.l1 k y0 y1 y2) (syllabaryref21_templates.l1 (k + 1) y0 y1 y2))
 | 0 => ⟨fun _ _ r h => by simp [syllabaryref21_templates.l0] at h, fun _ _ _ r h => by simp [syllabaryref21_templates.j1] at h, fun _ _ _ r h => by simp [syllabaryref21_templates.l1] at h⟩
 | k + 1 => by
  obtain ⟨ih0, ih1, ih2⟩ := syllabaryref21_templates.mono_l k
  refine ⟨?_, ?_, ?_⟩
  ·
   intro y0 y1
   unfold syllabaryref21_templates.l0
   repeat' first
   | (with_reducible exact ih0 _ _)
   | (with_reducible exact ih1 _ _ _)
   | (with_reducible exact ih2 _ _ _)
   | (with_reducible exact LeO.refl _)
   | (with_reducible exact LeO.none _)
   | (with_reducible refine LeO.ite ?_ ?_)
   | (with_reducible refine LeO.bind ?_ (fun _ => ?_))
   | exact ih0 _ _
   | exact ih1 _ _ _
   | exact ih2 _ _ _
   | exact LeO.none _
   | refine LeO.ite ?_ ?_
   | refine LeO.bind ?_ (fun _ => ?_)
  ·
   intro y0 y1 y2
   unfold syllabaryref21_templates.j1
   repeat' first
   | (with_reducible exact ih0 _ _)
   | (with_reducible exact ih1 _ _ _)
   | (with_reducible exact ih2 _ _ _)
   | (with_reducible exact LeO.refl _)
   | (with_reducible exact LeO.none _)
   | (with_reducible refine LeO.ite ?_ ?_)
   | (with_reducible refine LeO.bind ?_ (fun _ => ?_))
   | exact ih0 _ _
   | exact ih1 _ _ _
   | exact ih2 _ _ _
   | exact LeO.none _
   | refine LeO.ite ?_ ?_
   | refine LeO.bind ?_ (fun _ => ?_)
  ·
   intro y0 y1 y2
   unfold syllabaryref21_templates.l1
   repeat' first
   | (with_reducible exact ih0 _ _)
   | (with_reducible exact ih1 _ _ _)
   | (with_reducible exact ih2 _ _ _)
   | (with_reducible exact LeO.refl _)
   | (with_reducible exact LeO.none _)
   | (with_reducible refine LeO.ite ?_ ?_)
   | (with_reducible refine LeO.bind ?_ (fun _ => ?_))
   | exact ih0 _ _
   | exact ih1 _ _ _
   | exact ih2 _ _ _
   | exact LeO.none _
   | refine LeO.ite ?_ ?_
   | refine LeO.bind ?_ (fun _ => ?_)
theorem syllabaryref21_templates.mono : ∀ a0 k, LeO (syllabaryref21_templates.f k a0) (syllabaryref21_templates.f (k + 1) a0) := by
 intro a0 k
 obtain ⟨ih0, ih1, ih2⟩ := syllabaryref21_templates.mono_l k
 unfold syllabaryref21_templates.f
 repeat' first
   | (with_reducible exact ih0 _ _)
   | (with_reducible exact ih1 _ _ _)
   | (with_reducible exact ih2 _ _ _)
   | (with_reducible exact LeO.refl _)
   | (with_reducible exact LeO.none _)
   | (with_reducible refine LeO.ite ?_ ?_)
   | (with_reducible refine LeO.bind ?_ (fun _ => ?_))
   | exact ih0 _ _
   | exact ih1 _ _ _
   | exact ih2 _ _ _
   | exact LeO.none _
   | refine LeO.ite ?_ ?_
   | refine LeO.bind ?_ (fun _ => ?_)
def syllabaryref21_templates.T4 : Bool × List (List Nat × List Nat) := (true, [([], []), ([], []), ([0, 1], [0, 1]), ([2], [2]), ([3], [3]), ([4], [4]), ([5], [5]), ([6, 5], [6]), ([7], [7]), ([8, 7], [7, 8]), ([9, 7, 7], [7, 9]), ([10], [10]), ([10], [10]), ([11, 12, 10], [10, 11, 12]), ([13, 10], [10, 13]), ([14, 10], [10, 14]), ([10], [10]), ([10], [10]), ([17, 10], [10, 17]), ([16, 18, 10], [10, 16, 18]), ([19, 10], [10, 19]), ([20, 10], [10, 20]), ([15, 21, 10], [10, 15, 21]), ([10, 22, 7], [7, 10, 22]), ([7, 23], [7, 23]), ([24, 10], [24]), ([25], [25]), ([25], [25]), ([26, 27, 25], [25, 26, 27]), ([28, 25], [25, 28]), ([29, 25], [25, 29]), ([30, 25], [25, 30]), ([31, 25], [25, 31]), ([25, 32], [25, 32]), ([33, 25], [33]), ([34], [34]), ([34], [34]), ([35, 36, 34], [34, 35, 36]), ([37, 34], [34, 37]), ([38, 34], [34, 38]), ([39, 34], [34, 39]), ([40, 34], [34, 40]), ([34, 41], [34, 41])])
def syllabaryref21_templates.B4 : List Nat := [0, 0, 3, 7, 15, 31, 63, 127, 255, 511, 1023, 2047, 2047, 8191, 16383, 32767, 2047, 2047, 133119, 460799, 985087, 2033663, 4194303, 8388607, 16777215, 33554431, 67108863, 67108863, 268435455, 536870911, 1073741823, 2147483647, 4294967295, 8589934591, 17179869183, 34359738367, 34359738367, 137438953471, 274877906943, 549755813887, 1099511627775, 2199023255551, 4398046511103]
theorem syllabaryref21_templates.tab4 : rtab .any (opsOf Try.f45 4) = syllabaryref21_templates.T4 := by kernel_rfl
theorem syllabaryref21_templates.bits4 : waitsOk syllabaryref21_templates.T4.2 syllabaryref21_templates.B4 = true := by kernel_rfl
set_option maxHeartbeats 8000000 in
set_option maxRecDepth 100000 in
theorem syllabaryref21_templates.calls (k : Nat) (A0 : Option Addr) (c0 : Nat) (l0 : List (S33)) (r : Bool) (w : World) (hr0 : Kd.C k33 w A0 l0.length l0) (hc0 : l0.length ≤ c0) (h : syllabaryref21_templates.f k l0 = some r) :
  Calls Try.prog 45 #[.slice A0 l0.length c0] w fun e w' => e = .returned (.bool r) ∧ Below w.heap.size w w' := by
 have hu89 := Try.underlying89
 have HR0 := Aside0.mk hr0
 have HC0 := Aside0.mk hc0
 clear hr0 hc0
 have HB := Aside0.mk (Below.refl w.heap.size w)
 have H : (syllabaryref21_templates.l0 k l0 0) = some r := h
 clear h
 have H' := Aside0.mk H
 clear H
 go_enter Try.func45, Try.ntmps45
 go_wp2
 go_loopg [3] k (fun kq v3 w' => ∃ (x3_1 : Int), v3 = .int .i64 x3_1 ∧ Aside0 (syllabaryref21_templates.l0 kq l0 x3_1 = some r) ∧ Aside0 (kq ≤ k) ∧ Aside0 (Below w.heap.size w w'))
 case atStart => exact ⟨(0), (by first | rfl | (simp; done) | (simp [*]; done)), H', ⟨Nat.le_refl _⟩, ⟨by repeat (first | (with_reducible first | exact HB.out | apply below_alloc | apply pw_below_drewN | apply below_drew1) | exact HB.out)⟩⟩
 case round =>
  clear H'
  obtain ⟨x3_1, rfl, HA, HK1, HB⟩ := hrel
  cases gk with
  | zero => exact absurd HA.out (by simp [syllabaryref21_templates.l0])
  | succ k1 =>
   have H := HA.out
   clear HA
   simp only [syllabaryref21_templates.l0] at H
   by_cases c2 : x3_1 < (l0.length : Int)
   ·
    rw [if_pos c2] at H
    have c2b0 : decide (x3_1 < (l0.length : Int)) = true := decide_eq_true c2
    clear c2
    have HC3 := Aside0.mk H
    clear H
    go_upto_region 4 with (fail)
    go_cut [53] (fun v53 wc => ∃ (kq : Nat) (x53_2 : Bool), v53 = .bool x53_2 ∧ Aside0 (syllabaryref21_templates.j1 kq l0 x3_1 x53_2 = some r) ∧ Aside0 (kq ≤ k1) ∧ Aside0 (Below w.heap.size w wc))
    case first =>
     have H := HC3.out
     clear HC3
     by_cases c4 : 0 ≤ x3_1
     ·
      rw [if_pos c4] at H
      have c4b0 : decide (0 ≤ x3_1) = true := decide_eq_true c4
      clear c4
      (first | rw [c4b0] | (simp only [i64_w, i32_w]; rw [c4b0]) | skip)
      replace H := Option.bind_eq_some_iff.mp H
      obtain ⟨t180, A50, H⟩ := H
      replace H : (if t180 = true then (if x3_1 > 0 then (if 0 ≤ (wrap64 (x3_1 - 1)) then (if (wrap64 (x3_1 - 1)) < (l0.length : Int) then (if ((rd_T33 l0 x3_1).f0) ≤ ((rd_T33 l0 (wrap64 (x3_1 - 1))).f0) then (syllabaryref21_templates.j1 k1 l0 x3_1 true) else (if (((rd_T33 l0 x3_1).f1).length : Int) < 2 then (syllabaryref21_templates.j1 k1 l0 x3_1 true) else (syllabaryref21_templates.j1 k1 l0 x3_1 (decide ((((rd_T33 l0 x3_1).f1).length : Int) > 12))))) else (none)) else (none)) else (if (((rd_T33 l0 x3_1).f1).length : Int) < 2 then (syllabaryref21_templates.j1 k1 l0 x3_1 true) else (syllabaryref21_templates.j1 k1 l0 x3_1 (decide ((((rd_T33 l0 x3_1).f1).length : Int) > 12))))) else (syllabaryref21_templates.j1 k1 l0 x3_1 true)) = some r := H
      have A5 := Aside0.mk A50
      clear A50
      by_cases c6 : t180 = true
      ·
       subst c6
       have H1 : (if x3_1 > 0 then (if 0 ≤ (wrap64 (x3_1 - 1)) then (if (wrap64 (x3_1 - 1)) < (l0.length : Int) then (if ((rd_T33 l0 x3_1).f0) ≤ ((rd_T33 l0 (wrap64 (x3_1 - 1))).f0) then (syllabaryref21_templates.j1 k1 l0 x3_1 true) else (if (((rd_T33 l0 x3_1).f1).length : Int) < 2 then (syllabaryref21_templates.j1 k1 l0 x3_1 true) else (syllabaryref21_templates.j1 k1 l0 x3_1 (decide ((((rd_T33 l0 x3_1).f1).length : Int) > 12))))) else (none)) else (none)) else (if (((rd_T33 l0 x3_1).f1).length : Int) < 2 then (syllabaryref21_templates.j1 k1 l0 x3_1 true) else (syllabaryref21_templates.j1 k1 l0 x3_1 (decide ((((rd_T33 l0 x3_1).f1).length : Int) > 12))))) = some r := by rw [if_pos rfl] at H; exact H
       clear H
       have H := H1
       clear H1
       by_cases c7 : x3_1 > 0
       ·
        rw [if_pos c7] at H
        have c7b0 : decide (0 < x3_1) = true := decide_eq_true c7
        clear c7
        obtain ⟨ji8, hji8⟩ : ∃ j_ : Int, (wrap64 (x3_1 - 1)) = j_ := ⟨_, rfl⟩
        replace H : (if 0 ≤ (ji8) then (if (ji8) < (l0.length : Int) then (if ((rd_T33 l0 x3_1).f0) ≤ ((rd_T33 l0 (ji8)).f0) then (syllabaryref21_templates.j1 k1 l0 x3_1 true) else (if (((rd_T33 l0 x3_1).f1).length : Int) < 2 then (syllabaryref21_templates.j1 k1 l0 x3_1 true) else (syllabaryref21_templates.j1 k1 l0 x3_1 (decide ((((rd_T33 l0 x3_1).f1).length : Int) > 12))))) else (none)) else (none)) = some r := by first | (rw [hji8] at H; exact H) | (simp only [hji8] at H ⊢; exact H)
        (try rw [hji8] at A5)
        have hji8w : (IntKind.i64.wrap (x3_1 - 1)) = ji8 := (i64_w _).trans hji8
        by_cases c9 : 0 ≤ (ji8)
        ·
         rw [if_pos c9] at H
         have c9b0 : decide (0 ≤ (ji8)) = true := decide_eq_true c9
         clear c9
         by_cases c10 : (ji8) < (l0.length : Int)
         ·
          rw [if_pos c10] at H
          have c10b0 : decide ((ji8) < (l0.length : Int)) = true := decide_eq_true c10
          clear c10
          by_cases c11 : ((rd_T33 l0 x3_1).f0) ≤ ((rd_T33 l0 (ji8)).f0)
          ·
           rw [if_pos c11] at H
           have c11b0 : decide (((rd_T33 l0 x3_1).f0) ≤ ((rd_T33 l0 (ji8)).f0)) = true := decide_eq_true c11
           clear c11
           have H' := Aside0.mk H
           clear H
           try go_wp2
           have n0_ := Aside0.mk (below_drew1 HB.out)
           clear HB
           have HB := n0_
           clear n0_
           have p179 : 0 ≤ (x3_1 : Int) := of_decide_eq_true (by assumption)
           have q179 : x3_1 < (l0.length : Int) := of_decide_eq_true (by assumption)
           obtain ⟨ad179, A179_1, c179_1, e179, hx179_0, hx179_1, hl179_1, hi179_1⟩ := at_T33 HR0.out x3_1 p179 q179
           have hw179_1 := hx179_1
           have hw179_0 := hx179_0
           cases e179
           replace hx179_0 := (HB.out.cell (World.block_lt_of_cell? w _ hx179_0)).trans hx179_0
           replace hx179_1 := (HB.out.cell (World.block_lt_of_cell? w _ hx179_1)).trans hx179_1
           have HR179_1 := Aside0.mk hi179_1
           have HC179_1 := Aside0.mk hl179_1
           clear hi179_1 hl179_1
           replace p179 := eq_true p179
           replace q179 := eq_true q179
           have p181 : 0 ≤ (x3_1 : Int) := of_decide_eq_true (by assumption)
           have q181 : x3_1 < (l0.length : Int) := of_decide_eq_true (by assumption)
           obtain ⟨ad181, A181_1, c181_1, e181, hx181_0, hx181_1, hl181_1, hi181_1⟩ := at_T33 HR0.out x3_1 p181 q181
           have hw181_1 := hx181_1
           have hw181_0 := hx181_0
           obtain rfl : ad179 = ad181 := (by injection e181)
           replace hx181_0 := (HB.out.cell (World.block_lt_of_cell? w _ hx181_0)).trans hx181_0
           replace hx181_1 := (HB.out.cell (World.block_lt_of_cell? w _ hx181_1)).trans hx181_1
           have HR181_1 := Aside0.mk hi181_1
           have HC181_1 := Aside0.mk hl181_1
           clear hi181_1 hl181_1
           replace p181 := eq_true p181
           replace q181 := eq_true q181
           have ea_ := Option.some.inj (hx179_1.symm.trans hx181_1)
           injection ea_ with ea_ en_ ec_
           subst ea_
           subst ec_
           clear en_
           have p182 : 0 ≤ ((ji8) : Int) := of_decide_eq_true (by assumption)
           have q182 : (ji8) < (l0.length : Int) := of_decide_eq_true (by assumption)
           obtain ⟨ad182, A182_1, c182_1, e182, hx182_0, hx182_1, hl182_1, hi182_1⟩ := at_T33 HR0.out (ji8) p182 q182
           have hw182_1 := hx182_1
           have hw182_0 := hx182_0
           obtain rfl : ad179 = ad182 := (by injection e182)
           replace hx182_0 := (HB.out.cell (World.block_lt_of_cell? w _ hx182_0)).trans hx182_0
           replace hx182_1 := (HB.out.cell (World.block_lt_of_cell? w _ hx182_1)).trans hx182_1
           have HR182_1 := Aside0.mk hi182_1
           have HC182_1 := Aside0.mk hl182_1
           clear hi182_1 hl182_1
           replace p182 := eq_true p182
           replace q182 := eq_true q182
           refine start_ (n := 43) (S := fun w' => w'.cell? (ad179.add ((x3_1).toNat * 2)) = some (.int .u8 ((rd_T33 l0 x3_1).f0)) ∧ w'.cell? ⟨(ad179.add ((x3_1).toNat * 2)).block, (ad179.add ((x3_1).toNat * 2)).off + 1, none⟩ = some (.slice A179_1 ((rd_T33 l0 x3_1).f1).length c179_1) ∧ w'.cell? (ad179.add ((x3_1).toNat * 2)) = some (.int .u8 ((rd_T33 l0 x3_1).f0)) ∧ w'.cell? ⟨(ad179.add ((x3_1).toNat * 2)).block, (ad179.add ((x3_1).toNat * 2)).off + 1, none⟩ = some (.slice A179_1 ((rd_T33 l0 x3_1).f1).length c179_1) ∧ w'.cell? (ad179.add (((ji8)).toNat * 2)) = some (.int .u8 ((rd_T33 l0 (ji8)).f0)) ∧ w'.cell? ⟨(ad179.add (((ji8)).toNat * 2)).block, (ad179.add (((ji8)).toNat * 2)).off + 1, none⟩ = some (.slice A182_1 ((rd_T33 l0 (ji8)).f1).length c182_1)) (ds := []) (bl [0, 43]) (by kernel_rfl) rfl rfl ⟨((HB.out.cell (World.block_lt_of_cell? w _ hw179_0)).trans hw179_0), ((HB.out.cell (World.block_lt_of_cell? w _ hw179_1)).trans hw179_1), ((HB.out.cell (World.block_lt_of_cell? w _ hw181_0)).trans hw181_0), ((HB.out.cell (World.block_lt_of_cell? w _ hw181_1)).trans hw181_1), ((HB.out.cell (World.block_lt_of_cell? w _ hw182_0)).trans hw182_0), ((HB.out.cell (World.block_lt_of_cell? w _ hw182_1)).trans hw182_1)⟩ (fun hHeld => ?_); refine with_tabW syllabaryref21_templates.tab4 syllabaryref21_templates.bits4 (fun HT_ HW_ => ?_)
           generalize wr.drew = w12 at HB HR179_1 HR181_1 HR182_1 hx179_0 hx179_1 hx181_0 hx181_1 hx182_0 hx182_1 hHeld ⊢
           refine qA 0 (some 11) (bl [1, 42]) HT_ ?_
           refine qA 1 (some 12) (bl [2, 41]) HT_ ?_
           refine qA 2 (some 13) (bl [3, 40]) HT_ ?_
           refine qA 3 (some 14) (bl [4, 39]) HT_ ?_
           refine qT 4 (some 15) (bl [5, 38]) HT_ HW_ hHeld ?_
           refine one_ (i := 5) (N := some 16) (bl [6, 37]) rfl rfl (one_of HT_.out (by kernel_rfl)) (by decide) (fun K hK => ?_)
           refine goes_ Try.func86 (by kernel_rfl) rfl #[.int .u8 ((rd_T33 l0 x3_1).f0)] (by rfl) rfl rfl (by (try simp only [List.map_toArray, List.map_cons, List.map_nil]); first | done | rfl | (simp only [List.length_drop, List.length_take]; rfl)) ?_
           with_reducible refine (syllabaryref21_Letter.calls ((rd_T33 l0 x3_1).f0) true _ A5.out).mono ?_
           rintro e w' ⟨rfl, ⟨nd, rfl⟩⟩
           refine ⟨_, rfl, ?_⟩
           refine hK.out _ _ ⟨((HB.out.cell (World.block_lt_of_cell? w _ hw179_0)).trans hw179_0), ((HB.out.cell (World.block_lt_of_cell? w _ hw179_1)).trans hw179_1), ((HB.out.cell (World.block_lt_of_cell? w _ hw181_0)).trans hw181_0), ((HB.out.cell (World.block_lt_of_cell? w _ hw181_1)).trans hw181_1), ((HB.out.cell (World.block_lt_of_cell? w _ hw182_0)).trans hw182_0), ((HB.out.cell (World.block_lt_of_cell? w _ hw182_1)).trans hw182_1)⟩ (fun hHeld => ?_)
           clear hK K
           refine norm_ (a' := ?_) ?_ ?_
           rotate_left; · (show Act.put _ (some 16) _ = _; simp only [Act.put, q1, q2, q3, i64_w, i32_w]; rfl)
           refine qA 6 (some 17) (bl [7, 36]) HT_ ?_
           refine qA 7 (some 18) (bl [8, 35]) HT_ ?_
           refine qA 8 (some 19) (bl [9, 34]) HT_ ?_
           refine qA 9 (some 20) (bl [10, 33]) HT_ ?_
           refine qA 10 (some 21) (bl [11, 32]) HT_ ?_
           refine qA 11 (some 22) (bl [12, 31]) HT_ ?_
           refine qA 12 (some 23) (bl [13, 30]) HT_ ?_
           refine qA 13 (some 24) (bl [14, 29]) HT_ ?_
           refine qA 14 (some 25) (bl [15, 28]) HT_ ?_
           refine qA 16 (some 27) (bl [15, 1, 1, 26]) HT_ ?_
           refine qA 17 (some 28) (bl [15, 1, 2, 25]) HT_ ?_
           refine qA 18 (some 29) (bl [15, 1, 3, 24]) HT_ ?_
           refine qA 19 (some 30) (bl [15, 1, 4, 23]) HT_ ?_
           refine qA 20 (some 31) (bl [15, 1, 5, 22]) HT_ ?_
           refine qT 15 (some 26) (bl [21, 22]) HT_ HW_ hHeld ?_
           refine qT 21 (some 32) (bl [22, 21]) HT_ HW_ hHeld ?_
           refine qA 22 (some 33) (bl [23, 20]) HT_ ?_
           refine qA 23 (some 34) (bl [24, 19]) HT_ ?_
           refine qA 24 (some 35) (bl [25, 18]) HT_ ?_
           refine qA 25 (some 36) (bl [26, 17]) HT_ ?_
           refine qO 26 (some 37) (bl [27, 16]) HT_ ?_
           refine qO 27 (some 38) (bl [28, 15]) HT_ ?_
           refine qO 28 (some 39) (bl [29, 14]) HT_ ?_
           refine qO 29 (some 40) (bl [30, 13]) HT_ ?_
           refine qO 30 (some 41) (bl [31, 12]) HT_ ?_
           refine qO 31 (some 42) (bl [32, 11]) HT_ ?_
           refine qO 32 (some 43) (bl [33, 10]) HT_ ?_
           refine qA 33 (some 44) (bl [34, 9]) HT_ ?_
           refine qA 34 (some 45) (bl [35, 8]) HT_ ?_
           refine qO 35 (some 46) (bl [36, 7]) HT_ ?_
           refine qO 36 (some 47) (bl [37, 6]) HT_ ?_
           refine qO 37 (some 48) (bl [38, 5]) HT_ ?_
           refine qO 38 (some 49) (bl [39, 4]) HT_ ?_
           refine qO 39 (some 50) (bl [40, 3]) HT_ ?_
           refine qO 40 (some 51) (bl [41, 2]) HT_ ?_
           refine qO 41 (some 52) (bl [42, 1]) HT_ ?_
           refine qA 42 (some 53) (bl [43]) HT_ ?_
           refine done_ (done_of HT_.out (by kernel_rfl)) ?_
           try go_wp2
           go_meet
           case rel => exact ⟨_, (true), (by first | rfl | (simp; done) | (simp [*]; done)), H', ⟨by have := HK1.out; first | omega | exact Nat.le_refl _⟩, ⟨by repeat (first | (with_reducible first | exact HB.out | apply below_alloc | apply pw_below_drewN | apply below_drew1) | exact HB.out)⟩⟩
          ·
           rw [if_neg c11] at H
           have c11b0 : decide (((rd_T33 l0 x3_1).f0) ≤ ((rd_T33 l0 (ji8)).f0)) = false := decide_eq_false c11
           clear c11
           by_cases c13 : (((rd_T33 l0 x3_1).f1).length : Int) < 2
           ·
            rw [if_pos c13] at H
            have c13b0 : decide ((((rd_T33 l0 x3_1).f1).length : Int) < 2) = true := decide_eq_true c13
            have c13b1 : decide (((rd_T33 l0 x3_1).f1).length < 2) = true := decide_eq_true (by omega)
            clear c13
            have H' := Aside0.mk H
            clear H
            try go_wp2
            have n0_ := Aside0.mk (below_drew1 HB.out)
            clear HB
            have HB := n0_
            clear n0_
            have p179 : 0 ≤ (x3_1 : Int) := of_decide_eq_true (by assumption)
            have q179 : x3_1 < (l0.length : Int) := of_decide_eq_true (by assumption)
            obtain ⟨ad179, A179_1, c179_1, e179, hx179_0, hx179_1, hl179_1, hi179_1⟩ := at_T33 HR0.out x3_1 p179 q179
            have hw179_1 := hx179_1
            have hw179_0 := hx179_0
            cases e179
            replace hx179_0 := (HB.out.cell (World.block_lt_of_cell? w _ hx179_0)).trans hx179_0
            replace hx179_1 := (HB.out.cell (World.block_lt_of_cell? w _ hx179_1)).trans hx179_1
            have HR179_1 := Aside0.mk hi179_1
            have HC179_1 := Aside0.mk hl179_1
            clear hi179_1 hl179_1
            replace p179 := eq_true p179
            replace q179 := eq_true q179
            have p181 : 0 ≤ (x3_1 : Int) := of_decide_eq_true (by assumption)
            have q181 : x3_1 < (l0.length : Int) := of_decide_eq_true (by assumption)
            obtain ⟨ad181, A181_1, c181_1, e181, hx181_0, hx181_1, hl181_1, hi181_1⟩ := at_T33 HR0.out x3_1 p181 q181
            have hw181_1 := hx181_1
            have hw181_0 := hx181_0
            obtain rfl : ad179 = ad181 := (by injection e181)
            replace hx181_0 := (HB.out.cell (World.block_lt_of_cell? w _ hx181_0)).trans hx181_0
            replace hx181_1 := (HB.out.cell (World.block_lt_of_cell? w _ hx181_1)).trans hx181_1
            have HR181_1 := Aside0.mk hi181_1
            have HC181_1 := Aside0.mk hl181_1
            clear hi181_1 hl181_1
            replace p181 := eq_true p181
            replace q181 := eq_true q181
            have ea_ := Option.some.inj (hx179_1.symm.trans hx181_1)
            injection ea_ with ea_ en_ ec_
            subst ea_
            subst ec_
            clear en_
            have p182 : 0 ≤ ((ji8) : Int) := of_decide_eq_true (by assumption)
            have q182 : (ji8) < (l0.length : Int) := of_decide_eq_true (by assumption)
            obtain ⟨ad182, A182_1, c182_1, e182, hx182_0, hx182_1, hl182_1, hi182_1⟩ := at_T33 HR0.out (ji8) p182 q182
            have hw182_1 := hx182_1
            have hw182_0 := hx182_0
            obtain rfl : ad179 = ad182 := (by injection e182)
            replace hx182_0 := (HB.out.cell (World.block_lt_of_cell? w _ hx182_0)).trans hx182_0
            replace hx182_1 := (HB.out.cell (World.block_lt_of_cell? w _ hx182_1)).trans hx182_1
            have HR182_1 := Aside0.mk hi182_1
            have HC182_1 := Aside0.mk hl182_1
            clear hi182_1 hl182_1
            replace p182 := eq_true p182
            replace q182 := eq_true q182
            have p183 : 0 ≤ (x3_1 : Int) := of_decide_eq_true (by assumption)
            have q183 : x3_1 < (l0.length : Int) := of_decide_eq_true (by assumption)
            obtain ⟨ad183, A183_1, c183_1, e183, hx183_0, hx183_1, hl183_1, hi183_1⟩ := at_T33 HR0.out x3_1 p183 q183
            have hw183_1 := hx183_1
            have hw183_0 := hx183_0
            obtain rfl : ad179 = ad183 := (by injection e183)
            replace hx183_0 := (HB.out.cell (World.block_lt_of_cell? w _ hx183_0)).trans hx183_0
            replace hx183_1 := (HB.out.cell (World.block_lt_of_cell? w _ hx183_1)).trans hx183_1
            have HR183_1 := Aside0.mk hi183_1
            have HC183_1 := Aside0.mk hl183_1
            clear hi183_1 hl183_1
            replace p183 := eq_true p183
            replace q183 := eq_true q183
            have ea_ := Option.some.inj (hx179_1.symm.trans hx183_1)
            injection ea_ with ea_ en_ ec_
            subst ea_
            subst ec_
            clear en_
            refine start_ (n := 43) (S := fun w' => w'.cell? (ad179.add ((x3_1).toNat * 2)) = some (.int .u8 ((rd_T33 l0 x3_1).f0)) ∧ w'.cell? ⟨(ad179.add ((x3_1).toNat * 2)).block, (ad179.add ((x3_1).toNat * 2)).off + 1, none⟩ = some (.slice A179_1 ((rd_T33 l0 x3_1).f1).length c179_1) ∧ w'.cell? (ad179.add ((x3_1).toNat * 2)) = some (.int .u8 ((rd_T33 l0 x3_1).f0)) ∧ w'.cell? ⟨(ad179.add ((x3_1).toNat * 2)).block, (ad179.add ((x3_1).toNat * 2)).off + 1, none⟩ = some (.slice A179_1 ((rd_T33 l0 x3_1).f1).length c179_1) ∧ w'.cell? (ad179.add (((ji8)).toNat * 2)) = some (.int .u8 ((rd_T33 l0 (ji8)).f0)) ∧ w'.cell? ⟨(ad179.add (((ji8)).toNat * 2)).block, (ad179.add (((ji8)).toNat * 2)).off + 1, none⟩ = some (.slice A182_1 ((rd_T33 l0 (ji8)).f1).length c182_1) ∧ w'.cell? (ad179.add ((x3_1).toNat * 2)) = some (.int .u8 ((rd_T33 l0 x3_1).f0)) ∧ w'.cell? ⟨(ad179.add ((x3_1).toNat * 2)).block, (ad179.add ((x3_1).toNat * 2)).off + 1, none⟩ = some (.slice A179_1 ((rd_T33 l0 x3_1).f1).length c179_1)) (ds := []) (bl [0, 43]) (by kernel_rfl) rfl rfl ⟨((HB.out.cell (World.block_lt_of_cell? w _ hw179_0)).trans hw179_0), ((HB.out.cell (World.block_lt_of_cell? w _ hw179_1)).trans hw179_1), ((HB.out.cell (World.block_lt_of_cell? w _ hw181_0)).trans hw181_0), ((HB.out.cell (World.block_lt_of_cell? w _ hw181_1)).trans hw181_1), ((HB.out.cell (World.block_lt_of_cell? w _ hw182_0)).trans hw182_0), ((HB.out.cell (World.block_lt_of_cell? w _ hw182_1)).trans hw182_1), ((HB.out.cell (World.block_lt_of_cell? w _ hw183_0)).trans hw183_0), ((HB.out.cell (World.block_lt_of_cell? w _ hw183_1)).trans hw183_1)⟩ (fun hHeld => ?_); refine with_tabW syllabaryref21_templates.tab4 syllabaryref21_templates.bits4 (fun HT_ HW_ => ?_)
            generalize wr.drew = w14 at HB HR179_1 HR181_1 HR182_1 HR183_1 hx179_0 hx179_1 hx181_0 hx181_1 hx182_0 hx182_1 hx183_0 hx183_1 hHeld ⊢
            refine qA 0 (some 11) (bl [1, 42]) HT_ ?_
            refine qA 1 (some 12) (bl [2, 41]) HT_ ?_
            refine qA 2 (some 13) (bl [3, 40]) HT_ ?_
            refine qA 3 (some 14) (bl [4, 39]) HT_ ?_
            refine qT 4 (some 15) (bl [5, 38]) HT_ HW_ hHeld ?_
            refine one_ (i := 5) (N := some 16) (bl [6, 37]) rfl rfl (one_of HT_.out (by kernel_rfl)) (by decide) (fun K hK => ?_)
            refine goes_ Try.func86 (by kernel_rfl) rfl #[.int .u8 ((rd_T33 l0 x3_1).f0)] (by rfl) rfl rfl (by (try simp only [List.map_toArray, List.map_cons, List.map_nil]); first | done | rfl | (simp only [List.length_drop, List.length_take]; rfl)) ?_
            with_reducible refine (syllabaryref21_Letter.calls ((rd_T33 l0 x3_1).f0) true _ A5.out).mono ?_
            rintro e w' ⟨rfl, ⟨nd, rfl⟩⟩
            refine ⟨_, rfl, ?_⟩
            refine hK.out _ _ ⟨((HB.out.cell (World.block_lt_of_cell? w _ hw179_0)).trans hw179_0), ((HB.out.cell (World.block_lt_of_cell? w _ hw179_1)).trans hw179_1), ((HB.out.cell (World.block_lt_of_cell? w _ hw181_0)).trans hw181_0), ((HB.out.cell (World.block_lt_of_cell? w _ hw181_1)).trans hw181_1), ((HB.out.cell (World.block_lt_of_cell? w _ hw182_0)).trans hw182_0), ((HB.out.cell (World.block_lt_of_cell? w _ hw182_1)).trans hw182_1), ((HB.out.cell (World.block_lt_of_cell? w _ hw183_0)).trans hw183_0), ((HB.out.cell (World.block_lt_of_cell? w _ hw183_1)).trans hw183_1)⟩ (fun hHeld => ?_)
            clear hK K
            refine norm_ (a' := ?_) ?_ ?_
            rotate_left; · (show Act.put _ (some 16) _ = _; simp only [Act.put, q1, q2, q3, i64_w, i32_w]; rfl)
            refine qA 6 (some 17) (bl [7, 36]) HT_ ?_
            refine qA 7 (some 18) (bl [8, 35]) HT_ ?_
            refine qA 8 (some 19) (bl [9, 34]) HT_ ?_
            refine qA 9 (some 20) (bl [10, 33]) HT_ ?_
            refine qA 10 (some 21) (bl [11, 32]) HT_ ?_
            refine qA 11 (some 22) (bl [12, 31]) HT_ ?_
            refine qA 12 (some 23) (bl [13, 30]) HT_ ?_
            refine qA 13 (some 24) (bl [14, 29]) HT_ ?_
            refine qA 14 (some 25) (bl [15, 28]) HT_ ?_
            refine qA 16 (some 27) (bl [15, 1, 1, 26]) HT_ ?_
            refine qA 17 (some 28) (bl [15, 1, 2, 25]) HT_ ?_
            refine qA 18 (some 29) (bl [15, 1, 3, 24]) HT_ ?_
            refine qA 19 (some 30) (bl [15, 1, 4, 23]) HT_ ?_
            refine qA 20 (some 31) (bl [15, 1, 5, 22]) HT_ ?_
            refine qT 15 (some 26) (bl [21, 22]) HT_ HW_ hHeld ?_
            refine qT 21 (some 32) (bl [22, 21]) HT_ HW_ hHeld ?_
            refine qA 22 (some 33) (bl [23, 20]) HT_ ?_
            refine qA 23 (some 34) (bl [24, 19]) HT_ ?_
            refine qA 24 (some 35) (bl [25, 18]) HT_ ?_
            refine qA 25 (some 36) (bl [26, 17]) HT_ ?_
            refine qA 26 (some 37) (bl [27, 16]) HT_ ?_
            refine qA 27 (some 38) (bl [28, 15]) HT_ ?_
            refine qA 28 (some 39) (bl [29, 14]) HT_ ?_
            refine qA 29 (some 40) (bl [30, 13]) HT_ ?_
            refine qT 30 (some 41) (bl [31, 12]) HT_ HW_ hHeld ?_
            refine qA 31 (some 42) (bl [32, 11]) HT_ ?_
            refine qA 32 (some 43) (bl [33, 10]) HT_ ?_
            refine qA 33 (some 44) (bl [34, 9]) HT_ ?_
            refine qA 34 (some 45) (bl [35, 8]) HT_ ?_
            refine qO 35 (some 46) (bl [36, 7]) HT_ ?_
            refine qO 36 (some 47) (bl [37, 6]) HT_ ?_
            refine qO 37 (some 48) (bl [38, 5]) HT_ ?_
            refine qO 38 (some 49) (bl [39, 4]) HT_ ?_
            refine qO 39 (some 50) (bl [40, 3]) HT_ ?_
            refine qO 40 (some 51) (bl [41, 2]) HT_ ?_
            refine qO 41 (some 52) (bl [42, 1]) HT_ ?_
            refine qA 42 (some 53) (bl [43]) HT_ ?_
            refine done_ (done_of HT_.out (by kernel_rfl)) ?_
            try go_wp2
            go_meet
            case rel => exact ⟨_, (true), (by first | rfl | (simp; done) | (simp [*]; done)), H', ⟨by have := HK1.out; first | omega | exact Nat.le_refl _⟩, ⟨by repeat (first | (with_reducible first | exact HB.out | apply below_alloc | apply pw_below_drewN | apply below_drew1) | exact HB.out)⟩⟩
           ·
            rw [if_neg c13] at H
            have c13b0 : decide ((((rd_T33 l0 x3_1).f1).length : Int) < 2) = false := decide_eq_false c13
            have c13b1 : decide (((rd_T33 l0 x3_1).f1).length < 2) = false := decide_eq_false (by omega)
            clear c13
            have H' := Aside0.mk H
            clear H
            try go_wp2
            have n0_ := Aside0.mk (below_drew1 HB.out)
            clear HB
            have HB := n0_
            clear n0_
            have p179 : 0 ≤ (x3_1 : Int) := of_decide_eq_true (by assumption)
            have q179 : x3_1 < (l0.length : Int) := of_decide_eq_true (by assumption)
            obtain ⟨ad179, A179_1, c179_1, e179, hx179_0, hx179_1, hl179_1, hi179_1⟩ := at_T33 HR0.out x3_1 p179 q179
            have hw179_1 := hx179_1
            have hw179_0 := hx179_0
            cases e179
            replace hx179_0 := (HB.out.cell (World.block_lt_of_cell? w _ hx179_0)).trans hx179_0
            replace hx179_1 := (HB.out.cell (World.block_lt_of_cell? w _ hx179_1)).trans hx179_1
            have HR179_1 := Aside0.mk hi179_1
            have HC179_1 := Aside0.mk hl179_1
            clear hi179_1 hl179_1
            replace p179 := eq_true p179
            replace q179 := eq_true q179
            have p181 : 0 ≤ (x3_1 : Int) := of_decide_eq_true (by assumption)
            have q181 : x3_1 < (l0.length : Int) := of_decide_eq_true (by assumption)
            obtain ⟨ad181, A181_1, c181_1, e181, hx181_0, hx181_1, hl181_1, hi181_1⟩ := at_T33 HR0.out x3_1 p181 q181
            have hw181_1 := hx181_1
            have hw181_0 := hx181_0
            obtain rfl : ad179 = ad181 := (by injection e181)
            replace hx181_0 := (HB.out.cell (World.block_lt_of_cell? w _ hx181_0)).trans hx181_0
            replace hx181_1 := (HB.out.cell (World.block_lt_of_cell? w _ hx181_1)).trans hx181_1
            have HR181_1 := Aside0.mk hi181_1
            have HC181_1 := Aside0.mk hl181_1
            clear hi181_1 hl181_1
            replace p181 := eq_true p181
            replace q181 := eq_true q181
            have ea_ := Option.some.inj (hx179_1.symm.trans hx181_1)
            injection ea_ with ea_ en_ ec_
            subst ea_
            subst ec_
            clear en_
            have p182 : 0 ≤ ((ji8) : Int) := of_decide_eq_true (by assumption)
            have q182 : (ji8) < (l0.length : Int) := of_decide_eq_true (by assumption)
            obtain ⟨ad182, A182_1, c182_1, e182, hx182_0, hx182_1, hl182_1, hi182_1⟩ := at_T33 HR0.out (ji8) p182 q182
            have hw182_1 := hx182_1
            have hw182_0 := hx182_0
            obtain rfl : ad179 = ad182 := (by injection e182)
            replace hx182_0 := (HB.out.cell (World.block_lt_of_cell? w _ hx182_0)).trans hx182_0
            replace hx182_1 := (HB.out.cell (World.block_lt_of_cell? w _ hx182_1)).trans hx182_1
            have HR182_1 := Aside0.mk hi182_1
            have HC182_1 := Aside0.mk hl182_1
            clear hi182_1 hl182_1
            replace p182 := eq_true p182
            replace q182 := eq_true q182
            have p183 : 0 ≤ (x3_1 : Int) := of_decide_eq_true (by assumption)
            have q183 : x3_1 < (l0.length : Int) := of_decide_eq_true (by assumption)
            obtain ⟨ad183, A183_1, c183_1, e183, hx183_0, hx183_1, hl183_1, hi183_1⟩ := at_T33 HR0.out x3_1 p183 q183
            have hw183_1 := hx183_1
            have hw183_0 := hx183_0
            obtain rfl : ad179 = ad183 := (by injection e183)
            replace hx183_0 := (HB.out.cell (World.block_lt_of_cell? w _ hx183_0)).trans hx183_0
            replace hx183_1 := (HB.out.cell (World.block_lt_of_cell? w _ hx183_1)).trans hx183_1
            have HR183_1 := Aside0.mk hi183_1
            have HC183_1 := Aside0.mk hl183_1
            clear hi183_1 hl183_1
            replace p183 := eq_true p183
            replace q183 := eq_true q183
            have ea_ := Option.some.inj (hx179_1.symm.trans hx183_1)
            injection ea_ with ea_ en_ ec_
            subst ea_
            subst ec_
            clear en_
            have p184 : 0 ≤ (x3_1 : Int) := of_decide_eq_true (by assumption)
            have q184 : x3_1 < (l0.length : Int) := of_decide_eq_true (by assumption)
            obtain ⟨ad184, A184_1, c184_1, e184, hx184_0, hx184_1, hl184_1, hi184_1⟩ := at_T33 HR0.out x3_1 p184 q184
            have hw184_1 := hx184_1
            have hw184_0 := hx184_0
            obtain rfl : ad179 = ad184 := (by injection e184)
            replace hx184_0 := (HB.out.cell (World.block_lt_of_cell? w _ hx184_0)).trans hx184_0
            replace hx184_1 := (HB.out.cell (World.block_lt_of_cell? w _ hx184_1)).trans hx184_1
            have HR184_1 := Aside0.mk hi184_1
            have HC184_1 := Aside0.mk hl184_1
            clear hi184_1 hl184_1
            replace p184 := eq_true p184
            replace q184 := eq_true q184
            have ea_ := Option.some.inj (hx179_1.symm.trans hx184_1)
            injection ea_ with ea_ en_ ec_
            subst ea_
            subst ec_
            clear en_
            refine start_ (n := 43) (S := fun w' => w'.cell? (ad179.add ((x3_1).toNat * 2)) = some (.int .u8 ((rd_T33 l0 x3_1).f0)) ∧ w'.cell? ⟨(ad179.add ((x3_1).toNat * 2)).block, (ad179.add ((x3_1).toNat * 2)).off + 1, none⟩ = some (.slice A179_1 ((rd_T33 l0 x3_1).f1).length c179_1) ∧ w'.cell? (ad179.add ((x3_1).toNat * 2)) = some (.int .u8 ((rd_T33 l0 x3_1).f0)) ∧ w'.cell? ⟨(ad179.add ((x3_1).toNat * 2)).block, (ad179.add ((x3_1).toNat * 2)).off + 1, none⟩ = some (.slice A179_1 ((rd_T33 l0 x3_1).f1).length c179_1) ∧ w'.cell? (ad179.add (((ji8)).toNat * 2)) = some (.int .u8 ((rd_T33 l0 (ji8)).f0)) ∧ w'.cell? ⟨(ad179.add (((ji8)).toNat * 2)).block, (ad179.add (((ji8)).toNat * 2)).off + 1, none⟩ = some (.slice A182_1 ((rd_T33 l0 (ji8)).f1).length c182_1) ∧ w'.cell? (ad179.add ((x3_1).toNat * 2)) = some (.int .u8 ((rd_T33 l0 x3_1).f0)) ∧ w'.cell? ⟨(ad179.add ((x3_1).toNat * 2)).block, (ad179.add ((x3_1).toNat * 2)).off + 1, none⟩ = some (.slice A179_1 ((rd_T33 l0 x3_1).f1).length c179_1) ∧ w'.cell? (ad179.add ((x3_1).toNat * 2)) = some (.int .u8 ((rd_T33 l0 x3_1).f0)) ∧ w'.cell? ⟨(ad179.add ((x3_1).toNat * 2)).block, (ad179.add ((x3_1).toNat * 2)).off + 1, none⟩ = some (.slice A179_1 ((rd_T33 l0 x3_1).f1).length c179_1)) (ds := []) (bl [0, 43]) (by kernel_rfl) rfl rfl ⟨((HB.out.cell (World.block_lt_of_cell? w _ hw179_0)).trans hw179_0), ((HB.out.cell (World.block_lt_of_cell? w _ hw179_1)).trans hw179_1), ((HB.out.cell (World.block_lt_of_cell? w _ hw181_0)).trans hw181_0), ((HB.out.cell (World.block_lt_of_cell? w _ hw181_1)).trans hw181_1), ((HB.out.cell (World.block_lt_of_cell? w _ hw182_0)).trans hw182_0), ((HB.out.cell (World.block_lt_of_cell? w _ hw182_1)).trans hw182_1), ((HB.out.cell (World.block_lt_of_cell? w _ hw183_0)).trans hw183_0), ((HB.out.cell (World.block_lt_of_cell? w _ hw183_1)).trans hw183_1), ((HB.out.cell (World.block_lt_of_cell? w _ hw184_0)).trans hw184_0), ((HB.out.cell (World.block_lt_of_cell? w _ hw184_1)).trans hw184_1)⟩ (fun hHeld => ?_); refine with_tabW syllabaryref21_templates.tab4 syllabaryref21_templates.bits4 (fun HT_ HW_ => ?_)
            generalize wr.drew = w15 at HB HR179_1 HR181_1 HR182_1 HR183_1 HR184_1 hx179_0 hx179_1 hx181_0 hx181_1 hx182_0 hx182_1 hx183_0 hx183_1 hx184_0 hx184_1 hHeld ⊢
            refine qA 0 (some 11) (bl [1, 42]) HT_ ?_
            refine qA 1 (some 12) (bl [2, 41]) HT_ ?_
            refine qA 2 (some 13) (bl [3, 40]) HT_ ?_
            refine qA 3 (some 14) (bl [4, 39]) HT_ ?_
            refine qT 4 (some 15) (bl [5, 38]) HT_ HW_ hHeld ?_
            refine one_ (i := 5) (N := some 16) (bl [6, 37]) rfl rfl (one_of HT_.out (by kernel_rfl)) (by decide) (fun K hK => ?_)
            refine goes_ Try.func86 (by kernel_rfl) rfl #[.int .u8 ((rd_T33 l0 x3_1).f0)] (by rfl) rfl rfl (by (try simp only [List.map_toArray, List.map_cons, List.map_nil]); first | done | rfl | (simp only [List.length_drop, List.length_take]; rfl)) ?_
            with_reducible refine (syllabaryref21_Letter.calls ((rd_T33 l0 x3_1).f0) true _ A5.out).mono ?_
            rintro e w' ⟨rfl, ⟨nd, rfl⟩⟩
            refine ⟨_, rfl, ?_⟩
            refine hK.out _ _ ⟨((HB.out.cell (World.block_lt_of_cell? w _ hw179_0)).trans hw179_0), ((HB.out.cell (World.block_lt_of_cell? w _ hw179_1)).trans hw179_1), ((HB.out.cell (World.block_lt_of_cell? w _ hw181_0)).trans hw181_0), ((HB.out.cell (World.block_lt_of_cell? w _ hw181_1)).trans hw181_1), ((HB.out.cell (World.block_lt_of_cell? w _ hw182_0)).trans hw182_0), ((HB.out.cell (World.block_lt_of_cell? w _ hw182_1)).trans hw182_1), ((HB.out.cell (World.block_lt_of_cell? w _ hw183_0)).trans hw183_0), ((HB.out.cell (World.block_lt_of_cell? w _ hw183_1)).trans hw183_1), ((HB.out.cell (World.block_lt_of_cell? w _ hw184_0)).trans hw184_0), ((HB.out.cell (World.block_lt_of_cell? w _ hw184_1)).trans hw184_1)⟩ (fun hHeld => ?_)
            clear hK K
            refine norm_ (a' := ?_) ?_ ?_
            rotate_left; · (show Act.put _ (some 16) _ = _; simp only [Act.put, q1, q2, q3, i64_w, i32_w]; rfl)
            refine qA 6 (some 17) (bl [7, 36]) HT_ ?_
            refine qA 7 (some 18) (bl [8, 35]) HT_ ?_
            refine qA 8 (some 19) (bl [9, 34]) HT_ ?_
            refine qA 9 (some 20) (bl [10, 33]) HT_ ?_
            refine qA 10 (some 21) (bl [11, 32]) HT_ ?_
            refine qA 11 (some 22) (bl [12, 31]) HT_ ?_
            refine qA 12 (some 23) (bl [13, 30]) HT_ ?_
            refine qA 13 (some 24) (bl [14, 29]) HT_ ?_
            refine qA 14 (some 25) (bl [15, 28]) HT_ ?_
            refine qA 16 (some 27) (bl [15, 1, 1, 26]) HT_ ?_
            refine qA 17 (some 28) (bl [15, 1, 2, 25]) HT_ ?_
            refine qA 18 (some 29) (bl [15, 1, 3, 24]) HT_ ?_
            refine qA 19 (some 30) (bl [15, 1, 4, 23]) HT_ ?_
            refine qA 20 (some 31) (bl [15, 1, 5, 22]) HT_ ?_
            refine qT 15 (some 26) (bl [21, 22]) HT_ HW_ hHeld ?_
            refine qT 21 (some 32) (bl [22, 21]) HT_ HW_ hHeld ?_
            refine qA 22 (some 33) (bl [23, 20]) HT_ ?_
            refine qA 23 (some 34) (bl [24, 19]) HT_ ?_
            refine qA 24 (some 35) (bl [25, 18]) HT_ ?_
            refine qA 25 (some 36) (bl [26, 17]) HT_ ?_
            refine qA 26 (some 37) (bl [27, 16]) HT_ ?_
            refine qA 27 (some 38) (bl [28, 15]) HT_ ?_
            refine qA 28 (some 39) (bl [29, 14]) HT_ ?_
            refine qA 29 (some 40) (bl [30, 13]) HT_ ?_
            refine qT 30 (some 41) (bl [31, 12]) HT_ HW_ hHeld ?_
            refine qA 31 (some 42) (bl [32, 11]) HT_ ?_
            refine qA 32 (some 43) (bl [33, 10]) HT_ ?_
            refine qA 33 (some 44) (bl [34, 9]) HT_ ?_
            refine qA 34 (some 45) (bl [35, 8]) HT_ ?_
            refine qA 35 (some 46) (bl [36, 7]) HT_ ?_
            refine qA 36 (some 47) (bl [37, 6]) HT_ ?_
            refine qA 37 (some 48) (bl [38, 5]) HT_ ?_
            refine qA 38 (some 49) (bl [39, 4]) HT_ ?_
            refine qT 39 (some 50) (bl [40, 3]) HT_ HW_ hHeld ?_
            refine qA 40 (some 51) (bl [41, 2]) HT_ ?_
            refine qA 41 (some 52) (bl [42, 1]) HT_ ?_
            refine qA 42 (some 53) (bl [43]) HT_ ?_
            refine done_ (done_of HT_.out (by kernel_rfl)) ?_
            try go_wp2
            go_meet
            case rel => exact ⟨_, (decide ((((rd_T33 l0 x3_1).f1).length : Int) > 12)), (by first | rfl | (simp; done) | (simp [*]; done)), H', ⟨by have := HK1.out; first | omega | exact Nat.le_refl _⟩, ⟨by repeat (first | (with_reducible first | exact HB.out | apply below_alloc | apply pw_below_drewN | apply below_drew1) | exact HB.out)⟩⟩
         ·
          rw [if_neg c10] at H
          exact absurd H (by simp)
        ·
         rw [if_neg c9] at H
         exact absurd H (by simp)
       ·
        rw [if_neg c7] at H
        have c7b0 : decide (0 < x3_1) = false := decide_eq_false c7
        clear c7
        by_cases c16 : (((rd_T33 l0 x3_1).f1).length : Int) < 2
        ·
         rw [if_pos c16] at H
         have c16b0 : decide ((((rd_T33 l0 x3_1).f1).length : Int) < 2) = true := decide_eq_true c16
         have c16b1 : decide (((rd_T33 l0 x3_1).f1).length < 2) = true := decide_eq_true (by omega)
         clear c16
         have H' := Aside0.mk H
         clear H
         try go_wp2
         have n0_ := Aside0.mk (below_drew1 HB.out)
         clear HB
         have HB := n0_
         clear n0_
         have p179 : 0 ≤ (x3_1 : Int) := of_decide_eq_true (by assumption)
         have q179 : x3_1 < (l0.length : Int) := of_decide_eq_true (by assumption)
         obtain ⟨ad179, A179_1, c179_1, e179, hx179_0, hx179_1, hl179_1, hi179_1⟩ := at_T33 HR0.out x3_1 p179 q179
         have hw179_1 := hx179_1
         have hw179_0 := hx179_0
         cases e179
         replace hx179_0 := (HB.out.cell (World.block_lt_of_cell? w _ hx179_0)).trans hx179_0
         replace hx179_1 := (HB.out.cell (World.block_lt_of_cell? w _ hx179_1)).trans hx179_1
         have HR179_1 := Aside0.mk hi179_1
         have HC179_1 := Aside0.mk hl179_1
         clear hi179_1 hl179_1
         replace p179 := eq_true p179
         replace q179 := eq_true q179
         have p185 : 0 ≤ (x3_1 : Int) := of_decide_eq_true (by assumption)
         have q185 : x3_1 < (l0.length : Int) := of_decide_eq_true (by assumption)
         obtain ⟨ad185, A185_1, c185_1, e185, hx185_0, hx185_1, hl185_1, hi185_1⟩ := at_T33 HR0.out x3_1 p185 q185
         have hw185_1 := hx185_1
         have hw185_0 := hx185_0
         obtain rfl : ad179 = ad185 := (by injection e185)
         replace hx185_0 := (HB.out.cell (World.block_lt_of_cell? w _ hx185_0)).trans hx185_0
         replace hx185_1 := (HB.out.cell (World.block_lt_of_cell? w _ hx185_1)).trans hx185_1
         have HR185_1 := Aside0.mk hi185_1
         have HC185_1 := Aside0.mk hl185_1
         clear hi185_1 hl185_1
         replace p185 := eq_true p185
         replace q185 := eq_true q185
         have ea_ := Option.some.inj (hx179_1.symm.trans hx185_1)
         injection ea_ with ea_ en_ ec_
         subst ea_
         subst ec_
         clear en_
         refine start_ (n := 43) (S := fun w' => w'.cell? (ad179.add ((x3_1).toNat * 2)) = some (.int .u8 ((rd_T33 l0 x3_1).f0)) ∧ w'.cell? ⟨(ad179.add ((x3_1).toNat * 2)).block, (ad179.add ((x3_1).toNat * 2)).off + 1, none⟩ = some (.slice A179_1 ((rd_T33 l0 x3_1).f1).length c179_1) ∧ w'.cell? (ad179.add ((x3_1).toNat * 2)) = some (.int .u8 ((rd_T33 l0 x3_1).f0)) ∧ w'.cell? ⟨(ad179.add ((x3_1).toNat * 2)).block, (ad179.add ((x3_1).toNat * 2)).off + 1, none⟩ = some (.slice A179_1 ((rd_T33 l0 x3_1).f1).length c179_1)) (ds := []) (bl [0, 43]) (by kernel_rfl) rfl rfl ⟨((HB.out.cell (World.block_lt_of_cell? w _ hw179_0)).trans hw179_0), ((HB.out.cell (World.block_lt_of_cell? w _ hw179_1)).trans hw179_1), ((HB.out.cell (World.block_lt_of_cell? w _ hw185_0)).trans hw185_0), ((HB.out.cell (World.block_lt_of_cell? w _ hw185_1)).trans hw185_1)⟩ (fun hHeld => ?_); refine with_tabW syllabaryref21_templates.tab4 syllabaryref21_templates.bits4 (fun HT_ HW_ => ?_)
         generalize wr.drew = w17 at HB HR179_1 HR185_1 hx179_0 hx179_1 hx185_0 hx185_1 hHeld ⊢
         refine qA 0 (some 11) (bl [1, 42]) HT_ ?_
         refine qA 1 (some 12) (bl [2, 41]) HT_ ?_
         refine qA 2 (some 13) (bl [3, 40]) HT_ ?_
         refine qA 3 (some 14) (bl [4, 39]) HT_ ?_
         refine qT 4 (some 15) (bl [5, 38]) HT_ HW_ hHeld ?_
         refine one_ (i := 5) (N := some 16) (bl [6, 37]) rfl rfl (one_of HT_.out (by kernel_rfl)) (by decide) (fun K hK => ?_)
         refine goes_ Try.func86 (by kernel_rfl) rfl #[.int .u8 ((rd_T33 l0 x3_1).f0)] (by rfl) rfl rfl (by (try simp only [List.map_toArray, List.map_cons, List.map_nil]); first | done | rfl | (simp only [List.length_drop, List.length_take]; rfl)) ?_
         with_reducible refine (syllabaryref21_Letter.calls ((rd_T33 l0 x3_1).f0) true _ A5.out).mono ?_
         rintro e w' ⟨rfl, ⟨nd, rfl⟩⟩
         refine ⟨_, rfl, ?_⟩
         refine hK.out _ _ ⟨((HB.out.cell (World.block_lt_of_cell? w _ hw179_0)).trans hw179_0), ((HB.out.cell (World.block_lt_of_cell? w _ hw179_1)).trans hw179_1), ((HB.out.cell (World.block_lt_of_cell? w _ hw185_0)).trans hw185_0), ((HB.out.cell (World.block_lt_of_cell? w _ hw185_1)).trans hw185_1)⟩ (fun hHeld => ?_)
         clear hK K
         refine norm_ (a' := ?_) ?_ ?_
         rotate_left; · (show Act.put _ (some 16) _ = _; simp only [Act.put, q1, q2, q3, i64_w, i32_w]; rfl)
         refine qA 6 (some 17) (bl [7, 36]) HT_ ?_
         refine qA 7 (some 18) (bl [8, 35]) HT_ ?_
         refine qA 8 (some 19) (bl [9, 34]) HT_ ?_
         refine qA 9 (some 20) (bl [10, 33]) HT_ ?_
         refine qA 10 (some 21) (bl [11, 32]) HT_ ?_
         refine qO 11 (some 22) (bl [12, 31]) HT_ ?_
         refine qO 12 (some 23) (bl [13, 30]) HT_ ?_
         refine qO 13 (some 24) (bl [14, 29]) HT_ ?_
         refine qO 14 (some 25) (bl [15, 28]) HT_ ?_
         refine qO 15 (some 26) (bl [16, 27]) HT_ ?_
         refine qO 16 (some 27) (bl [17, 26]) HT_ ?_
         refine qO 17 (some 28) (bl [18, 25]) HT_ ?_
         refine qO 18 (some 29) (bl [19, 24]) HT_ ?_
         refine qO 19 (some 30) (bl [20, 23]) HT_ ?_
         refine qO 20 (some 31) (bl [21, 22]) HT_ ?_
         refine qO 21 (some 32) (bl [22, 21]) HT_ ?_
         refine qO 22 (some 33) (bl [23, 20]) HT_ ?_
         refine qA 23 (some 34) (bl [24, 19]) HT_ ?_
         refine qA 24 (some 35) (bl [25, 18]) HT_ ?_
         refine qA 25 (some 36) (bl [26, 17]) HT_ ?_
         refine qA 26 (some 37) (bl [27, 16]) HT_ ?_
         refine qA 27 (some 38) (bl [28, 15]) HT_ ?_
         refine qA 28 (some 39) (bl [29, 14]) HT_ ?_
         refine qA 29 (some 40) (bl [30, 13]) HT_ ?_
         refine qT 30 (some 41) (bl [31, 12]) HT_ HW_ hHeld ?_
         refine qA 31 (some 42) (bl [32, 11]) HT_ ?_
         refine qA 32 (some 43) (bl [33, 10]) HT_ ?_
         refine qA 33 (some 44) (bl [34, 9]) HT_ ?_
         refine qA 34 (some 45) (bl [35, 8]) HT_ ?_
         refine qO 35 (some 46) (bl [36, 7]) HT_ ?_
         refine qO 36 (some 47) (bl [37, 6]) HT_ ?_
         refine qO 37 (some 48) (bl [38, 5]) HT_ ?_
         refine qO 38 (some 49) (bl [39, 4]) HT_ ?_
         refine qO 39 (some 50) (bl [40, 3]) HT_ ?_
         refine qO 40 (some 51) (bl [41, 2]) HT_ ?_
         refine qO 41 (some 52) (bl [42, 1]) HT_ ?_
         refine qA 42 (some 53) (bl [43]) HT_ ?_
         refine done_ (done_of HT_.out (by kernel_rfl)) ?_
         try go_wp2
         go_meet
         case rel => exact ⟨_, (true), (by first | rfl | (simp; done) | (simp [*]; done)), H', ⟨by have := HK1.out; first | omega | exact Nat.le_refl _⟩, ⟨by repeat (first | (with_reducible first | exact HB.out | apply below_alloc | apply pw_below_drewN | apply below_drew1) | exact HB.out)⟩⟩
        ·
         rw [if_neg c16] at H
         have c16b0 : decide ((((rd_T33 l0 x3_1).f1).length : Int) < 2) = false := decide_eq_false c16
         have c16b1 : decide (((rd_T33 l0 x3_1).f1).length < 2) = false := decide_eq_false (by omega)
         clear c16
         have H' := Aside0.mk H
         clear H
         try go_wp2
         have n0_ := Aside0.mk (below_drew1 HB.out)
         clear HB
         have HB := n0_
         clear n0_
         have p179 : 0 ≤ (x3_1 : Int) := of_decide_eq_true (by assumption)
         have q179 : x3_1 < (l0.length : Int) := of_decide_eq_true (by assumption)
         obtain ⟨ad179, A179_1, c179_1, e179, hx179_0, hx179_1, hl179_1, hi179_1⟩ := at_T33 HR0.out x3_1 p179 q179
         have hw179_1 := hx179_1
         have hw179_0 := hx179_0
         cases e179
         replace hx179_0 := (HB.out.cell (World.block_lt_of_cell? w _ hx179_0)).trans hx179_0
         replace hx179_1 := (HB.out.cell (World.block_lt_of_cell? w _ hx179_1)).trans hx179_1
         have HR179_1 := Aside0.mk hi179_1
         have HC179_1 := Aside0.mk hl179_1
         clear hi179_1 hl179_1
         replace p179 := eq_true p179
         replace q179 := eq_true q179
         have p185 : 0 ≤ (x3_1 : Int) := of_decide_eq_true (by assumption)
         have q185 : x3_1 < (l0.length : Int) := of_decide_eq_true (by assumption)
         obtain ⟨ad185, A185_1, c185_1, e185, hx185_0, hx185_1, hl185_1, hi185_1⟩ := at_T33 HR0.out x3_1 p185 q185
         have hw185_1 := hx185_1
         have hw185_0 := hx185_0
         obtain rfl : ad179 = ad185 := (by injection e185)
         replace hx185_0 := (HB.out.cell (World.block_lt_of_cell? w _ hx185_0)).trans hx185_0
         replace hx185_1 := (HB.out.cell (World.block_lt_of_cell? w _ hx185_1)).trans hx185_1
         have HR185_1 := Aside0.mk hi185_1
         have HC185_1 := Aside0.mk hl185_1
         clear hi185_1 hl185_1
         replace p185 := eq_true p185
         replace q185 := eq_true q185
         have ea_ := Option.some.inj (hx179_1.symm.trans hx185_1)
         injection ea_ with ea_ en_ ec_
         subst ea_
         subst ec_
         clear en_
         have p186 : 0 ≤ (x3_1 : Int) := of_decide_eq_true (by assumption)
         have q186 : x3_1 < (l0.length : Int) := of_decide_eq_true (by assumption)
         obtain ⟨ad186, A186_1, c186_1, e186, hx186_0, hx186_1, hl186_1, hi186_1⟩ := at_T33 HR0.out x3_1 p186 q186
         have hw186_1 := hx186_1
         have hw186_0 := hx186_0
         obtain rfl : ad179 = ad186 := (by injection e186)
         replace hx186_0 := (HB.out.cell (World.block_lt_of_cell? w _ hx186_0)).trans hx186_0
         replace hx186_1 := (HB.out.cell (World.block_lt_of_cell? w _ hx186_1)).trans hx186_1
         have HR186_1 := Aside0.mk hi186_1
         have HC186_1 := Aside0.mk hl186_1
         clear hi186_1 hl186_1
         replace p186 := eq_true p186
         replace q186 := eq_true q186
         have ea_ := Option.some.inj (hx179_1.symm.trans hx186_1)
         injection ea_ with ea_ en_ ec_
         subst ea_
         subst ec_
         clear en_
         refine start_ (n := 43) (S := fun w' => w'.cell? (ad179.add ((x3_1).toNat * 2)) = some (.int .u8 ((rd_T33 l0 x3_1).f0)) ∧ w'.cell? ⟨(ad179.add ((x3_1).toNat * 2)).block, (ad179.add ((x3_1).toNat * 2)).off + 1, none⟩ = some (.slice A179_1 ((rd_T33 l0 x3_1).f1).length c179_1) ∧ w'.cell? (ad179.add ((x3_1).toNat * 2)) = some (.int .u8 ((rd_T33 l0 x3_1).f0)) ∧ w'.cell? ⟨(ad179.add ((x3_1).toNat * 2)).block, (ad179.add ((x3_1).toNat * 2)).off + 1, none⟩ = some (.slice A179_1 ((rd_T33 l0 x3_1).f1).length c179_1) ∧ w'.cell? (ad179.add ((x3_1).toNat * 2)) = some (.int .u8 ((rd_T33 l0 x3_1).f0)) ∧ w'.cell? ⟨(ad179.add ((x3_1).toNat * 2)).block, (ad179.add ((x3_1).toNat * 2)).off + 1, none⟩ = some (.slice A179_1 ((rd_T33 l0 x3_1).f1).length c179_1)) (ds := []) (bl [0, 43]) (by kernel_rfl) rfl rfl ⟨((HB.out.cell (World.block_lt_of_cell? w _ hw179_0)).trans hw179_0), ((HB.out.cell (World.block_lt_of_cell? w _ hw179_1)).trans hw179_1), ((HB.out.cell (World.block_lt_of_cell? w _ hw185_0)).trans hw185_0), ((HB.out.cell (World.block_lt_of_cell? w _ hw185_1)).trans hw185_1), ((HB.out.cell (World.block_lt_of_cell? w _ hw186_0)).trans hw186_0), ((HB.out.cell (World.block_lt_of_cell? w _ hw186_1)).trans hw186_1)⟩ (fun hHeld => ?_); refine with_tabW syllabaryref21_templates.tab4 syllabaryref21_templates.bits4 (fun HT_ HW_ => ?_)
         generalize wr.drew = w18 at HB HR179_1 HR185_1 HR186_1 hx179_0 hx179_1 hx185_0 hx185_1 hx186_0 hx186_1 hHeld ⊢
         refine qA 0 (some 11) (bl [1, 42]) HT_ ?_
         refine qA 1 (some 12) (bl [2, 41]) HT_ ?_
         refine qA 2 (some 13) (bl [3, 40]) HT_ ?_
         refine qA 3 (some 14) (bl [4, 39]) HT_ ?_
         refine qT 4 (some 15) (bl [5, 38]) HT_ HW_ hHeld ?_
         refine one_ (i := 5) (N := some 16) (bl [6, 37]) rfl rfl (one_of HT_.out (by kernel_rfl)) (by decide) (fun K hK => ?_)
         refine goes_ Try.func86 (by kernel_rfl) rfl #[.int .u8 ((rd_T33 l0 x3_1).f0)] (by rfl) rfl rfl (by (try simp only [List.map_toArray, List.map_cons, List.map_nil]); first | done | rfl | (simp only [List.length_drop, List.length_take]; rfl)) ?_
         with_reducible refine (syllabaryref21_Letter.calls ((rd_T33 l0 x3_1).f0) true _ A5.out).mono ?_
         rintro e w' ⟨rfl, ⟨nd, rfl⟩⟩
         refine ⟨_, rfl, ?_⟩
         refine hK.out _ _ ⟨((HB.out.cell (World.block_lt_of_cell? w _ hw179_0)).trans hw179_0), ((HB.out.cell (World.block_lt_of_cell? w _ hw179_1)).trans hw179_1), ((HB.out.cell (World.block_lt_of_cell? w _ hw185_0)).trans hw185_0), ((HB.out.cell (World.block_lt_of_cell? w _ hw185_1)).trans hw185_1), ((HB.out.cell (World.block_lt_of_cell? w _ hw186_0)).trans hw186_0), ((HB.out.cell (World.block_lt_of_cell? w _ hw186_1)).trans hw186_1)⟩ (fun hHeld => ?_)
         clear hK K
         refine norm_ (a' := ?_) ?_ ?_
         rotate_left; · (show Act.put _ (some 16) _ = _; simp only [Act.put, q1, q2, q3, i64_w, i32_w]; rfl)
         refine qA 6 (some 17) (bl [7, 36]) HT_ ?_
         refine qA 7 (some 18) (bl [8, 35]) HT_ ?_
         refine qA 8 (some 19) (bl [9, 34]) HT_ ?_
         refine qA 9 (some 20) (bl [10, 33]) HT_ ?_
         refine qA 10 (some 21) (bl [11, 32]) HT_ ?_
         refine qO 11 (some 22) (bl [12, 31]) HT_ ?_
         refine qO 12 (some 23) (bl [13, 30]) HT_ ?_
         refine qO 13 (some 24) (bl [14, 29]) HT_ ?_
         refine qO 14 (some 25) (bl [15, 28]) HT_ ?_
         refine qO 15 (some 26) (bl [16, 27]) HT_ ?_
         refine qO 16 (some 27) (bl [17, 26]) HT_ ?_
         refine qO 17 (some 28) (bl [18, 25]) HT_ ?_
         refine qO 18 (some 29) (bl [19, 24]) HT_ ?_
         refine qO 19 (some 30) (bl [20, 23]) HT_ ?_
         refine qO 20 (some 31) (bl [21, 22]) HT_ ?_
         refine qO 21 (some 32) (bl [22, 21]) HT_ ?_
         refine qO 22 (some 33) (bl [23, 20]) HT_ ?_
         refine qA 23 (some 34) (bl [24, 19]) HT_ ?_
         refine qA 24 (some 35) (bl [25, 18]) HT_ ?_
         refine qA 25 (some 36) (bl [26, 17]) HT_ ?_
         refine qA 26 (some 37) (bl [27, 16]) HT_ ?_
         refine qA 27 (some 38) (bl [28, 15]) HT_ ?_
         refine qA 28 (some 39) (bl [29, 14]) HT_ ?_
         refine qA 29 (some 40) (bl [30, 13]) HT_ ?_
         refine qT 30 (some 41) (bl [31, 12]) HT_ HW_ hHeld ?_
         refine qA 31 (some 42) (bl [32, 11]) HT_ ?_
         refine qA 32 (some 43) (bl [33, 10]) HT_ ?_
         refine qA 33 (some 44) (bl [34, 9]) HT_ ?_
         refine qA 34 (some 45) (bl [35, 8]) HT_ ?_
         refine qA 35 (some 46) (bl [36, 7]) HT_ ?_
         refine qA 36 (some 47) (bl [37, 6]) HT_ ?_
         refine qA 37 (some 48) (bl [38, 5]) HT_ ?_
         refine qA 38 (some 49) (bl [39, 4]) HT_ ?_
         refine qT 39 (some 50) (bl [40, 3]) HT_ HW_ hHeld ?_
         refine qA 40 (some 51) (bl [41, 2]) HT_ ?_
         refine qA 41 (some 52) (bl [42, 1]) HT_ ?_
         refine qA 42 (some 53) (bl [43]) HT_ ?_
         refine done_ (done_of HT_.out (by kernel_rfl)) ?_
         try go_wp2
         go_meet
         case rel => exact ⟨_, (decide ((((rd_T33 l0 x3_1).f1).length : Int) > 12)), (by first | rfl | (simp; done) | (simp [*]; done)), H', ⟨by have := HK1.out; first | omega | exact Nat.le_refl _⟩, ⟨by repeat (first | (with_reducible first | exact HB.out | apply below_alloc | apply pw_below_drewN | apply below_drew1) | exact HB.out)⟩⟩
      ·
       replace c6 := Bool.eq_false_iff.mpr c6
       subst c6
       have H1 : (syllabaryref21_templates.j1 k1 l0 x3_1 true) = some r := by rw [if_neg (show ¬ (false = true) by decide)] at H; exact H
       clear H
       have H := H1
       clear H1
       have H' := Aside0.mk H
       clear H
       try go_wp2
       have n0_ := Aside0.mk (below_drew1 HB.out)
       clear HB
       have HB := n0_
       clear n0_
       have p179 : 0 ≤ (x3_1 : Int) := of_decide_eq_true (by assumption)
       have q179 : x3_1 < (l0.length : Int) := of_decide_eq_true (by assumption)
       obtain ⟨ad179, A179_1, c179_1, e179, hx179_0, hx179_1, hl179_1, hi179_1⟩ := at_T33 HR0.out x3_1 p179 q179
       have hw179_1 := hx179_1
       have hw179_0 := hx179_0
       cases e179
       replace hx179_0 := (HB.out.cell (World.block_lt_of_cell? w _ hx179_0)).trans hx179_0
       replace hx179_1 := (HB.out.cell (World.block_lt_of_cell? w _ hx179_1)).trans hx179_1
       have HR179_1 := Aside0.mk hi179_1
       have HC179_1 := Aside0.mk hl179_1
       clear hi179_1 hl179_1
       replace p179 := eq_true p179
       replace q179 := eq_true q179
       refine start_ (n := 43) (S := fun w' => w'.cell? (ad179.add ((x3_1).toNat * 2)) = some (.int .u8 ((rd_T33 l0 x3_1).f0)) ∧ w'.cell? ⟨(ad179.add ((x3_1).toNat * 2)).block, (ad179.add ((x3_1).toNat * 2)).off + 1, none⟩ = some (.slice A179_1 ((rd_T33 l0 x3_1).f1).length c179_1)) (ds := []) (bl [0, 43]) (by kernel_rfl) rfl rfl ⟨((HB.out.cell (World.block_lt_of_cell? w _ hw179_0)).trans hw179_0), ((HB.out.cell (World.block_lt_of_cell? w _ hw179_1)).trans hw179_1)⟩ (fun hHeld => ?_); refine with_tabW syllabaryref21_templates.tab4 syllabaryref21_templates.bits4 (fun HT_ HW_ => ?_)
       generalize wr.drew = w19 at HB HR179_1 hx179_0 hx179_1 hHeld ⊢
       refine qA 0 (some 11) (bl [1, 42]) HT_ ?_
       refine qA 1 (some 12) (bl [2, 41]) HT_ ?_
       refine qA 2 (some 13) (bl [3, 40]) HT_ ?_
       refine qA 3 (some 14) (bl [4, 39]) HT_ ?_
       refine qT 4 (some 15) (bl [5, 38]) HT_ HW_ hHeld ?_
       refine one_ (i := 5) (N := some 16) (bl [6, 37]) rfl rfl (one_of HT_.out (by kernel_rfl)) (by decide) (fun K hK => ?_)
       refine goes_ Try.func86 (by kernel_rfl) rfl #[.int .u8 ((rd_T33 l0 x3_1).f0)] (by rfl) rfl rfl (by (try simp only [List.map_toArray, List.map_cons, List.map_nil]); first | done | rfl | (simp only [List.length_drop, List.length_take]; rfl)) ?_
       with_reducible refine (syllabaryref21_Letter.calls ((rd_T33 l0 x3_1).f0) false _ A5.out).mono ?_
       rintro e w' ⟨rfl, ⟨nd, rfl⟩⟩
       refine ⟨_, rfl, ?_⟩
       refine hK.out _ _ ⟨((HB.out.cell (World.block_lt_of_cell? w _ hw179_0)).trans hw179_0), ((HB.out.cell (World.block_lt_of_cell? w _ hw179_1)).trans hw179_1)⟩ (fun hHeld => ?_)
       clear hK K
       refine norm_ (a' := ?_) ?_ ?_
       rotate_left; · (show Act.put _ (some 16) _ = _; simp only [Act.put, q1, q2, q3, i64_w, i32_w]; rfl)
       refine qA 6 (some 17) (bl [7, 36]) HT_ ?_
       refine qA 7 (some 18) (bl [8, 35]) HT_ ?_
       refine qO 8 (some 19) (bl [9, 34]) HT_ ?_
       refine qO 9 (some 20) (bl [10, 33]) HT_ ?_
       refine qO 10 (some 21) (bl [11, 32]) HT_ ?_
       refine qO 11 (some 22) (bl [12, 31]) HT_ ?_
       refine qO 12 (some 23) (bl [13, 30]) HT_ ?_
       refine qO 13 (some 24) (bl [14, 29]) HT_ ?_
       refine qO 14 (some 25) (bl [15, 28]) HT_ ?_
       refine qO 15 (some 26) (bl [16, 27]) HT_ ?_
       refine qO 16 (some 27) (bl [17, 26]) HT_ ?_
       refine qO 17 (some 28) (bl [18, 25]) HT_ ?_
       refine qO 18 (some 29) (bl [19, 24]) HT_ ?_
       refine qO 19 (some 30) (bl [20, 23]) HT_ ?_
       refine qO 20 (some 31) (bl [21, 22]) HT_ ?_
       refine qO 21 (some 32) (bl [22, 21]) HT_ ?_
       refine qO 22 (some 33) (bl [23, 20]) HT_ ?_
       refine qO 23 (some 34) (bl [24, 19]) HT_ ?_
       refine qA 24 (some 35) (bl [25, 18]) HT_ ?_
       refine qA 25 (some 36) (bl [26, 17]) HT_ ?_
       refine qO 26 (some 37) (bl [27, 16]) HT_ ?_
       refine qO 27 (some 38) (bl [28, 15]) HT_ ?_
       refine qO 28 (some 39) (bl [29, 14]) HT_ ?_
       refine qO 29 (some 40) (bl [30, 13]) HT_ ?_
       refine qO 30 (some 41) (bl [31, 12]) HT_ ?_
       refine qO 31 (some 42) (bl [32, 11]) HT_ ?_
       refine qO 32 (some 43) (bl [33, 10]) HT_ ?_
       refine qA 33 (some 44) (bl [34, 9]) HT_ ?_
       refine qA 34 (some 45) (bl [35, 8]) HT_ ?_
       refine qO 35 (some 46) (bl [36, 7]) HT_ ?_
       refine qO 36 (some 47) (bl [37, 6]) HT_ ?_
       refine qO 37 (some 48) (bl [38, 5]) HT_ ?_
       refine qO 38 (some 49) (bl [39, 4]) HT_ ?_
       refine qO 39 (some 50) (bl [40, 3]) HT_ ?_
       refine qO 40 (some 51) (bl [41, 2]) HT_ ?_
       refine qO 41 (some 52) (bl [42, 1]) HT_ ?_
       refine qA 42 (some 53) (bl [43]) HT_ ?_
       refine done_ (done_of HT_.out (by kernel_rfl)) ?_
       try go_wp2
       go_meet
       case rel => exact ⟨_, (true), (by first | rfl | (simp; done) | (simp [*]; done)), H', ⟨by have := HK1.out; first | omega | exact Nat.le_refl _⟩, ⟨by repeat (first | (with_reducible first | exact HB.out | apply below_alloc | apply pw_below_drewN | apply below_drew1) | exact HB.out)⟩⟩
     ·
      rw [if_neg c4] at H
      exact absurd H (by simp)
    case rest =>
     clear HC3
     try clear c1
     try clear p1
     try clear q1
     try clear hx1
     try clear p2
     try clear c4
     try clear c6
     try clear c8
     try clear c17
     try clear p17
     try clear q17
     try clear hx17
     try clear c18
     try clear p18
     try clear q18
     try clear hx18
     try clear hx179_0
     try clear hx179_1
     try clear hx185_0
     try clear hx185_1
     try clear hx186_0
     try clear hx186_1
     try clear p179
     try clear p185
     try clear p186
     try clear q179
     try clear q185
     try clear q186
     obtain ⟨kq, x53_2, rfl, HA, HJ2, HB⟩ := hcut
     cases kq with
     | zero => exact absurd HA.out (by simp [syllabaryref21_templates.j1])
     | succ kj2 =>
      have H := HA.out
      clear HA
      simp only [syllabaryref21_templates.j1] at H
      by_cases c20 : x53_2 = true
      ·
       subst c20
       have H1 : (some false) = some r := by rw [if_pos rfl] at H; exact H
       clear H
       have H := H1
       clear H1
       obtain rfl := Option.some.inj H
       go_wp2
       go_ret
       exact ⟨by first | rfl | (simp [errW_none, errW_some] <;> rfl) | (simp [*, errW_none, errW_some] <;> rfl), by repeat (first | (with_reducible first | exact HB.out | apply below_alloc | apply pw_below_drewN | apply below_drew1) | exact HB.out)⟩
      ·
       replace c20 := Bool.eq_false_iff.mpr c20
       subst c20
       have H1 : (syllabaryref21_templates.l1 kj2 l0 x3_1 0) = some r := by rw [if_neg (show ¬ (false = true) by decide)] at H; exact H
       clear H
       have H := H1
       clear H1
       have H' := Aside0.mk H
       clear H
       go_wp2
       go_loopg [4] kj2 (fun kq v4 w' => ∃ (x4_3 : Int), v4 = .int .i64 x4_3 ∧ Aside0 (syllabaryref21_templates.l1 kq l0 x3_1 x4_3 = some r) ∧ Aside0 (kq ≤ kj2) ∧ Aside0 (Below w.heap.size w w'))
       case atStart => exact ⟨(0), (by first | rfl | (simp; done) | (simp [*]; done)), H', ⟨Nat.le_refl _⟩, ⟨by repeat (first | (with_reducible first | exact HB.out | apply below_alloc | apply pw_below_drewN | apply below_drew1) | exact HB.out)⟩⟩
       case round =>
        clear H'
        try clear c1
        try clear p1
        try clear q1
        try clear hx1
        try clear c2
        try clear p2
        try clear c4
        try clear c6
        try clear c8
        try clear c17
        try clear p17
        try clear q17
        try clear hx17
        try clear c18
        try clear p18
        try clear q18
        try clear hx18
        try clear c20
        try clear hx179_0
        try clear hx179_1
        try clear hx185_0
        try clear hx185_1
        try clear hx186_0
        try clear hx186_1
        try clear p1
        try clear p17
        try clear p179
        try clear p18
        try clear p185
        try clear p186
        try clear p2
        try clear q1
        try clear q17
        try clear q179
        try clear q18
        try clear q185
        try clear q186
        obtain ⟨x4_3, rfl, HA, HK3, HB⟩ := hrel
        cases gk with
        | zero => exact absurd HA.out (by simp [syllabaryref21_templates.l1])
        | succ k3 =>
         have H := HA.out
         clear HA
         simp only [syllabaryref21_templates.l1] at H
         by_cases c21 : 0 ≤ x3_1
         ·
          rw [if_pos c21] at H
          have c21b0 : decide (0 ≤ x3_1) = true := decide_eq_true c21
          clear c21
          by_cases c22 : x3_1 < (l0.length : Int)
          ·
           rw [if_pos c22] at H
           have c22b0 : decide (x3_1 < (l0.length : Int)) = true := decide_eq_true c22
           clear c22
           by_cases c23 : x4_3 < (((rd_T33 l0 x3_1).f1).length : Int)
           ·
            rw [if_pos c23] at H
            have c23b0 : decide (x4_3 < (((rd_T33 l0 x3_1).f1).length : Int)) = true := decide_eq_true c23
            clear c23
            by_cases c24 : 0 ≤ x4_3
            ·
             rw [if_pos c24] at H
             have c24b0 : decide (0 ≤ x4_3) = true := decide_eq_true c24
             clear c24
             replace H := Option.bind_eq_some_iff.mp H
             obtain ⟨t190, A250, H⟩ := H
             replace H : (if t190 = true then (syllabaryref21_templates.l1 k3 l0 x3_1 (wrap64 (x4_3 + 1))) else (some false)) = some r := H
             have A25 := Aside0.mk A250
             clear A250
             by_cases c26 : t190 = true
             ·
              subst c26
              have H1 : (syllabaryref21_templates.l1 k3 l0 x3_1 (wrap64 (x4_3 + 1))) = some r := by rw [if_pos rfl] at H; exact H
              clear H
              have H := H1
              clear H1
              have H' := Aside0.mk H
              clear H
              have p187 : 0 ≤ (x3_1 : Int) := of_decide_eq_true (by assumption)
              have q187 : x3_1 < (l0.length : Int) := of_decide_eq_true (by assumption)
              obtain ⟨ad187, A187_1, c187_1, e187, hx187_0, hx187_1, hl187_1, hi187_1⟩ := at_T33 HR0.out x3_1 p187 q187
              cases e187
              replace hx187_0 := (HB.out.cell (World.block_lt_of_cell? w _ hx187_0)).trans hx187_0
              replace hx187_1 := (HB.out.cell (World.block_lt_of_cell? w _ hx187_1)).trans hx187_1
              have HR187_1 := Aside0.mk hi187_1
              have HC187_1 := Aside0.mk hl187_1
              clear hi187_1 hl187_1
              replace p187 := eq_true p187
              replace q187 := eq_true q187
              have p188 : 0 ≤ (x3_1 : Int) := of_decide_eq_true (by assumption)
              have q188 : x3_1 < (l0.length : Int) := of_decide_eq_true (by assumption)
              obtain ⟨ad188, A188_1, c188_1, e188, hx188_0, hx188_1, hl188_1, hi188_1⟩ := at_T33 HR0.out x3_1 p188 q188
              obtain rfl : ad187 = ad188 := (by injection e188)
              replace hx188_0 := (HB.out.cell (World.block_lt_of_cell? w _ hx188_0)).trans hx188_0
              replace hx188_1 := (HB.out.cell (World.block_lt_of_cell? w _ hx188_1)).trans hx188_1
              have HR188_1 := Aside0.mk hi188_1
              have HC188_1 := Aside0.mk hl188_1
              clear hi188_1 hl188_1
              replace p188 := eq_true p188
              replace q188 := eq_true q188
              have ea_ := Option.some.inj (hx187_1.symm.trans hx188_1)
              injection ea_ with ea_ en_ ec_
              subst ea_
              subst ec_
              clear en_
              have p189 : 0 ≤ (x4_3 : Int) := of_decide_eq_true (by assumption)
              have q189 : x4_3 < (((rd_T33 l0 x3_1).f1).length : Int) := of_decide_eq_true (by assumption)
              obtain ⟨ad189, e189, hx189_0, hx189_1⟩ := at_T89 HR188_1.out x4_3 p189 q189
              cases e189
              replace hx189_0 := (HB.out.cell (World.block_lt_of_cell? w _ hx189_0)).trans hx189_0
              replace hx189_1 := (HB.out.cell (World.block_lt_of_cell? w _ hx189_1)).trans hx189_1
              replace p189 := eq_true p189
              replace q189 := eq_true q189
              go_wp2_with (first | ((with_reducible refine gate_callee (f := 114) rfl ?_); refine goesL_ (some 72) rfl rfl Try.func114 (by kernel_rfl) rfl #[.agg #[.int .i64 ((rd_T89 ((rd_T33 l0 x3_1).f1) x4_3).f0), .int .i64 ((rd_T89 ((rd_T33 l0 x3_1).f1) x4_3).f1)]] rfl (by (try simp only [List.map_toArray, List.map_cons, List.map_nil]); first | done | rfl | (simp only [List.length_drop, List.length_take]; rfl)) ?_; (with_reducible refine (syllabaryref21_Inside.calls ((rd_T89 ((rd_T33 l0 x3_1).f1) x4_3).f0) ((rd_T89 ((rd_T33 l0 x3_1).f1) x4_3).f1) true _ A25.out).mono ?_); rintro e w27 ⟨rfl, hb⟩; refine ⟨_, rfl, ?_⟩; have n0_ := Aside0.mk (below_step (by repeat (first | (with_reducible first | exact HB.out | apply below_alloc | apply pw_below_drewN | apply below_drew1) | exact HB.out)) hb); clear HB; have HB := n0_; clear n0_; (try clear hb); (try clear hb2); (try clear hk); (try clear hi)))
              go_roundg k3
              case measure => have := HK1.out; have := HJ2.out; have := HK3.out; omega
              case rel => exact ⟨(wrap64 (x4_3 + 1)), (by first | rfl | (simp; done) | (simp [*]; done)), H', ⟨by have := HK1.out; have := HJ2.out; have := HK3.out; omega⟩, ⟨by repeat (first | (with_reducible first | exact HB.out | apply below_alloc | apply pw_below_drewN | apply below_drew1) | exact HB.out)⟩⟩
             ·
              replace c26 := Bool.eq_false_iff.mpr c26
              subst c26
              have H1 : (some false) = some r := by rw [if_neg (show ¬ (false = true) by decide)] at H; exact H
              clear H
              have H := H1
              clear H1
              obtain rfl := Option.some.inj H
              have p187 : 0 ≤ (x3_1 : Int) := of_decide_eq_true (by assumption)
              have q187 : x3_1 < (l0.length : Int) := of_decide_eq_true (by assumption)
              obtain ⟨ad187, A187_1, c187_1, e187, hx187_0, hx187_1, hl187_1, hi187_1⟩ := at_T33 HR0.out x3_1 p187 q187
              cases e187
              replace hx187_0 := (HB.out.cell (World.block_lt_of_cell? w _ hx187_0)).trans hx187_0
              replace hx187_1 := (HB.out.cell (World.block_lt_of_cell? w _ hx187_1)).trans hx187_1
              have HR187_1 := Aside0.mk hi187_1
              have HC187_1 := Aside0.mk hl187_1
              clear hi187_1 hl187_1
              replace p187 := eq_true p187
              replace q187 := eq_true q187
              have p188 : 0 ≤ (x3_1 : Int) := of_decide_eq_true (by assumption)
              have q188 : x3_1 < (l0.length : Int) := of_decide_eq_true (by assumption)
              obtain ⟨ad188, A188_1, c188_1, e188, hx188_0, hx188_1, hl188_1, hi188_1⟩ := at_T33 HR0.out x3_1 p188 q188
              obtain rfl : ad187 = ad188 := (by injection e188)
              replace hx188_0 := (HB.out.cell (World.block_lt_of_cell? w _ hx188_0)).trans hx188_0
              replace hx188_1 := (HB.out.cell (World.block_lt_of_cell? w _ hx188_1)).trans hx188_1
              have HR188_1 := Aside0.mk hi188_1
              have HC188_1 := Aside0.mk hl188_1
              clear hi188_1 hl188_1
              replace p188 := eq_true p188
              replace q188 := eq_true q188
              have ea_ := Option.some.inj (hx187_1.symm.trans hx188_1)
              injection ea_ with ea_ en_ ec_
              subst ea_
              subst ec_
              clear en_
              have p189 : 0 ≤ (x4_3 : Int) := of_decide_eq_true (by assumption)
              have q189 : x4_3 < (((rd_T33 l0 x3_1).f1).length : Int) := of_decide_eq_true (by assumption)
              obtain ⟨ad189, e189, hx189_0, hx189_1⟩ := at_T89 HR188_1.out x4_3 p189 q189
              cases e189
              replace hx189_0 := (HB.out.cell (World.block_lt_of_cell? w _ hx189_0)).trans hx189_0
              replace hx189_1 := (HB.out.cell (World.block_lt_of_cell? w _ hx189_1)).trans hx189_1
              replace p189 := eq_true p189
              replace q189 := eq_true q189
              go_wp2_with (first | ((with_reducible refine gate_callee (f := 114) rfl ?_); refine goesL_ (some 72) rfl rfl Try.func114 (by kernel_rfl) rfl #[.agg #[.int .i64 ((rd_T89 ((rd_T33 l0 x3_1).f1) x4_3).f0), .int .i64 ((rd_T89 ((rd_T33 l0 x3_1).f1) x4_3).f1)]] rfl (by (try simp only [List.map_toArray, List.map_cons, List.map_nil]); first | done | rfl | (simp only [List.length_drop, List.length_take]; rfl)) ?_; (with_reducible refine (syllabaryref21_Inside.calls ((rd_T89 ((rd_T33 l0 x3_1).f1) x4_3).f0) ((rd_T89 ((rd_T33 l0 x3_1).f1) x4_3).f1) false _ A25.out).mono ?_); rintro e w28 ⟨rfl, hb⟩; refine ⟨_, rfl, ?_⟩; have n0_ := Aside0.mk (below_step (by repeat (first | (with_reducible first | exact HB.out | apply below_alloc | apply pw_below_drewN | apply below_drew1) | exact HB.out)) hb); clear HB; have HB := n0_; clear n0_; (try clear hb); (try clear hb2); (try clear hk); (try clear hi)))
              go_ret
              exact ⟨by first | rfl | (simp [errW_none, errW_some] <;> rfl) | (simp [*, errW_none, errW_some] <;> rfl), by repeat (first | (with_reducible first | exact HB.out | apply below_alloc | apply pw_below_drewN | apply below_drew1) | exact HB.out)⟩
            ·
             rw [if_neg c24] at H
             exact absurd H (by simp)
           ·
            rw [if_neg c23] at H
            have c23b0 : decide (x4_3 < (((rd_T33 l0 x3_1).f1).length : Int)) = false := decide_eq_false c23
            clear c23
            have H' := Aside0.mk H
            clear H
            have p187 : 0 ≤ (x3_1 : Int) := of_decide_eq_true (by assumption)
            have q187 : x3_1 < (l0.length : Int) := of_decide_eq_true (by assumption)
            obtain ⟨ad187, A187_1, c187_1, e187, hx187_0, hx187_1, hl187_1, hi187_1⟩ := at_T33 HR0.out x3_1 p187 q187
            cases e187
            replace hx187_0 := (HB.out.cell (World.block_lt_of_cell? w _ hx187_0)).trans hx187_0
            replace hx187_1 := (HB.out.cell (World.block_lt_of_cell? w _ hx187_1)).trans hx187_1
            have HR187_1 := Aside0.mk hi187_1
            have HC187_1 := Aside0.mk hl187_1
            clear hi187_1 hl187_1
            replace p187 := eq_true p187
            replace q187 := eq_true q187
            go_wp2
            go_roundg k3
            case measure => have := HK1.out; have := HJ2.out; have := HK3.out; omega
            case rel => exact ⟨(wrap64 (x3_1 + 1)), (by first | rfl | (simp; done) | (simp [*]; done)), H', ⟨by have := HK1.out; have := HJ2.out; have := HK3.out; omega⟩, ⟨by repeat (first | (with_reducible first | exact HB.out | apply below_alloc | apply pw_below_drewN | apply below_drew1) | exact HB.out)⟩⟩
          ·
           rw [if_neg c22] at H
           exact absurd H (by simp)
         ·
          rw [if_neg c21] at H
          exact absurd H (by simp)
   ·
    rw [if_neg c2] at H
    have c2b0 : decide (x3_1 < (l0.length : Int)) = false := decide_eq_false c2
    clear c2
    obtain rfl := Option.some.inj H
    go_wp2
    go_ret
    exact ⟨by first | rfl | (simp [errW_none, errW_some] <;> rfl) | (simp [*, errW_none, errW_some] <;> rfl), by repeat (first | (with_reducible first | exact HB.out | apply below_alloc | apply pw_below_drewN | apply below_drew1) | exact HB.out)⟩
end Go.Proofs.Ytplhilglokbplaa.PAll
