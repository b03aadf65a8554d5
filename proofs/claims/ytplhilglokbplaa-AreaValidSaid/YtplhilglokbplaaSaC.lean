/- law21.sanity: its walk. -/
import Derived.Test.YtplhilglokbplaaSaB
import Derived.Deep.RegionHeld3
namespace Go.Proofs.Ytplhilglokbplaa
open Go.Shelf Go.RowKit Go.Lib Go.Proofs.YtplhilglokbplaaW.PrintWords Go.Proofs.YtplhilglokbplaaW.PrintLast Go.Proofs.YtplhilglokbplaaW.PrintMore PAll
set_option linter.unusedVariables false
set_option linter.unusedSimpArgs false

theorem point_any (w : World) (x y : Int) : Calls Try.prog 37 #[.int .i64 x, .int .i64 y] w fun e w' => e = .returned (.agg #[.int .i64 x, .int .i64 y]) ∧ Below w.heap.size w w' :=
  syllabarylaw21_point.calls x y x y w rfl
theorem C_two {W : World} {g : Nat} (p q : S84) (h : W.heap[g]? = some (.cells #[.int .u8 p.f0, .int .i64 p.f1, .int .u8 q.f0, .int .i64 q.f1] 84)) : Kd.C k84 W (some ⟨g, 0, none⟩) 2 [p, q] := by
  have hR : Kd.R k84 84 W 0 (fun _ => True) (.slice (some ⟨g, 0, none⟩) 2 2) [p, q] := by
    refine ⟨fun _ _ => trivial, [.int .u8 p.f0, .int .i64 p.f1, .int .u8 q.f0, .int .i64 q.f1], ⟨rfl, Or.inr ⟨g, 2, _, rfl, Nat.zero_le _, h, Nat.le_refl _, by decide, rfl, rfl⟩⟩, rfl, fun j r hj => ?_⟩
    rcases j with _ | _ | j
    · simp at hj; subst hj; exact k84_mkM _ _ _ _
    · simp at hj; subst hj; exact k84_mkM _ _ _ _
    · simp at hj
  exact (Kd.R_reads' hR).2.2
theorem same_slot (w : World) (A : Option Addr) (c : Nat) (B : Option Addr) (d : Nat) (l : List S84) (h0 : Kd.C k84 w A l.length l) (hc : l.length ≤ c) (h1 : Kd.C k84 w B l.length l) (hd : l.length ≤ d) (h : syllabaryref21_SameSlot.f 20 l l = some true) :
    Calls Try.prog 38 #[.slice A l.length c, .slice B l.length d] w fun e w' => e = .returned (.bool true) ∧ Below w.heap.size w w' :=
  (syllabaryref21_SameSlot.calls 20 A c l B d l true w h0 hc h1 hd h).mono fun _ _ ⟨he, hd⟩ => ⟨he, hd.below⟩
theorem same_taps (w : World) (A : Option Addr) (c : Nat) (B : Option Addr) (d : Nat) (l : List S103) (h0 : Kd.C k103 w A l.length l) (hc : l.length ≤ c) (h1 : Kd.C k103 w B l.length l) (hd : l.length ≤ d) (h : syllabaryref21_SameTaps.f 20 l l = some true) :
    Calls Try.prog 39 #[.slice A l.length c, .slice B l.length d] w fun e w' => e = .returned (.bool true) ∧ Below w.heap.size w w' :=
  (syllabaryref21_SameTaps.calls 20 A c l B d l true w h0 hc h1 hd h).mono fun _ _ ⟨he, hd⟩ => ⟨he, hd.below⟩
theorem shift_3 (w : World) (g : Nat) (h : w.heap[g]? = some (.cells #[.int .u8 97, .int .i64 13, .int .i64 (-9), .int .i64 4] 103)) :
    Calls Try.prog 40 #[.slice (some ⟨g, 0, none⟩) 1 1, .int .u8 97] w fun e w' => e = .returned (.agg #[.int .i64 3, .int .i64 (-2)]) ∧ Below w.heap.size w w' := by
  have h1 := shift_any w (some ⟨g, 0, none⟩) 1 [⟨97, 13, -9, 4⟩] 97 (C_tap ⟨97, 13, -9, 4⟩ h) (by decide)
  rw [shift_a] at h1
  exact h1
theorem shift_0 (w : World) (A : Option Addr) (c : Nat) (h : Kd.C k103 w A 1 [⟨97, 3, -2, 1⟩]) (hc : 1 ≤ c) :
    Calls Try.prog 40 #[.slice A 1 c, .int .u8 97] w fun e w' => e = .returned (.agg #[.int .i64 0, .int .i64 0]) ∧ Below w.heap.size w w' := by
  have h1 := shift_any w A c [⟨97, 3, -2, 1⟩] 97 h hc
  rw [shift_none] at h1
  exact h1
theorem noC33 (W : World) (B : Option Addr) : Kd.C k33 W B 0 [] := ⟨rfl, by simp, fun h => absurd h (by decide)⟩
theorem noC39 (W : World) (B : Option Addr) : Kd.C k39 W B 0 [] := ⟨rfl, by simp, fun h => absurd h (by decide)⟩
theorem no_iC (i : Int) : iC (rd_T39 [] i) := by
  unfold iC rd_T39
  simp [z39]
  decide
theorem valid_2 (w : World) (A B C : Option Addr) (a b c : Nat) (ha : Kd.C k36 w A 2 la2) (hc : 2 ≤ a) :
    Calls Try.prog 12 #[.agg #[.slice A 2 a, .slice B 0 b, .slice C 0 c]] w fun e w' => e = .returned (.bool true) ∧ Below w.heap.size w w' := by
  have h := valid_any w A B C a b c la2 [] [] ha hc (noC33 w B) (noC39 w C) no_iC
  rw [two_valid] at h
  exact h
theorem valid_bad (w : World) (g : Nat) (h : w.heap[g]? = some (.cells #[.int .u8 97, .int .i64 0, .int .i64 0, .int .i64 9, .int .i64 0, .int .u8 98, .int .i64 9, .int .i64 0, .int .i64 12, .int .i64 0] 36)) :
    Calls Try.prog 12 #[.agg #[.slice (some ⟨g, 0, none⟩) 2 2, .slice none 0 0, .slice none 0 0]] w fun e w' => e = .returned (.bool false) ∧ Below w.heap.size w w' := by
  have hR : Kd.R k36 36 w 0 (fun _ => True) (.slice (some ⟨g, 0, none⟩) 2 2) [⟨97, 0, 0, 9, 0⟩, ⟨98, 9, 0, 12, 0⟩] := by
    refine ⟨fun _ _ => trivial, [.int .u8 97, .int .i64 0, .int .i64 0, .int .i64 9, .int .i64 0, .int .u8 98, .int .i64 9, .int .i64 0, .int .i64 12, .int .i64 0], ⟨rfl, Or.inr ⟨g, 2, _, rfl, Nat.zero_le _, h, Nat.le_refl _, by decide, rfl, rfl⟩⟩, rfl, fun j r hj => ?_⟩
    rcases j with _ | _ | j
    · simp at hj; subst hj; exact k36_mkM _ _ _ _
    · simp at hj; subst hj; exact k36_mkM _ _ _ _
    · simp at hj
  have h := valid_any w (some ⟨g, 0, none⟩) none none 2 0 0 _ [] [] (Kd.R_reads' hR).2.2 (Nat.le_refl _) (noC33 w none) (noC39 w none) no_iC
  rw [bad_valid] at h
  exact h
set_option maxRecDepth 100000 in
set_option maxHeartbeats 4000000 in
theorem sanity_any (w : World) : Calls Try.prog 10 #[] w fun e w' => e = .returned (.bool true) ∧ Below w.heap.size w w' := by
  have htwo := syllabarylaw21_two.calls _ _ _ w two_f
  have HT := Aside0.mk htwo
  clear htwo
  go_enter Try.func10, Try.ntmps10
  go_wp2_with fail
  refine HT.out.mono ?_
  rintro e w1 ⟨v0, v1, v2, rfl, hr0, hr1, hr2, hb1⟩
  obtain ⟨A, a, hv0, ha, hA⟩ := Kd.R_reads hr0
  change v0 = .slice A 2 a at hv0
  subst hv0
  obtain ⟨B, b, hv1⟩ := Kd.S_slice hr1
  change v1 = .slice B 0 b at hv1
  subst hv1
  obtain ⟨C, c, hv2⟩ := Kd.R_slice hr2
  change v2 = .slice C 0 c at hv2
  subst hv2
  have hW2 : ∃ W2, W2 = w1.alloc (.cells #[.slice A 2 a, .slice B 0 b, .slice C 0 c] 26) := ⟨_, rfl⟩
  obtain ⟨W2, hW2⟩ := hW2
  have hbd := heap_alloc_new w1 (.cells #[.slice A 2 a, .slice B 0 b, .slice C 0 c] 26)
  rw [← hW2] at hbd
  generalize hd : w1.heap.size = d at hbd
  have HD := Aside0.mk hd
  have HBD2 := Aside0.mk hbd
  have HB2 : Aside0 (Below w.heap.size w W2) := ⟨by rw [hW2]; exact below_alloc hb1 _⟩
  have HA2 : Aside0 (Kd.C k36 W2 A 2 la2) := ⟨by rw [hW2]; exact Kd.C_below hA (below1 _)⟩
  have HW := Aside0.mk hW2
  have HCA : Aside0 (2 ≤ a) := ⟨ha⟩
  clear hr0 hr1 hr2 hA hb1 hd hbd
  go_upto_region 2 with fail
  rw [← HW.out, HD.out]
  clear hW2
  have k0 : W2.cell? ⟨d, 0, none⟩ = some (.slice A 2 a) := (blk_cell HBD2.out 0).trans rfl
  have k1 : W2.cell? ⟨d, 1, none⟩ = some (.slice B 0 b) := (blk_cell HBD2.out 1).trans rfl
  have k2 : W2.cell? ⟨d, 2, none⟩ = some (.slice C 0 c) := (blk_cell HBD2.out 2).trans rfl
  have hbel := Below.refl W2.heap.size W2
  have hcall := fun W (hW : Below W2.heap.size W2 W) => touch2 W A B C a 0 b 0 c (Kd.C_below HA2.out hW) 4 4 coord_44.1 _ slot_4_4 (by simp)
  try unfold boardV at hcall
  have HCL2 := Aside0.mk hcall
  clear hcall
  go_region_held3 (fun w' => w'.cell? ⟨d, 0, none⟩ = some (.slice A 2 a) ∧ w'.cell? ⟨d, 1, none⟩ = some (.slice B 0 b) ∧ w'.cell? ⟨d, 2, none⟩ = some (.slice C 0 c) ∧ Below W2.heap.size W2 w')
    (first
      | (refine ⟨?_, ?_, ?_, ?_⟩ <;> first | exact below_drew hbel | (go_keep; done))
      | (go_keep; done)
      | (go_split_ands
         refine ⟨?_, ?_, ?_, ?_⟩
         · (refine (hb'.cell (World.block_lt_of_cell? _ _ (by assumption))).trans (by assumption))
         · (refine (hb'.cell (World.block_lt_of_cell? _ _ (by assumption))).trans (by assumption))
         · (refine (hb'.cell (World.block_lt_of_cell? _ _ (by assumption))).trans (by assumption))
         · (exact below_then (by assumption) (below_size (by assumption)) hb')))
    ((first
      | (go_at_call 37; refine (point_any _ 4 4).mono ?_; rintro e w' ⟨rfl, hb'⟩)
      | (go_at_call 36; go_split_ands; refine (HCL2.out _ (by assumption)).mono ?_; rintro e w' ⟨v, rfl, hv, hb'⟩)))
  rename_i hHeld
  have hb2 := hHeld.2.2.2
  have HB3 := Aside0.mk (below_then HB2.out HB2.out.size hb2)
  have HX2 := Aside0.mk hb2
  have HBD3 := Aside0.mk (blk_below HBD2.out hb2)
  have HA3 := Aside0.mk (Kd.C_below HA2.out hb2)
  obtain ⟨A2, c2, rfl⟩ := Kd.R_slice hv
  have HV2 := Aside0.mk hv
  clear hv
  clear hHeld hb2 k0 k1 k2 hbel
  obtain ⟨W3, rfl⟩ : ∃ W3, W3 = w' := ⟨_, rfl⟩
  go_upto_region 3 with fail
  have k0 : W3.cell? ⟨d, 0, none⟩ = some (.slice A 2 a) := (blk_cell HBD3.out 0).trans rfl
  have k1 : W3.cell? ⟨d, 1, none⟩ = some (.slice B 0 b) := (blk_cell HBD3.out 1).trans rfl
  have k2 : W3.cell? ⟨d, 2, none⟩ = some (.slice C 0 c) := (blk_cell HBD3.out 2).trans rfl
  have hbel := Below.refl W3.heap.size W3
  have hcall := fun W (hW : Below W3.heap.size W3 W) => touch2 W A B C a 0 b 0 c (Kd.C_below HA3.out hW) 30 5 coord_44.2.1 _ slot_30_5 (by simp)
  try unfold boardV at hcall
  have HCL3 := Aside0.mk hcall
  clear hcall
  go_region_held3 (fun w' => w'.cell? ⟨d, 0, none⟩ = some (.slice A 2 a) ∧ w'.cell? ⟨d, 1, none⟩ = some (.slice B 0 b) ∧ w'.cell? ⟨d, 2, none⟩ = some (.slice C 0 c) ∧ Below W3.heap.size W3 w')
    (first
      | (refine ⟨?_, ?_, ?_, ?_⟩ <;> first | exact below_drew hbel | (go_keep; done))
      | (go_keep; done)
      | (go_split_ands
         refine ⟨?_, ?_, ?_, ?_⟩
         · (refine (hb'.cell (World.block_lt_of_cell? _ _ (by assumption))).trans (by assumption))
         · (refine (hb'.cell (World.block_lt_of_cell? _ _ (by assumption))).trans (by assumption))
         · (refine (hb'.cell (World.block_lt_of_cell? _ _ (by assumption))).trans (by assumption))
         · (exact below_then (by assumption) (below_size (by assumption)) hb')))
    ((first
      | (go_at_call 37; refine (point_any _ 30 5).mono ?_; rintro e w' ⟨rfl, hb'⟩)
      | (go_at_call 36; go_split_ands; refine (HCL3.out _ (by assumption)).mono ?_; rintro e w' ⟨v, rfl, hv, hb'⟩)))
  rename_i hHeld
  have hb2 := hHeld.2.2.2
  have HB4 := Aside0.mk (below_then HB3.out HB3.out.size hb2)
  have HX3 := Aside0.mk hb2
  have HBD4 := Aside0.mk (blk_below HBD3.out hb2)
  have HA4 := Aside0.mk (Kd.C_below HA3.out hb2)
  obtain ⟨A3, c3, rfl⟩ := Kd.R_slice hv
  have HV3 := Aside0.mk hv
  clear hv
  clear hHeld hb2 k0 k1 k2 hbel
  obtain ⟨W4, rfl⟩ : ∃ W4, W4 = w' := ⟨_, rfl⟩
  go_upto_region 4 with fail
  have k0 : W4.cell? ⟨d, 0, none⟩ = some (.slice A 2 a) := (blk_cell HBD4.out 0).trans rfl
  have k1 : W4.cell? ⟨d, 1, none⟩ = some (.slice B 0 b) := (blk_cell HBD4.out 1).trans rfl
  have k2 : W4.cell? ⟨d, 2, none⟩ = some (.slice C 0 c) := (blk_cell HBD4.out 2).trans rfl
  have hbel := Below.refl W4.heap.size W4
  have hcall := fun W (hW : Below W4.heap.size W4 W) => touch_out W (.slice A 2 a) (.slice B 0 b) (.slice C 0 c) (.slice none 0 0) 1001 0 ⟨_, _, _, rfl⟩ ⟨_, _, _, rfl⟩ ⟨_, _, _, rfl⟩ coord_44.2.2.1
  try unfold boardV at hcall
  have HCL4 := Aside0.mk hcall
  clear hcall
  go_region_held3 (fun w' => w'.cell? ⟨d, 0, none⟩ = some (.slice A 2 a) ∧ w'.cell? ⟨d, 1, none⟩ = some (.slice B 0 b) ∧ w'.cell? ⟨d, 2, none⟩ = some (.slice C 0 c) ∧ Below W4.heap.size W4 w')
    (first
      | (refine ⟨?_, ?_, ?_, ?_⟩ <;> first | exact below_drew hbel | (go_keep; done))
      | (go_keep; done)
      | (go_split_ands
         refine ⟨?_, ?_, ?_, ?_⟩
         · (refine (hb'.cell (World.block_lt_of_cell? _ _ (by assumption))).trans (by assumption))
         · (refine (hb'.cell (World.block_lt_of_cell? _ _ (by assumption))).trans (by assumption))
         · (refine (hb'.cell (World.block_lt_of_cell? _ _ (by assumption))).trans (by assumption))
         · (exact below_then (by assumption) (below_size (by assumption)) hb')))
    ((first
      | (go_at_call 37; refine (point_any _ 1001 0).mono ?_; rintro e w' ⟨rfl, hb'⟩)
      | (go_at_call 36; go_split_ands; refine (HCL4.out _ (by assumption)).mono ?_; rintro e w' ⟨hb', rfl⟩)))
  rename_i hHeld
  have hb2 := hHeld.2.2.2
  have HB5 := Aside0.mk (below_then HB4.out HB4.out.size hb2)
  have HX4 := Aside0.mk hb2
  have HBD5 := Aside0.mk (blk_below HBD4.out hb2)
  have HA5 := Aside0.mk (Kd.C_below HA4.out hb2)
  clear hHeld hb2 k0 k1 k2 hbel
  obtain ⟨W5, rfl⟩ : ∃ W5, W5 = w' := ⟨_, rfl⟩
  go_upto_region 5 with fail
  have k0 : W5.cell? ⟨d, 0, none⟩ = some (.slice A 2 a) := (blk_cell HBD5.out 0).trans rfl
  have k1 : W5.cell? ⟨d, 1, none⟩ = some (.slice B 0 b) := (blk_cell HBD5.out 1).trans rfl
  have k2 : W5.cell? ⟨d, 2, none⟩ = some (.slice C 0 c) := (blk_cell HBD5.out 2).trans rfl
  have hbel := Below.refl W5.heap.size W5
  have hcall := fun W (hW : Below W5.heap.size W5 W) => touch2_far W A B C a 0 b 0 c (Kd.C_below HA5.out hW)
  try unfold boardV at hcall
  have HCL5 := Aside0.mk hcall
  clear hcall
  go_region_held3 (fun w' => w'.cell? ⟨d, 0, none⟩ = some (.slice A 2 a) ∧ w'.cell? ⟨d, 1, none⟩ = some (.slice B 0 b) ∧ w'.cell? ⟨d, 2, none⟩ = some (.slice C 0 c) ∧ Below W5.heap.size W5 w')
    (first
      | (refine ⟨?_, ?_, ?_, ?_⟩ <;> first | exact below_drew hbel | (go_keep; done))
      | (go_keep; done)
      | (go_split_ands
         refine ⟨?_, ?_, ?_, ?_⟩
         · (refine (hb'.cell (World.block_lt_of_cell? _ _ (by assumption))).trans (by assumption))
         · (refine (hb'.cell (World.block_lt_of_cell? _ _ (by assumption))).trans (by assumption))
         · (refine (hb'.cell (World.block_lt_of_cell? _ _ (by assumption))).trans (by assumption))
         · (exact below_then (by assumption) (below_size (by assumption)) hb')))
    ((first
      | (go_at_call 37; refine (point_any _ 1000 1000).mono ?_; rintro e w' ⟨rfl, hb'⟩)
      | (go_at_call 36; go_split_ands; refine (HCL5.out _ (by assumption)).mono ?_; rintro e w' ⟨rfl, hb'⟩)))
  rename_i hHeld
  have hb2 := hHeld.2.2.2
  have HB6 := Aside0.mk (below_then HB5.out HB5.out.size hb2)
  have HX5 := Aside0.mk hb2
  have HBD6 := Aside0.mk (blk_below HBD5.out hb2)
  have HA6 := Aside0.mk (Kd.C_below HA5.out hb2)
  clear hHeld hb2 k0 k1 k2 hbel
  obtain ⟨W6, rfl⟩ : ∃ W6, W6 = w' := ⟨_, rfl⟩
  go_upto_region 6 with fail
  have k0 : W6.cell? ⟨d, 0, none⟩ = some (.slice A 2 a) := (blk_cell HBD6.out 0).trans rfl
  have k1 : W6.cell? ⟨d, 1, none⟩ = some (.slice B 0 b) := (blk_cell HBD6.out 1).trans rfl
  have k2 : W6.cell? ⟨d, 2, none⟩ = some (.slice C 0 c) := (blk_cell HBD6.out 2).trans rfl
  have hbel := Below.refl W6.heap.size W6
  have hcall := fun W (hW : Below W6.heap.size W6 W) => adapt2_a W A B C a 0 b 0 c (Kd.C_below HA6.out hW)
  try unfold boardV at hcall
  have HCL6 := Aside0.mk hcall
  clear hcall
  go_region_held3 (fun w' => w'.cell? ⟨d, 0, none⟩ = some (.slice A 2 a) ∧ w'.cell? ⟨d, 1, none⟩ = some (.slice B 0 b) ∧ w'.cell? ⟨d, 2, none⟩ = some (.slice C 0 c) ∧ Below W6.heap.size W6 w')
    (first
      | (refine ⟨?_, ?_, ?_, ?_⟩ <;> first | exact below_drew hbel | (go_keep; done))
      | (go_keep; done)
      | (go_split_ands
         refine ⟨?_, ?_, ?_, ?_⟩
         · (refine (hb'.cell (World.block_lt_of_cell? _ _ (by assumption))).trans (by assumption))
         · (refine (hb'.cell (World.block_lt_of_cell? _ _ (by assumption))).trans (by assumption))
         · (refine (hb'.cell (World.block_lt_of_cell? _ _ (by assumption))).trans (by assumption))
         · (exact below_then (by assumption) (below_size (by assumption)) hb')))
    ((first
      | (go_at_call 37; refine (point_any _ 7 2).mono ?_; rintro e w' ⟨rfl, hb'⟩)
      | (go_at_call 33; go_split_ands; refine (HCL6.out _ (by assumption)).mono ?_; rintro e w' ⟨v, rfl, hv, hb'⟩)))
  rename_i hHeld
  have hb2 := hHeld.2.2.2
  have HB7 := Aside0.mk (below_then HB6.out HB6.out.size hb2)
  have HX6 := Aside0.mk hb2
  have HBD7 := Aside0.mk (blk_below HBD6.out hb2)
  have HA7 := Aside0.mk (Kd.C_below HA6.out hb2)
  obtain ⟨A6, c6, rfl⟩ := Kd.R_slice hv
  have HV6 := Aside0.mk hv
  clear hv
  clear hHeld hb2 k0 k1 k2 hbel
  obtain ⟨W7, rfl⟩ : ∃ W7, W7 = w' := ⟨_, rfl⟩
  go_upto_region 7 with fail
  have k0 : W7.cell? ⟨d, 0, none⟩ = some (.slice A 2 a) := (blk_cell HBD7.out 0).trans rfl
  have k1 : W7.cell? ⟨d, 1, none⟩ = some (.slice B 0 b) := (blk_cell HBD7.out 1).trans rfl
  have k2 : W7.cell? ⟨d, 2, none⟩ = some (.slice C 0 c) := (blk_cell HBD7.out 2).trans rfl
  have hbel := Below.refl W7.heap.size W7
  have hcall := fun W (hW : Below W7.heap.size W7 W) => adapt2_c W A B C a 0 b 0 c (Kd.C_below HA7.out hW)
  try unfold boardV at hcall
  have HCL7 := Aside0.mk hcall
  clear hcall
  go_region_held3 (fun w' => w'.cell? ⟨d, 0, none⟩ = some (.slice A 2 a) ∧ w'.cell? ⟨d, 1, none⟩ = some (.slice B 0 b) ∧ w'.cell? ⟨d, 2, none⟩ = some (.slice C 0 c) ∧ Below W7.heap.size W7 w')
    (first
      | (refine ⟨?_, ?_, ?_, ?_⟩ <;> first | exact below_drew hbel | (go_keep; done))
      | (go_keep; done)
      | (go_split_ands
         refine ⟨?_, ?_, ?_, ?_⟩
         · (refine (hb'.cell (World.block_lt_of_cell? _ _ (by assumption))).trans (by assumption))
         · (refine (hb'.cell (World.block_lt_of_cell? _ _ (by assumption))).trans (by assumption))
         · (refine (hb'.cell (World.block_lt_of_cell? _ _ (by assumption))).trans (by assumption))
         · (exact below_then (by assumption) (below_size (by assumption)) hb')))
    ((first
      | (go_at_call 37; refine (point_any _ 7 2).mono ?_; rintro e w' ⟨rfl, hb'⟩)
      | (go_at_call 33; go_split_ands; refine (HCL7.out _ (by assumption)).mono ?_; rintro e w' ⟨rfl, hb'⟩)))
  rename_i hHeld
  have hb2 := hHeld.2.2.2
  have HB8 := Aside0.mk (below_then HB7.out HB7.out.size hb2)
  have HX7 := Aside0.mk hb2
  have HBD8 := Aside0.mk (blk_below HBD7.out hb2)
  have HA8 := Aside0.mk (Kd.C_below HA7.out hb2)
  clear hHeld hb2 k0 k1 k2 hbel
  obtain ⟨W8, rfl⟩ : ∃ W8, W8 = w' := ⟨_, rfl⟩
  have l3 := below_then HX3.out HX3.out.size (below_then HX4.out HX4.out.size (below_then HX5.out HX5.out.size (below_then HX6.out HX6.out.size HX7.out)))
  have HS1 := Aside0.mk (Kd.C_below (Kd.R_reads' HV2.out).2.2 l3)
  have HS2 := Aside0.mk (Kd.C_below (Kd.R_reads' HV3.out).2.2 (below_then HX4.out HX4.out.size (below_then HX5.out HX5.out.size (below_then HX6.out HX6.out.size HX7.out))))
  have HS3 := Aside0.mk (Kd.C_below (Kd.R_reads' HV6.out).2.2 HX7.out)
  have HC1 := Aside0.mk (Kd.R_reads' HV2.out).2.1
  have HC2 := Aside0.mk (Kd.R_reads' HV3.out).2.1
  have HC3 := Aside0.mk (Kd.R_reads' HV6.out).2.1
  clear l3
  go_wp2_with fail
  refine (same_slot _ A2 c2 _ 2 [⟨97, 0⟩, ⟨98, 2⟩] (Kd.C_below HS1.out (below1 _)) HC1.out (C_two _ _ (heap_alloc_new _ _)) (by decide) (by kernel_rfl)).mono ?_
  rintro e w9 ⟨rfl, hb9⟩
  have HX8 : Aside0 (Below W8.heap.size W8 w9) := ⟨below_then (below1 _) (below_size (below1 _)) hb9⟩
  clear hb9
  go_wp2_with fail
  refine (same_slot _ A3 c3 _ 2 [⟨97, 27⟩, ⟨98, 7⟩] (Kd.C_below HS2.out (below_then HX8.out HX8.out.size (below1 _))) HC2.out (C_two _ _ (heap_alloc_new _ _)) (by decide) (by kernel_rfl)).mono ?_
  rintro e w10 ⟨rfl, hb10⟩
  have HX9 : Aside0 (Below W8.heap.size W8 w10) := ⟨below_then HX8.out HX8.out.size (below_then (below1 _) (below_size (below1 _)) hb10)⟩
  clear hb10
  go_wp2_with fail
  refine (same_taps _ A6 c6 _ 1 [⟨97, 3, -2, 1⟩] (Kd.C_below HS3.out (below_then HX9.out HX9.out.size (below1 _))) HC3.out (C_tap _ (heap_alloc_new _ _)) (by decide) (by kernel_rfl)).mono ?_
  rintro e w11 ⟨rfl, hb11⟩
  have HX10 : Aside0 (Below W8.heap.size W8 w11) := ⟨below_then HX9.out HX9.out.size (below_then (below1 _) (below_size (below1 _)) hb11)⟩
  clear hb11
  go_wp2_with fail
  refine (shift_3 _ _ (heap_alloc_new _ _)).mono ?_
  rintro e w12 ⟨rfl, hb12⟩
  have HX11 : Aside0 (Below W8.heap.size W8 w12) := ⟨below_then HX10.out HX10.out.size (below_then (below1 _) (below_size (below1 _)) hb12)⟩
  clear hb12
  go_wp2_with fail
  refine (point_any _ 3 (-2)).mono ?_
  rintro e w13 ⟨rfl, hb13⟩
  have HX12 : Aside0 (Below W8.heap.size W8 w13) := ⟨below_then HX11.out HX11.out.size hb13⟩
  clear hb13
  go_wp2_with fail
  refine (shift_0 _ A6 c6 (Kd.C_below HS3.out HX12.out) HC3.out).mono ?_
  rintro e w14 ⟨rfl, hb14⟩
  have HX13 : Aside0 (Below W8.heap.size W8 w14) := ⟨below_then HX12.out HX12.out.size hb14⟩
  clear hb14
  go_wp2_with fail
  refine (point_any _ 0 0).mono ?_
  rintro e w15 ⟨rfl, hb15⟩
  have HX14 : Aside0 (Below W8.heap.size W8 w15) := ⟨below_then HX13.out HX13.out.size hb15⟩
  clear hb15
  have hbd := blk_below HBD8.out HX14.out
  have k0 : w15.cell? ⟨d, 0, none⟩ = some (.slice A 2 a) := (blk_cell hbd 0).trans rfl
  have k1 : w15.cell? ⟨d, 1, none⟩ = some (.slice B 0 b) := (blk_cell hbd 1).trans rfl
  have k2 : w15.cell? ⟨d, 2, none⟩ = some (.slice C 0 c) := (blk_cell hbd 2).trans rfl
  clear hbd
  go_wp2_with fail
  refine (valid_2 _ A B C a b c (Kd.C_below HA8.out HX14.out) HCA.out).mono ?_
  rintro e w16 ⟨rfl, hb16⟩
  have HX15 : Aside0 (Below W8.heap.size W8 w16) := ⟨below_then HX14.out HX14.out.size hb16⟩
  clear hb16 k0 k1 k2
  go_wp2_with fail
  refine (valid_bad _ _ (heap_alloc_new _ _)).mono ?_
  rintro e w17 ⟨rfl, hb17⟩
  have HX16 : Aside0 (Below W8.heap.size W8 w17) := ⟨below_then HX15.out HX15.out.size (below_then (below1 _) (below_size (below1 _)) hb17)⟩
  clear hb17
  go_wp2
  go_ret
  exact ⟨rfl, below_then HB8.out HB8.out.size HX16.out⟩
end Go.Proofs.Ytplhilglokbplaa
