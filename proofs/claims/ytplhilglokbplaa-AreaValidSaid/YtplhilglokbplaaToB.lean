/- Touch: its walk. -/
import Derived.Test.YtplhilglokbplaaToA
import Derived.Deep.RegionHeld3
namespace Go.Proofs.Ytplhilglokbplaa
open Go.Shelf Go.RowKit Go.Lib Go.Proofs.YtplhilglokbplaaW.PrintWords Go.Proofs.YtplhilglokbplaaW.PrintLast Go.Proofs.YtplhilglokbplaaW.PrintMore PAll
open Go.Sort hiding Below
set_option linter.unusedVariables false
set_option linter.unusedSimpArgs false

theorem slot_hit {la : List S36} {lt : List S103} {x y : Int} {i : Nat} {I cost : Int} {r : S36} {xs : List S84} (hi : i < la.length) (hat : I.toNat = i) (hr : rd_T36 la I = r) (hxs : slotL (la.take i) lt x y = xs) (hco : priceL r (shiftL lt r.f0) x y = cost) (hc : cost ≤ 1000) :
    slotL (la.take (i + 1)) lt x y = xs ++ [⟨r.f0, cost⟩] := by
  subst hco
  have e : la[i] = r := by rw [← hr]; unfold rd_T36; rw [hat, List.getD_eq_getElem?_getD, List.getElem?_eq_getElem hi]; rfl
  unfold slotL at hxs ⊢
  rw [List.take_succ_eq_append_getElem hi, List.filterMap_append, hxs, e]
  simp [choice1, hc]
theorem slot_miss {la : List S36} {lt : List S103} {x y : Int} {i : Nat} {I cost : Int} {r : S36} {xs : List S84} (hi : i < la.length) (hat : I.toNat = i) (hr : rd_T36 la I = r) (hxs : slotL (la.take i) lt x y = xs) (hco : priceL r (shiftL lt r.f0) x y = cost) (hc : ¬ cost ≤ 1000) :
    slotL (la.take (i + 1)) lt x y = xs := by
  subst hco
  have e : la[i] = r := by rw [← hr]; unfold rd_T36; rw [hat, List.getD_eq_getElem?_getD, List.getElem?_eq_getElem hi]; rfl
  unfold slotL at hxs ⊢
  rw [List.take_succ_eq_append_getElem hi, List.filterMap_append, hxs, e]
  simp [choice1, hc]
set_option maxRecDepth 100000 in
set_option maxHeartbeats 4000000 in
theorem touch_any (w : World) (A B C T : Option Addr) (a nb b nc c tc : Nat) (la : List S36) (lt : List S103) (x y : Int) (ha : Kd.C k36 w A la.length la) (ht : Kd.C k103 w T lt.length lt) (hct : lt.length ≤ tc)
    (hxy : coordB [x, y] = true) (h8 : la.length ≤ 8) (hinc : la.Pairwise fun p q => p.f0 < q.f0) :
    Calls Try.prog 36 #[.agg #[.slice A la.length a, .slice B nb b, .slice C nc c], .slice T lt.length tc, .agg #[.int .i64 x, .int .i64 y]] w fun e w' =>
      Below w.heap.size w w' ∧ ((slotL la lt x y = [] ∧ e = .returned (.tuple #[.slice none 0 0, .int .i64 210])) ∨
        ∃ v, slotL la lt x y ≠ [] ∧ Kd.R k84 84 w' w.heap.size (fun _ => True) v (slotL la lt x y) ∧ e = .returned (.tuple #[v, .int .i64 0])) := by
  have hw2 : ∃ w2, w2 = (w.alloc (.cells #[.slice A la.length a, .slice B nb b, .slice C nc c] 26)).alloc (.cells #[.int .i64 x, .int .i64 y] 89) := ⟨_, rfl⟩
  obtain ⟨w2, hw2⟩ := hw2
  have hb2 := blk_alloc (heap_alloc_new w (.cells #[.slice A la.length a, .slice B nb b, .slice C nc c] 26)) (.cells #[.int .i64 x, .int .i64 y] 89)
  have hp2 := heap_alloc_new (w.alloc (.cells #[.slice A la.length a, .slice B nb b, .slice C nc c] 26)) (.cells #[.int .i64 x, .int .i64 y] 89)
  rw [show (w.alloc (Obj.cells #[.slice A la.length a, .slice B nb b, .slice C nc c] 26)).heap.size = w.heap.size + 1 by simp] at hp2
  have hB2 : Below w.heap.size w w2 := by rw [hw2]; exact below_alloc (below_alloc (Below.refl _ _) _) _
  have hs2 : w2.heap.size = w.heap.size + 2 := by rw [hw2]; simp
  rw [← hw2] at hb2 hp2
  have hcall : Calls Try.prog 77 #[.slice (some ⟨w2.heap.size, 0, none⟩) 2 2] (w2.alloc (.cells #[.int .i64 x, .int .i64 y] 3)) fun e w' => e = .returned (.bool true) ∧ Below (w2.alloc (.cells #[.int .i64 x, .int .i64 y] 3)).heap.size (w2.alloc (.cells #[.int .i64 x, .int .i64 y] 3)) w' := by
    have := coordinates_any (w2.alloc (.cells #[.int .i64 x, .int .i64 y] 3)) (some ⟨w2.heap.size, 0, none⟩) 2 [x, y] (C_block (fr := (0, 0)) (e := 3) [x, y] (heap_alloc_new w2 (.cells #[.int .i64 x, .int .i64 y] 3)) (by simp)) (by simp)
    rwa [hxy] at this
  have HW := Aside0.mk hw2
  have HA := Aside0.mk ha
  have HT := Aside0.mk ht
  have HCT := Aside0.mk hct
  have H8 := Aside0.mk h8
  have HINC := Aside0.mk hinc
  have HB2 := Aside0.mk hB2
  have HS2 := Aside0.mk hs2
  have HBB := Aside0.mk hb2
  have HPP := Aside0.mk hp2
  have HCALL := Aside0.mk hcall
  have hl := ha.2.1
  have c0 := blk_cell hp2 0
  have c1 := blk_cell hp2 1
  simp at c0 c1
  clear ha ht hct hxy h8 hinc hB2 hs2 hb2 hp2 hcall
  go_enter Try.func36, Try.ntmps36
  go_upto_region 1 with fail
  rw [← HW.out]
  clear hw2
  go_wp2_with fail
  refine HCALL.out.mono ?_
  rintro e w3 ⟨rfl, hb3⟩
  have HB3 : Aside0 (Below w2.heap.size w2 w3) := ⟨below_then (below1 _) (below_size (below1 _)) hb3⟩
  have HBB3 := Aside0.mk (blk_below HBB.out HB3.out)
  have HPP3 := Aside0.mk (blk_below HPP.out HB3.out)
  have HB03 := Aside0.mk (below_then HB2.out HB2.out.size HB3.out)
  clear hb3 c0 c1
  have c0 := blk_cell HBB3.out 0
  simp at c0
  go_wp2
  go_loopg [8, 24] la.length (fun gg v8 v24 wr => ∃ (i : Nat) (I : Int), v24 = .int .i64 I ∧ Aside0 (I = (i : Int)) ∧ Aside0 (i ≤ la.length) ∧ Aside0 (la.length - i ≤ gg) ∧ Aside0 (Below w2.heap.size w2 wr) ∧ Aside0 (Kd.R k84 84 wr w2.heap.size (fun _ => True) v8 (slotL (la.take i) lt x y)))
  case atStart => exact ⟨0, 0, rfl, ⟨rfl⟩, ⟨by omega⟩, ⟨by omega⟩, HB3, ⟨Kd.R_nil _ _ _ _ _⟩⟩
  case round =>
    obtain ⟨i, I, rfl, HI, HIL, HG, HB, HO⟩ := hrel
    obtain ⟨wo, rfl⟩ : ∃ wo : World, wo = wr := ⟨_, rfl⟩
    have eI := HI.out
    obtain ⟨A', c', hv⟩ := Kd.R_slice HO.out
    generalize hxs : slotL (la.take i) lt x y = xs at HO hv
    have HXS := Aside0.mk hxs
    subst hv
    have HB0 := Aside0.mk (below_then HB2.out HB2.out.size HB.out)
    clear hxs c0
    have hb2 := blk_below HBB.out HB.out
    have hp2 := blk_below HPP.out HB.out
    by_cases hlt : I < la.length
    · have d1 : decide (I < (la.length : Int)) = true := decide_eq_true hlt
      have i0 : (0 : Int) ≤ I := by omega
      obtain ⟨ad, e, hx0, hx1, hx2, hx3, hx4⟩ := at_T36 HA.out I i0 hlt
      cases e
      replace hx0 := (HB0.out.cell (World.block_lt_of_cell? w _ hx0)).trans hx0
      replace hx1 := (HB0.out.cell (World.block_lt_of_cell? w _ hx1)).trans hx1
      replace hx2 := (HB0.out.cell (World.block_lt_of_cell? w _ hx2)).trans hx2
      replace hx3 := (HB0.out.cell (World.block_lt_of_cell? w _ hx3)).trans hx3
      replace hx4 := (HB0.out.cell (World.block_lt_of_cell? w _ hx4)).trans hx4
      have hat : I.toNat = i := by omega
      rw [hat] at hx0 hx1 hx2 hx3 hx4
      have LL := Aside0.mk hlt
      generalize har : rd_T36 la I = r at hx0 hx1 hx2 hx3 hx4
      have HAR := Aside0.mk har
      have hW : ∃ W1, W1 = wo.alloc (.cells #[.int .u8 r.f0, .int .i64 r.f1, .int .i64 r.f2, .int .i64 r.f3, .int .i64 r.f4] 36) := ⟨_, rfl⟩
      obtain ⟨W1, hW⟩ := hW
      have hr1 := heap_alloc_new wo (.cells #[.int .u8 r.f0, .int .i64 r.f1, .int .i64 r.f2, .int .i64 r.f3, .int .i64 r.f4] 36)
      have hp1 := blk_alloc hp2 (.cells #[.int .u8 r.f0, .int .i64 r.f1, .int .i64 r.f2, .int .i64 r.f3, .int .i64 r.f4] 36)
      rw [← hW] at hr1 hp1
      have HBW : Aside0 (Below wo.heap.size wo W1) := ⟨by rw [hW]; exact below1 _⟩
      have HW1 := Aside0.mk hW
      have HR1 := Aside0.mk hr1
      have HP1 := Aside0.mk hp1
      clear hb2 hp2 har eI hr1 hp1
      have d2 := hlt
      go_upto_region 7 with fail
      rw [← HW1.out]
      clear hW hx0 hx1 hx2 hx3 hx4 d1 d2 hlt
      have k0 : W1.cell? ⟨wo.heap.size, 0, none⟩ = some (.int .u8 r.f0) := (blk_cell HR1.out 0).trans rfl
      have k1 : W1.cell? ⟨wo.heap.size, 1, none⟩ = some (.int .i64 r.f1) := (blk_cell HR1.out 1).trans rfl
      have k2 : W1.cell? ⟨wo.heap.size, 2, none⟩ = some (.int .i64 r.f2) := (blk_cell HR1.out 2).trans rfl
      have k3 : W1.cell? ⟨wo.heap.size, 3, none⟩ = some (.int .i64 r.f3) := (blk_cell HR1.out 3).trans rfl
      have k4 : W1.cell? ⟨wo.heap.size, 4, none⟩ = some (.int .i64 r.f4) := (blk_cell HR1.out 4).trans rfl
      have p0 : W1.cell? ⟨w.heap.size + 1, 0, none⟩ = some (.int .i64 x) := (blk_cell HP1.out 0).trans rfl
      have p1 : W1.cell? ⟨w.heap.size + 1, 1, none⟩ = some (.int .i64 y) := (blk_cell HP1.out 1).trans rfl
      have HB1 := Aside0.mk (below_then HB0.out HB0.out.size HBW.out)
      have hbel := Below.refl W1.heap.size W1
      have hsh := fun W hW => shift_any W T tc lt r.f0 (Kd.C_below HT.out (below_then HB1.out HB1.out.size hW)) HCT.out
      have HSH := Aside0.mk hsh
      have hpr := fun W => price_any W r (shiftL lt r.f0) x y
      clear hsh
      generalize hs1 : (shiftL lt r.f0).1 = s1 at HSH hpr
      generalize hs2 : (shiftL lt r.f0).2 = s2 at HSH hpr
      generalize hcost : priceL r (shiftL lt r.f0) x y = cost at hpr
      have HPR := Aside0.mk hpr
      have HCO := Aside0.mk hcost
      clear hpr hcost hs1 hs2
      go_region_held3 (fun w' => w'.cell? ⟨wo.heap.size, 0, none⟩ = some (.int .u8 r.f0) ∧ w'.cell? ⟨wo.heap.size, 1, none⟩ = some (.int .i64 r.f1) ∧ w'.cell? ⟨wo.heap.size, 2, none⟩ = some (.int .i64 r.f2) ∧ w'.cell? ⟨wo.heap.size, 3, none⟩ = some (.int .i64 r.f3) ∧ w'.cell? ⟨wo.heap.size, 4, none⟩ = some (.int .i64 r.f4) ∧ w'.cell? ⟨w.heap.size + 1, 0, none⟩ = some (.int .i64 x) ∧ w'.cell? ⟨w.heap.size + 1, 1, none⟩ = some (.int .i64 y) ∧ Below W1.heap.size W1 w')
        (first
          | (refine ⟨?_, ?_, ?_, ?_, ?_, ?_, ?_, ?_⟩ <;> first | exact below_drew hbel | (go_keep; done))
          | (go_keep; done)
          | (go_split_ands
             refine ⟨?_, ?_, ?_, ?_, ?_, ?_, ?_, ?_⟩
             · (refine (hb'.cell (World.block_lt_of_cell? _ _ (by assumption))).trans (by assumption))
             · (refine (hb'.cell (World.block_lt_of_cell? _ _ (by assumption))).trans (by assumption))
             · (refine (hb'.cell (World.block_lt_of_cell? _ _ (by assumption))).trans (by assumption))
             · (refine (hb'.cell (World.block_lt_of_cell? _ _ (by assumption))).trans (by assumption))
             · (refine (hb'.cell (World.block_lt_of_cell? _ _ (by assumption))).trans (by assumption))
             · (refine (hb'.cell (World.block_lt_of_cell? _ _ (by assumption))).trans (by assumption))
             · (refine (hb'.cell (World.block_lt_of_cell? _ _ (by assumption))).trans (by assumption))
             · (exact below_then (by assumption) (below_size (by assumption)) hb')))
        ((first
          | (go_at_call 40; go_split_ands; refine (HSH.out _ (by assumption)).mono ?_; rintro e w' ⟨rfl, hb'⟩)
          | (go_at_call 87; refine (HPR.out _).mono ?_; rintro e w' ⟨rfl, hb'⟩)))
      rename_i hHeld
      have hb4 : Below W1.heap.size W1 w' := hHeld.2.2.2.2.2.2.2
      have k5 := hHeld.1
      have HB4 := Aside0.mk (below_then HB.out HB.out.size (below_then HBW.out HBW.out.size hb4))
      have HO4 := Aside0.mk (Kd.R_below (Kd.R_below HO.out HBW.out) hb4)
      clear hHeld hb4
      clear k0 k1 k2 k3 k4 p0 p1 hbel
      have hxl : xs.length ≤ 8 := by
        rw [← HXS.out]
        have := List.length_filterMap_le (choice1 lt x y) (la.take i)
        have h8 := H8.out
        unfold slotL
        simp at this
        omega
      have hsz : w2.heap.size ≤ w'.heap.size := HB4.out.size
      have g11 : wrap64 (I + 1) = I + 1 := wrap64_in' _ (by omega) (by have := LL.out; omega)
      have HXL := Aside0.mk hxl
      have HSZ := Aside0.mk hsz
      clear hxl hsz
      by_cases hc : cost ≤ 1000
      · have d3 : decide (cost ≤ 1000) = true := decide_eq_true hc
        go_wp2_with (at_builtin; go_loud (refine Kd.R_append k84 (w0 := w2) w2.heap.size rfl (.tmp 37) (.tmp 42) 86 84 (.agg #[.int .u8 0, .int .i64 0]) 16 rfl Try.underlying86 info84 rfl (by decide) (by omega) (.slice A' xs.length c') xs (⟨r.f0, cost⟩ : S84) [.int .u8 r.f0, .int .i64 cost] (fun _ => True) (fun _ => False) rfl rfl ?aP (fun _ hk => hk.elim) ?aF ?aO ?aB ?aS ?aL ?_); (case aP => exact k84_mkM _ _ _ (⟨r.f0, cost⟩ : S84)); (case aF => exact fun k hk => trivial); (case aO => exact HO4.out); (case aB => exact HB4.out); (case aS => exact HSZ.out); (case aL => have := HXL.out; omega); intro v1 w1 ho2 hb2 hg2 hat2; (have HO5 := Aside0.mk ho2); (have HB5 := Aside0.mk hb2); obtain ⟨A2, c2, rfl⟩ := Kd.R_slice ho2; clear ho2 hb2 hg2 hat2)
        go_roundg (gk - 1)
        case measure => have h1 := HG.out; have h2 := LL.out; have h3 := HI.out; omega
        case rel =>
          refine ⟨i + 1, _, rfl, ⟨by first | (rw [g11]; have := HI.out; omega) | (have := HI.out; omega)⟩, ⟨by have h2 := LL.out; have h3 := HI.out; omega⟩, ⟨by have h1 := HG.out; omega⟩, HB5, ⟨?_⟩⟩
          have e1 : slotL (la.take (i + 1)) lt x y = xs ++ [⟨r.f0, cost⟩] := slot_hit (by have h2 := LL.out; have h3 := HI.out; omega) hat HAR.out HXS.out HCO.out (by omega)
          rw [e1]
          have h := HO5.out
          rw [List.length_append, List.length_singleton] at h
          exact h
      · have d3 : decide (cost ≤ 1000) = false := decide_eq_false hc
        go_wp2
        go_roundg (gk - 1)
        case measure => have h1 := HG.out; have h2 := LL.out; have h3 := HI.out; omega
        case rel =>
          refine ⟨i + 1, _, rfl, ⟨by first | (rw [g11]; have := HI.out; omega) | (have := HI.out; omega)⟩, ⟨by have h2 := LL.out; have h3 := HI.out; omega⟩, ⟨by have h1 := HG.out; omega⟩, HB4, ⟨?_⟩⟩
          have e1 : slotL (la.take (i + 1)) lt x y = xs := slot_miss (by have h2 := LL.out; have h3 := HI.out; omega) hat HAR.out HXS.out HCO.out (by omega)
          rw [e1]
          exact HO4.out
    · have d1 : decide (I < (la.length : Int)) = false := decide_eq_false hlt
      have hil : i = la.length := by have := HIL.out; omega
      subst hil
      rw [List.take_length] at HXS
      have HIN2 := Aside0.mk (slot_rises la lt x y HINC.out)
      rw [HXS.out] at HIN2
      clear hb2 hp2 eI
      by_cases hx0 : xs = []
      · subst hx0
        go_wp2
        go_ret2
        exact ⟨HB0.out, Or.inl ⟨HXS.out, rfl⟩⟩
      · have HNN := Aside0.mk hx0
        have hpos : 0 < xs.length := List.length_pos_iff.2 hx0
        obtain ⟨g, cap, hv2, _, hg, hH⟩ := holds_of_R HO.out hpos
        injection hv2 with hA hn hc2
        subst hA
        have hxl : xs.length ≤ 8 := by
          rw [← HXS.out]
          have := List.length_filterMap_le (choice1 lt x y) la
          have h8 := H8.out
          unfold slotL
          omega
        have q1 : decide ((xs.length : Int) = 0) = false := decide_eq_false (by omega)
        have q2 : decide (8 < (xs.length : Int)) = false := decide_eq_false (by omega)
        have q3 : (xs.length == 0) = false := beq_eq_false_iff_ne.2 (by omega)
        have q4 : ((xs.length : Int) == 0) = false := beq_eq_false_iff_ne.2 (by omega)
        have q5 : ¬ xs.length = 0 := by omega
        have q6 : decide (8 < xs.length) = false := decide_eq_false (by omega)
        have hcall : Calls Try.prog 91 #[.slice (some ⟨g, 0, none⟩) xs.length cap, .slice (some ⟨wo.heap.size, 0, none⟩) 1 1] (wo.alloc (.cells #[.func (.func 88) #[] #[]] 165)) fun e w' => e = .returned (.tuple #[]) ∧ Below (wo.alloc (.cells #[.func (.func 88) #[] #[]] 165)).heap.size (wo.alloc (.cells #[.func (.func 88) #[] #[]] 165)) w' :=
          order91_any (wo.alloc (.cells #[.func (.func 88) #[] #[]] 165)) g wo.heap.size cap xs.toArray (by rw [Go.Sort.alloc_eq_grow]; exact holdsK_grow _ _ _ _ _ _ _ hg hH) (by simp; omega) (by simp; omega) (heap_alloc_new _ _) (by omega) HIN2.out
        have HC9 := Aside0.mk hcall
        have HX8 := Aside0.mk hxl
        clear hcall hxl hH hg hpos hx0
        generalize hne : xs.length = n at HC9 q1 q2 q3 q4 q5 q6 HX8
        have HNE := Aside0.mk hne
        clear hne
        go_wp2_with fail
        refine HC9.out.mono ?_
        rintro e w' ⟨rfl, hb'⟩
        have HB' := Aside0.mk (below_then (below1 _) (below_size (below1 _)) hb')
        clear hb'
        go_wp2
        go_ret2
        refine ⟨below_then HB0.out HB0.out.size HB'.out, Or.inr ⟨_, by rw [HXS.out]; exact HNN.out, ?_, rfl⟩⟩
        rw [HXS.out]
        have h := Kd.R_lower (Kd.R_below HO.out HB'.out) HB2.out.size
        rw [HNE.out, hc2] at h
        exact h
end Go.Proofs.Ytplhilglokbplaa
