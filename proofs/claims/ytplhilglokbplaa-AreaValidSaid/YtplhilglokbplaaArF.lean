/- slices.IndexFunc and slices.ContainsFunc at areas; area.validAreas. -/
import Derived.Test.YtplhilglokbplaaArE
namespace Go.Proofs.Ytplhilglokbplaa
open Go.Shelf Go.RowKit Go.Proofs.YtplhilglokbplaaW.PrintWords Go.Proofs.YtplhilglokbplaaW.PrintLast Go.Proofs.YtplhilglokbplaaW.PrintMore PAll
set_option linter.unusedVariables false
set_option linter.unusedSimpArgs false

/-- The index of the first element with p, or -1. -/
def idxF {α : Type} (p : α → Bool) (l : List α) : Int := if l.any p then (l.findIdx p : Int) else -1
theorem idxF_hit {α : Type} (p : α → Bool) (l : List α) (d : α) (i : Int) (h0 : 0 ≤ i) (h1 : i < (l.length : Int)) (hq : p (l.getD i.toNat d) = true) (h : ∀ j, j < i.toNat → p (l.getD j d) = false) : idxF p l = i := by
  have hlt : i.toNat < l.length := by omega
  have e1 : l.getD i.toNat d = l[i.toNat] := by rw [List.getD_eq_getElem?_getD, List.getElem?_eq_getElem hlt]; rfl
  rw [e1] at hq
  have hany : l.any p = true := List.any_eq_true.2 ⟨_, List.getElem_mem hlt, hq⟩
  have hidx : l.findIdx p = i.toNat := by
    rw [List.findIdx_eq hlt]
    refine ⟨hq, fun j hj => ?_⟩
    have := h j hj
    rw [List.getD_eq_getElem?_getD, List.getElem?_eq_getElem (by omega)] at this
    simpa using this
  unfold idxF
  rw [if_pos hany, hidx]
  omega
theorem idxF_miss {α : Type} (p : α → Bool) (l : List α) (d : α) (i : Int) (h1 : (l.length : Int) ≤ i) (h : ∀ j, j < i.toNat → p (l.getD j d) = false) : idxF p l = -1 := by
  unfold idxF
  rw [if_neg]
  intro hany
  obtain ⟨x, hx, hp⟩ := List.any_eq_true.1 hany
  obtain ⟨j, hj, rfl⟩ := List.getElem_of_mem hx
  have := h j (by omega)
  rw [List.getD_eq_getElem?_getD, List.getElem?_eq_getElem hj] at this
  simp at this
  rw [this] at hp
  cases hp
theorem idxF_nonneg {α : Type} (p : α → Bool) (l : List α) : decide (0 ≤ idxF p l) = l.any p := by
  unfold idxF
  cases h : l.any p
  · simp
  · simp

set_option maxHeartbeats 1000000 in
theorem index78_any (w : World) (A : Option Addr) (c : Nat) (l : List S36) (hr : Kd.C k36 w A l.length l) (g : Nat) (lb : Array Value) (p : S36 → Bool) (hc : PredF Try.prog w eA (fun _ => True) id p (.func (.func g) #[] lb)) :
    Calls Try.prog 78 #[.slice A l.length c, .func (.func g) #[] lb] w fun e w' => e = .returned (.int .i64 (idxF p l)) ∧ Below w.heap.size w w' := by
  have HR := Aside0.mk hr
  have hl := hr.2.1
  obtain ⟨g0, lb0, e0, he, ha⟩ := hc
  cases e0
  have HA0 := Aside0.mk ha
  clear hr ha
  go_enter Try.func78, Try.ntmps78
  go_wp2
  go_loopg [8] l.length (fun gg v8 wr => ∃ i : Int, v8 = .int .i64 i ∧ 0 ≤ i ∧ i ≤ (l.length : Int) ∧ Aside0 (l.length - i.toNat ≤ gg) ∧ Aside0 (Below w.heap.size w wr) ∧ Aside0 (∀ j, j < i.toNat → p (l.getD j z36) = false))
  case atStart => exact ⟨0, rfl, by omega, by omega, ⟨by omega⟩, ⟨Below.refl _ _⟩, ⟨fun j hj => absurd hj (by simp)⟩⟩
  case round =>
    obtain ⟨i, rfl, h0, h1, HG, HB, HA⟩ := hrel
    obtain ⟨wo, rfl⟩ : ∃ wo : World, wo = wr := ⟨_, rfl⟩
    by_cases hlt : i < (l.length : Int)
    · obtain ⟨ad, e, hx0, hx1, hx2, hx3, hx4⟩ := at_T36 HR.out i h0 hlt
      cases e
      replace hx0 := (HB.out.cell (World.block_lt_of_cell? w _ hx0)).trans hx0
      replace hx1 := (HB.out.cell (World.block_lt_of_cell? w _ hx1)).trans hx1
      replace hx2 := (HB.out.cell (World.block_lt_of_cell? w _ hx2)).trans hx2
      replace hx3 := (HB.out.cell (World.block_lt_of_cell? w _ hx3)).trans hx3
      replace hx4 := (HB.out.cell (World.block_lt_of_cell? w _ hx4)).trans hx4
      generalize hy : rd_T36 l i = y at hx0 hx1 hx2 hx3 hx4
      have HY := Lib.hid hy; clear hy
      have hcall := HA0.out wo y HB.out trivial
      simp only [id, eA] at hcall
      cases hq : p y with
      | true =>
        rw [hq] at hcall
        have HQ := Aside0.mk hq
        clear hq
        go_wp2_with fail
        refine hcall.mono ?_
        rintro e w' ⟨rfl, hb'⟩
        have HB' := Aside0.mk hb'
        clear hb'
        go_wp2
        go_ret
        refine ⟨?_, below_then HB.out HB.out.size HB'.out⟩
        rw [idxF_hit p l z36 i h0 hlt (by rw [show l.getD i.toNat z36 = y from HY.out]; exact HQ.out) HA.out]
        rfl
      | false =>
        rw [hq] at hcall
        have HQ := Aside0.mk hq
        clear hq
        go_wp2_with fail
        refine hcall.mono ?_
        rintro e w' ⟨rfl, hb'⟩
        have HB' := Aside0.mk hb'
        clear hb'
        go_wp2
        go_roundg (l.length - (i + 1).toNat)
        case measure => have := HG.out; omega
        case rel =>
          refine ⟨i + 1, rfl, by omega, by omega, ⟨by omega⟩, ⟨below_then HB.out HB.out.size HB'.out⟩, ⟨fun j hj => ?_⟩⟩
          by_cases e : j = i.toNat
          · rw [e, show l.getD i.toNat z36 = y from HY.out]; exact HQ.out
          · exact HA.out j (by omega)
    · have hd : decide (i < (l.length : Int)) = false := decide_eq_false hlt
      go_wp2
      go_ret
      exact ⟨by rw [idxF_miss p l z36 i (by omega) HA.out]; rfl, HB.out⟩

theorem contains98_any (w : World) (A : Option Addr) (c : Nat) (l : List S36) (hr : Kd.C k36 w A l.length l) (g : Nat) (lb : Array Value) (p : S36 → Bool) (hc : PredF Try.prog w eA (fun _ => True) id p (.func (.func g) #[] lb)) :
    Calls Try.prog 98 #[.slice A l.length c, .func (.func g) #[] lb] w fun e w' => e = .returned (.bool (l.any p)) ∧ Below w.heap.size w w' := by
  rw [← idxF_nonneg]
  have hcall := index78_any w A c l hr g lb p hc
  clear hr hc
  generalize idxF p l = z at hcall ⊢
  go_enter Try.func98, Try.ntmps98
  go_wp2_with fail
  refine hcall.mono ?_
  rintro e w' ⟨rfl, hb'⟩
  have HB' := Aside0.mk hb'
  clear hb'
  go_wp2
  go_ret
  exact ⟨rfl, HB'.out⟩

/-- No two areas meet. -/
def apartB (l : List S36) : Bool := (List.range l.length).all fun i => !((l.take i).any (meetB (l.getD i z36)))
def areaPs : List (S36 → Bool) := [fun a => letB a.f0, fun a => coordB (pts a), fun a => decide (a.f1 ≤ a.f3) && decide (a.f2 ≤ a.f4)]
def areasB (l : List S36) : Bool :=
  (decide (l.length ≤ 26) && (l.all fun x => areaPs.all fun p => p x) && incB (fun a b : S36 => cmpI a.f0 b.f0) l) && apartB l

/-- A row of function values, just made. -/
theorem preds_block {α β : Type} {P : Program} {w : World} {enc : β → Value} {I : β → Prop} {π : β → α} {b : Nat} {e : TypeId} {fr : Nat × Nat} (vs : List Value) (ps : List (α → Bool)) (h : w.heap[b]? = some (.cells vs.toArray e fr)) (hl : ps.length ≤ 9223372036854775807)
    (hp : ∀ (j : Nat) (p : α → Bool), ps[j]? = some p → ∃ v, vs[j]? = some v ∧ PredF P w enc I π p v) : Preds P w enc I π (some ⟨b, 0, none⟩) ps := by
  refine ⟨hl, fun _ => ⟨_, rfl, fun j p hj => ?_⟩⟩
  obtain ⟨v, hv, hpv⟩ := hp j p hj
  refine ⟨v, ?_, hpv⟩
  rw [add_plain]
  simp [World.cell?, h, hv]

theorem predF99 (w0 : World) (b : Nat) (a : S36) (hb : w0.heap[b]? = some (.cells #[.int .u8 a.f0, .int .i64 a.f1, .int .i64 a.f2, .int .i64 a.f3, .int .i64 a.f4] 36)) :
    PredF Try.prog w0 eA (fun _ => True) id (meetB a) (.func (.func 99) #[] #[.pointer (some ⟨b, 0, none⟩)]) := by
  refine ⟨99, #[.pointer (some ⟨b, 0, none⟩)], rfl, enters_of Try.func99 (by kernel_rfl) rfl, fun w x hbl _ => ?_⟩
  have hlt : b < w0.heap.size := (Array.getElem?_eq_some_iff.1 hb).1
  have hb1 : w.heap[b]? = _ := (hbl.block b hlt).trans hb
  have c0 : w.cell? ⟨b, 0, none⟩ = some (.int .u8 a.f0) := by simp [World.cell?, hb1]
  have c1 : w.cell? ⟨b, 1, none⟩ = some (.int .i64 a.f1) := by simp [World.cell?, hb1]
  have c2 : w.cell? ⟨b, 2, none⟩ = some (.int .i64 a.f2) := by simp [World.cell?, hb1]
  have c3 : w.cell? ⟨b, 3, none⟩ = some (.int .i64 a.f3) := by simp [World.cell?, hb1]
  have c4 : w.cell? ⟨b, 4, none⟩ = some (.int .i64 a.f4) := by simp [World.cell?, hb1]
  have hbw : b < w.heap.size := Nat.lt_of_lt_of_le hlt hbl.size
  clear hb hb1 hbl hlt
  simp only [id]
  have hcall := fun W => meet_any a x W
  unfold eA at hcall ⊢
  generalize meetB a x = z at hcall ⊢
  have HCALL := Aside0.mk hcall
  clear hcall
  show Calls Try.prog 99 #[_, _] w _
  obtain ⟨k, x0, y0, x1, y1⟩ := x
  dsimp only
  dsimp only at HCALL
  have hB := ((Below.refl w.heap.size w).alloc (Nat.le_refl _) (Obj.cells #[Value.int .u8 k, Value.int .i64 x0, Value.int .i64 y0, Value.int .i64 x1, Value.int .i64 y1] 36))
  have HB := Aside0.mk hB
  clear hB
  go_enter Try.func99, Try.ntmps99
  go_wp2_with fail
  refine (HCALL.out _).mono ?_
  rintro e w' ⟨rfl, hb'⟩
  have HB' := Aside0.mk hb'
  clear hb'
  go_wp2
  go_ret
  exact ⟨rfl, below_then HB.out HB.out.size HB'.out⟩

theorem apart_end (l : List S36) (i : Int) (h1 : (l.length : Int) ≤ i) (h : ∀ j, j < i.toNat → ((l.take j).any (meetB (l.getD j z36))) = false) : apartB l = true := by
  unfold apartB
  rw [List.all_eq_true]
  intro j hj
  rw [List.mem_range] at hj
  rw [h j (by omega)]
  rfl
theorem apart_out (l : List S36) (i : Int) (h0 : 0 ≤ i) (h1 : i < (l.length : Int)) (h : ((l.take i.toNat).any (meetB (l.getD i.toNat z36))) = true) : apartB l = false := by
  unfold apartB
  rw [List.all_eq_false]
  exact ⟨i.toNat, by rw [List.mem_range]; omega, by rw [h]; simp⟩

set_option maxHeartbeats 2000000 in
theorem validAreas_any (w : World) (A : Option Addr) (c : Nat) (l : List S36) (hr : Kd.C k36 w A l.length l) (hcap : l.length ≤ c) :
    Calls Try.prog 41 #[.slice A l.length c] w fun e w' => e = .returned (.bool (areasB l)) ∧ Below w.heap.size w w' := by
  have hfits : ∀ W b, Below w.heap.size w W → W.heap[b]? = some (.cells #[.func (.func 93) #[] #[], .func (.func 95) #[] #[], .func (.func 96) #[] #[]] 157) →
      Calls Try.prog 97 #[.slice A l.length c, .func (.func 92) #[] #[], .slice (some ⟨b, 0, none⟩) 3 3] W fun e w' => e = .returned (.bool (decide (l.length ≤ 26) && (l.all fun x => areaPs.all fun p => p x) && incB (fun a b : S36 => cmpI a.f0 b.f0) l)) ∧ Below W.heap.size W w' := fun W b hW hb =>
    fits36_any W A c l (Kd.C_below hr hW) 92 #[] _ (cmpF92 W) (some ⟨b, 0, none⟩) 3 areaPs (preds_block _ areaPs hb (by simp [areaPs]) (fun j p hj => by
      rcases j with _ | _ | _ | j
      · simp [areaPs] at hj; subst hj; exact ⟨_, rfl, predF93 W⟩
      · simp [areaPs] at hj; subst hj; exact ⟨_, rfl, predF95 W⟩
      · simp [areaPs] at hj; subst hj; exact ⟨_, rfl, predF96 W⟩
      · simp [areaPs] at hj))
  have HR := Aside0.mk hr
  have hl := hr.2.1
  have HF := Aside0.mk hfits
  clear hr hfits
  unfold areasB
  cases hF : (decide (l.length ≤ 26) && (l.all fun x => areaPs.all fun p => p x) && incB (fun a b : S36 => cmpI a.f0 b.f0) l) with
  | false =>
    rw [hF] at HF
    clear hF
    go_enter Try.func41, Try.ntmps41
    go_wp2_with fail
    refine (HF.out _ _ ((Below.refl _ _).alloc (Nat.le_refl _) _) (heap_alloc_new _ _)).mono ?_
    rintro e w' ⟨rfl, hb'⟩
    have HB' := Aside0.mk (below_then ((Below.refl _ w).alloc (Nat.le_refl _) _) (by simp) hb')
    clear hb'
    go_wp2
    go_ret
    exact ⟨rfl, HB'.out⟩
  | true =>
    rw [hF] at HF
    clear hF
    go_enter Try.func41, Try.ntmps41
    go_wp2_with fail
    refine (HF.out _ _ ((Below.refl _ _).alloc (Nat.le_refl _) _) (heap_alloc_new _ _)).mono ?_
    rintro e w' ⟨rfl, hb'⟩
    have HB' := Aside0.mk (below_then ((Below.refl _ w).alloc (Nat.le_refl _) _) (by simp) hb')
    clear hb'
    go_wp2
    go_loopg [19] l.length (fun gg v19 wr => ∃ i : Int, v19 = .int .i64 i ∧ 0 ≤ i ∧ i ≤ (l.length : Int) ∧ Aside0 (l.length - i.toNat ≤ gg) ∧ Aside0 (Below w.heap.size w wr) ∧ Aside0 (∀ j, j < i.toNat → ((l.take j).any (meetB (l.getD j z36))) = false))
    case atStart => exact ⟨0, rfl, by omega, by omega, ⟨by omega⟩, HB', ⟨fun j hj => absurd hj (by simp)⟩⟩
    case round =>
      obtain ⟨i, rfl, h0, h1, HG, HB, HA⟩ := hrel
      obtain ⟨wo, rfl⟩ : ∃ wo : World, wo = wr := ⟨_, rfl⟩
      by_cases hlt : i < (l.length : Int)
      · obtain ⟨ad, e, hx0, hx1, hx2, hx3, hx4⟩ := at_T36 HR.out i h0 hlt
        cases e
        replace hx0 := (HB.out.cell (World.block_lt_of_cell? w _ hx0)).trans hx0
        replace hx1 := (HB.out.cell (World.block_lt_of_cell? w _ hx1)).trans hx1
        replace hx2 := (HB.out.cell (World.block_lt_of_cell? w _ hx2)).trans hx2
        replace hx3 := (HB.out.cell (World.block_lt_of_cell? w _ hx3)).trans hx3
        replace hx4 := (HB.out.cell (World.block_lt_of_cell? w _ hx4)).trans hx4
        generalize hy : rd_T36 l i = y at hx0 hx1 hx2 hx3 hx4
        have HY := Lib.hid hy; clear hy
        have hic : i ≤ (c : Int) := by omega
        have hcall : ∀ W, Below w.heap.size w W → W.heap[wo.heap.size]? = some (.cells #[.int .u8 y.f0, .int .i64 y.f1, .int .i64 y.f2, .int .i64 y.f3, .int .i64 y.f4] 36) →
            Calls Try.prog 98 #[.slice (some ad) i.toNat c, .func (.func 99) #[] #[.pointer (some ⟨wo.heap.size, 0, none⟩)]] W fun e w' => e = .returned (.bool ((l.take i.toNat).any (meetB y))) ∧ Below W.heap.size W w' := fun W hW hb => by
          have := contains98_any W (some ad) c (l.take i.toNat) (Kd.C_below (Kd.C_take HR.out (by omega)) hW) 99 _ (meetB y) (predF99 W wo.heap.size y hb)
          rw [List.length_take, Nat.min_eq_left (by omega)] at this
          exact this
        have HCALL := Aside0.mk hcall
        clear hcall
        cases hq : (l.take i.toNat).any (meetB y) with
        | true =>
          rw [hq] at HCALL
          have HQ := Aside0.mk hq
          clear hq
          go_wp2_with fail
          refine (HCALL.out _ (HB.out.alloc HB.out.size _) (heap_alloc_new _ _)).mono ?_
          rintro e w' ⟨rfl, hb'⟩
          have HB' := Aside0.mk (below_then (HB.out.alloc HB.out.size _) (below_size (HB.out.alloc HB.out.size _)) hb')
          clear hb'
          go_wp2
          go_ret
          refine ⟨?_, HB'.out⟩
          rw [apart_out l i h0 hlt (by rw [show l.getD i.toNat z36 = y from HY.out]; exact HQ.out)]
          rfl
        | false =>
          rw [hq] at HCALL
          have HQ := Aside0.mk hq
          clear hq
          go_wp2_with fail
          refine (HCALL.out _ (HB.out.alloc HB.out.size _) (heap_alloc_new _ _)).mono ?_
          rintro e w' ⟨rfl, hb'⟩
          have HB' := Aside0.mk (below_then (HB.out.alloc HB.out.size _) (below_size (HB.out.alloc HB.out.size _)) hb')
          clear hb'
          go_wp2
          go_roundg (l.length - (i + 1).toNat)
          case measure => have := HG.out; omega
          case rel =>
            refine ⟨i + 1, rfl, by omega, by omega, ⟨by omega⟩, HB', ⟨fun j hj => ?_⟩⟩
            by_cases e : j = i.toNat
            · rw [e, show l.getD i.toNat z36 = y from HY.out]; exact HQ.out
            · exact HA.out j (by omega)
      · have hd : decide (i < (l.length : Int)) = false := decide_eq_false hlt
        go_wp2
        go_ret
        exact ⟨by rw [apart_end l i (by omega) HA.out]; rfl, HB.out⟩
end Go.Proofs.Ytplhilglokbplaa
