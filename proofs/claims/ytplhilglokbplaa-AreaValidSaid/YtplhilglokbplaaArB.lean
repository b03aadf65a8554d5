/- What area.increasing answers at each of its element types. -/
import Derived.Test.YtplhilglokbplaaArA
import Derived.StillTailTactics
import Derived.IntWalk
namespace Go.Proofs.Ytplhilglokbplaa
open Go.RowKit Go.Proofs.YtplhilglokbplaaW.PrintWords Go.Proofs.YtplhilglokbplaaW.PrintLast Go.Proofs.YtplhilglokbplaaW.PrintMore PAll
set_option linter.unusedVariables false
set_option linter.unusedSimpArgs false

/-- A function value that compares, in every later world, at the arguments that meet I. -/
def CmpF {α β : Type} (P : Program) (w0 : World) (enc : β → Value) (I : β → Prop) (π : β → α) (f : α → α → Int) (v : Value) : Prop :=
  ∃ g lb, v = .func (.func g) #[] lb ∧ (∀ args w, (callFunc g args).run P w = .ok (.enter g args) w) ∧
    ∀ w x y, Below w0.heap.size w0 w → I x → I y → Calls P g (#[enc x, enc y] ++ lb) w fun e w' => e = .returned (.int .i64 (f (π x) (π y))) ∧ Below w.heap.size w w'

/-- Each element is greater than the one before. -/
def incB {α : Type} (f : α → α → Int) : List α → Bool
  | [] => true
  | [_] => true
  | x :: y :: r => decide (f x y < 0) && incB f (y :: r)


theorem incB_iff {α : Type} (f : α → α → Int) (d : α) : ∀ l : List α, incB f l = true ↔ ∀ j, 1 ≤ j → j < l.length → f (l.getD (j - 1) d) (l.getD j d) < 0
  | [] => by simp [incB]
  | [x] => by simp [incB]; intro j h1 h2; omega
  | x :: y :: r => by
    simp only [incB, Bool.and_eq_true, decide_eq_true_eq]
    rw [incB_iff f d (y :: r)]
    constructor
    · rintro ⟨h1, h2⟩ j hj hl
      rcases Nat.lt_or_ge 1 j with h | h
      · have := h2 (j - 1) (by omega) (by simp at hl ⊢; omega)
        obtain ⟨k, rfl⟩ : ∃ k, j = k + 2 := ⟨j - 2, by omega⟩
        simpa using this
      · have : j = 1 := by omega
        subst this
        simpa using h1
    · intro h
      refine ⟨by simpa using h 1 (by omega) (by simp), fun j hj hl => ?_⟩
      have := h (j + 1) (by omega) (by simp at hl ⊢; omega)
      obtain ⟨k, rfl⟩ : ∃ k, j = k + 1 := ⟨j - 1, by omega⟩
      simpa using this
theorem inc_step {α : Type} (f : α → α → Int) (l : List α) (d : α) (i : Int) (h0 : 1 ≤ i) (h1 : i < (l.length : Int)) (hq : f (l.getD (i.toNat - 1) d) (l.getD i.toNat d) < 0)
    (h : ∀ j, 1 ≤ j → j < i.toNat → j < l.length → f (l.getD (j - 1) d) (l.getD j d) < 0) : ∀ j, 1 ≤ j → j < (i + 1).toNat → j < l.length → f (l.getD (j - 1) d) (l.getD j d) < 0 := by
  intro j hj hj2 hj3
  by_cases e : j = i.toNat
  · rw [e]; exact hq
  · exact h j hj (by omega) hj3
theorem inc_end {α : Type} (f : α → α → Int) (l : List α) (d : α) (i : Int) (h1 : (l.length : Int) ≤ i) (h : ∀ j, 1 ≤ j → j < i.toNat → j < l.length → f (l.getD (j - 1) d) (l.getD j d) < 0) : incB f l = true :=
  (incB_iff f d l).2 fun j hj hl => h j hj (by omega) hl
theorem inc_out {α : Type} (f : α → α → Int) (l : List α) (d : α) (i : Int) (h0 : 1 ≤ i) (h1 : i < (l.length : Int)) (hq : ¬ f (l.getD (i.toNat - 1) d) (l.getD i.toNat d) < 0) : incB f l = false := by
  cases e : incB f l with
  | false => rfl
  | true => exact absurd ((incB_iff f d l).1 e i.toNat (by omega) (by omega)) hq

set_option maxRecDepth 100000 in
set_option maxHeartbeats 1000000 in
theorem inc36_any (w0 w : World) (hw0 : Below w0.heap.size w0 w) (A : Option Addr) (c : Nat) (l : List S36) (hr : Kd.C k36 w0 A l.length l) (g : Nat) (lb : Array Value) (f : S36 → S36 → Int) (hc : CmpF Try.prog w0 eA (fun _ => True) id f (.func (.func g) #[] lb)) :
    Calls Try.prog 160 #[.slice A l.length c, .func (.func g) #[] lb] w fun e w' => e = .returned (.bool (incB f l)) ∧ Below w.heap.size w w' := by
  have HR := Aside0.mk hr
  have hl := hr.2.1
  obtain ⟨g0, lb0, e0, he, ha⟩ := hc
  cases e0
  have HA0 := Aside0.mk ha
  have HW := Aside0.mk hw0
  clear hr ha hw0
  go_enter Try.func160, Try.ntmps160
  go_wp2
  go_loopg [5] l.length (fun gg v5 wr => ∃ i : Int, v5 = .int .i64 i ∧ 1 ≤ i ∧ Aside0 (l.length - i.toNat ≤ gg) ∧ Aside0 (Below w.heap.size w wr) ∧ Aside0 (∀ j, 1 ≤ j → j < i.toNat → j < l.length → f (l.getD (j - 1) z36) (l.getD j z36) < 0) ∧ Aside0 (i ≤ (l.length : Int) ∨ i = 1))
  case atStart => exact ⟨1, rfl, by omega, ⟨by omega⟩, ⟨Below.refl _ _⟩, ⟨fun j hj hj2 => absurd hj (by simp at hj2; omega)⟩, ⟨.inr rfl⟩⟩
  case round =>
    obtain ⟨i, rfl, h0, HG, HB, HA, HI⟩ := hrel
    obtain ⟨wo, rfl⟩ : ∃ wo : World, wo = wr := ⟨_, rfl⟩
    by_cases hlt : i < (l.length : Int)
    · obtain ⟨ad, ea, hxa0, hxa1, hxa2, hxa3, hxa4⟩ := at_T36 HR.out (i - 1) (by omega) (by omega)
      cases ea
      simp only [show (i - 1).toNat = i.toNat - 1 by omega] at hxa0 hxa1 hxa2 hxa3 hxa4
      obtain ⟨adb, eb, hxb0, hxb1, hxb2, hxb3, hxb4⟩ := at_T36 HR.out i (by omega) hlt
      cases eb
      have HB0 : Below w0.heap.size w0 wo := below_then HW.out HW.out.size HB.out
      replace hxa0 := (HB0.cell (World.block_lt_of_cell? w0 _ hxa0)).trans hxa0
      replace hxa1 := (HB0.cell (World.block_lt_of_cell? w0 _ hxa1)).trans hxa1
      replace hxa2 := (HB0.cell (World.block_lt_of_cell? w0 _ hxa2)).trans hxa2
      replace hxa3 := (HB0.cell (World.block_lt_of_cell? w0 _ hxa3)).trans hxa3
      replace hxa4 := (HB0.cell (World.block_lt_of_cell? w0 _ hxa4)).trans hxa4
      replace hxb0 := (HB0.cell (World.block_lt_of_cell? w0 _ hxb0)).trans hxb0
      replace hxb1 := (HB0.cell (World.block_lt_of_cell? w0 _ hxb1)).trans hxb1
      replace hxb2 := (HB0.cell (World.block_lt_of_cell? w0 _ hxb2)).trans hxb2
      replace hxb3 := (HB0.cell (World.block_lt_of_cell? w0 _ hxb3)).trans hxb3
      replace hxb4 := (HB0.cell (World.block_lt_of_cell? w0 _ hxb4)).trans hxb4
      clear HB0
      generalize hx : rd_T36 l (i - 1) = x at hxa0 hxa1 hxa2 hxa3 hxa4
      generalize hy : rd_T36 l i = y at hxb0 hxb1 hxb2 hxb3 hxb4
      have HX := Lib.hid hx; clear hx
      have HY := Lib.hid hy; clear hy
      have hcall := fun W (hW : Below w0.heap.size w0 W) => HA0.out W x y hW trivial trivial
      simp only [id, eA] at hcall
      have HCALL := Aside0.mk hcall
      clear hcall
      have hn1 : 0 ≤ i - 1 := by omega
      have hn2 : i - 1 < (l.length : Int) := by omega
      have hn0 : 0 ≤ i := by omega
      go_wp2
      have hwi : IntKind.i64.wrap (i - 1) = i - 1 := IntWalk.i64_in _ (by omega)
      go_still_tail 10, (by kernel_rfl)
      clear hwi
      change wpList _ _ _ _ _ wo.drew
      have HBd : Below w.heap.size w wo.drew := HB.out.drew
      have hcall := HCALL.out _ (below_then HW.out HW.out.size HBd)
      generalize wo.drew = w2 at hcall HBd ⊢
      have HFX : Aside0 (f (l.getD (i.toNat - 1) z36) (l.getD i.toNat z36) = f x y) := ⟨by rw [← HX.out, ← HY.out]; show _ = f (l.getD (i - 1).toNat z36) (l.getD i.toNat z36); rw [show (i - 1).toNat = i.toNat - 1 by omega]⟩
      generalize f x y = z at hcall HFX
      by_cases hq : z < 0
      · have hq1 : decide (0 ≤ z) = false := decide_eq_false (by omega)
        have HQ := Aside0.mk hq
        clear hq
        have HBd' := Aside0.mk HBd
        clear HBd
        go_wp2_with fail
        refine hcall.mono ?_
        rintro e w' ⟨rfl, hb'⟩
        go_wp2
        go_roundg (l.length - (i + 1).toNat)
        case measure => have := HG.out; omega
        case rel => exact ⟨i + 1, rfl, by omega, ⟨by omega⟩, ⟨below_then HBd'.out HBd'.out.size hb'⟩, ⟨inc_step f l z36 i h0 hlt (by rw [HFX.out]; exact HQ.out) HA.out⟩, ⟨.inl (by omega)⟩⟩
      · have hq1 : decide (0 ≤ z) = true := decide_eq_true (by omega)
        have HQ := Aside0.mk hq
        clear hq
        have HBd' := Aside0.mk HBd
        clear HBd
        go_wp2_with fail
        refine hcall.mono ?_
        rintro e w' ⟨rfl, hb'⟩
        go_wp2
        go_ret
        refine ⟨?_, below_then HBd'.out HBd'.out.size hb'⟩
        rw [inc_out f l z36 i h0 hlt (by rw [HFX.out]; have := HQ.out; omega)]
        rfl
    · have hd : decide (i < (l.length : Int)) = false := decide_eq_false hlt
      go_wp2
      go_ret
      exact ⟨by rw [inc_end f l z36 i (by omega) HA.out]; rfl, HB.out⟩

set_option maxRecDepth 100000 in
set_option maxHeartbeats 1000000 in
theorem inc33_any (w0 w : World) (hw0 : Below w0.heap.size w0 w) (A : Option Addr) (c : Nat) (l : List S33) (hr : Kd.C k33 w0 A l.length l) (g : Nat) (lb : Array Value) (f : S33 → S33 → Int) (hc : CmpF Try.prog w0 eT (iT w0) Prod.fst f (.func (.func g) #[] lb)) :
    Calls Try.prog 162 #[.slice A l.length c, .func (.func g) #[] lb] w fun e w' => e = .returned (.bool (incB f l)) ∧ Below w.heap.size w w' := by
  have HR := Aside0.mk hr
  have hl := hr.2.1
  obtain ⟨g0, lb0, e0, he, ha⟩ := hc
  cases e0
  have HA0 := Aside0.mk ha
  have HW := Aside0.mk hw0
  clear hr ha hw0
  go_enter Try.func162, Try.ntmps162
  go_wp2
  go_loopg [5] l.length (fun gg v5 wr => ∃ i : Int, v5 = .int .i64 i ∧ 1 ≤ i ∧ Aside0 (l.length - i.toNat ≤ gg) ∧ Aside0 (Below w.heap.size w wr) ∧ Aside0 (∀ j, 1 ≤ j → j < i.toNat → j < l.length → f (l.getD (j - 1) z33) (l.getD j z33) < 0) ∧ Aside0 (i ≤ (l.length : Int) ∨ i = 1))
  case atStart => exact ⟨1, rfl, by omega, ⟨by omega⟩, ⟨Below.refl _ _⟩, ⟨fun j hj hj2 => absurd hj (by simp at hj2; omega)⟩, ⟨.inr rfl⟩⟩
  case round =>
    obtain ⟨i, rfl, h0, HG, HB, HA, HI⟩ := hrel
    obtain ⟨wo, rfl⟩ : ∃ wo : World, wo = wr := ⟨_, rfl⟩
    by_cases hlt : i < (l.length : Int)
    · obtain ⟨ad, A1a, c1a, ea, hxa0, hxa1, hla1, hpa1⟩ := at_T33 HR.out (i - 1) (by omega) (by omega)
      cases ea
      simp only [show (i - 1).toNat = i.toNat - 1 by omega] at hxa0 hxa1
      obtain ⟨adb, A1b, c1b, eb, hxb0, hxb1, hlb1, hpb1⟩ := at_T33 HR.out i (by omega) hlt
      cases eb
      have HB0 : Below w0.heap.size w0 wo := below_then HW.out HW.out.size HB.out
      replace hxa0 := (HB0.cell (World.block_lt_of_cell? w0 _ hxa0)).trans hxa0
      replace hxa1 := (HB0.cell (World.block_lt_of_cell? w0 _ hxa1)).trans hxa1
      replace hxb0 := (HB0.cell (World.block_lt_of_cell? w0 _ hxb0)).trans hxb0
      replace hxb1 := (HB0.cell (World.block_lt_of_cell? w0 _ hxb1)).trans hxb1
      clear HB0
      have HPa := Aside0.mk hpa1
      have HLa := Aside0.mk hla1
      have HPb := Aside0.mk hpb1
      have HLb := Aside0.mk hlb1
      clear hpa1 hla1 hpb1 hlb1
      generalize hx : rd_T33 l (i - 1) = x at hxa0 hxa1 HPa HLa
      generalize hy : rd_T33 l i = y at hxb0 hxb1 HPb HLb
      have HX := Lib.hid hx; clear hx
      have HY := Lib.hid hy; clear hy
      have hcall := fun W (hW : Below w0.heap.size w0 W) => HA0.out W (x, .slice A1a x.f1.length c1a) (y, .slice A1b y.f1.length c1b) hW ⟨A1a, c1a, rfl, HLa.out, HPa.out⟩ ⟨A1b, c1b, rfl, HLb.out, HPb.out⟩
      simp only [eT] at hcall
      have HCALL := Aside0.mk hcall
      clear hcall
      have hn1 : 0 ≤ i - 1 := by omega
      have hn2 : i - 1 < (l.length : Int) := by omega
      have hn0 : 0 ≤ i := by omega
      go_wp2
      have hwi : IntKind.i64.wrap (i - 1) = i - 1 := IntWalk.i64_in _ (by omega)
      go_still_tail 10, (by kernel_rfl)
      clear hwi
      change wpList _ _ _ _ _ wo.drew
      have HBd : Below w.heap.size w wo.drew := HB.out.drew
      have hcall := HCALL.out _ (below_then HW.out HW.out.size HBd)
      generalize wo.drew = w2 at hcall HBd ⊢
      have HFX : Aside0 (f (l.getD (i.toNat - 1) z33) (l.getD i.toNat z33) = f x y) := ⟨by rw [← HX.out, ← HY.out]; show _ = f (l.getD (i - 1).toNat z33) (l.getD i.toNat z33); rw [show (i - 1).toNat = i.toNat - 1 by omega]⟩
      generalize f x y = z at hcall HFX
      by_cases hq : z < 0
      · have hq1 : decide (0 ≤ z) = false := decide_eq_false (by omega)
        have HQ := Aside0.mk hq
        clear hq
        have HBd' := Aside0.mk HBd
        clear HBd
        go_wp2_with fail
        refine hcall.mono ?_
        rintro e w' ⟨rfl, hb'⟩
        go_wp2
        go_roundg (l.length - (i + 1).toNat)
        case measure => have := HG.out; omega
        case rel => exact ⟨i + 1, rfl, by omega, ⟨by omega⟩, ⟨below_then HBd'.out HBd'.out.size hb'⟩, ⟨inc_step f l z33 i h0 hlt (by rw [HFX.out]; exact HQ.out) HA.out⟩, ⟨.inl (by omega)⟩⟩
      · have hq1 : decide (0 ≤ z) = true := decide_eq_true (by omega)
        have HQ := Aside0.mk hq
        clear hq
        have HBd' := Aside0.mk HBd
        clear HBd
        go_wp2_with fail
        refine hcall.mono ?_
        rintro e w' ⟨rfl, hb'⟩
        go_wp2
        go_ret
        refine ⟨?_, below_then HBd'.out HBd'.out.size hb'⟩
        rw [inc_out f l z33 i h0 hlt (by rw [HFX.out]; have := HQ.out; omega)]
        rfl
    · have hd : decide (i < (l.length : Int)) = false := decide_eq_false hlt
      go_wp2
      go_ret
      exact ⟨by rw [inc_end f l z33 i (by omega) HA.out]; rfl, HB.out⟩

set_option maxRecDepth 100000 in
set_option maxHeartbeats 1000000 in
theorem inc39_any (w0 w : World) (hw0 : Below w0.heap.size w0 w) (A : Option Addr) (c : Nat) (l : List S39) (hr : Kd.C k39 w0 A l.length l) (g : Nat) (lb : Array Value) (f : S39 → S39 → Int) (hc : CmpF Try.prog w0 eC iC id f (.func (.func g) #[] lb)) (hs : ∀ i, iC (rd_T39 l i)) :
    Calls Try.prog 165 #[.slice A l.length c, .func (.func g) #[] lb] w fun e w' => e = .returned (.bool (incB f l)) ∧ Below w.heap.size w w' := by
  have HR := Aside0.mk hr
  have hl := hr.2.1
  obtain ⟨g0, lb0, e0, he, ha⟩ := hc
  cases e0
  have HA0 := Aside0.mk ha
  have HW := Aside0.mk hw0
  clear hr ha hw0
  go_enter Try.func165, Try.ntmps165
  go_wp2
  go_loopg [5] l.length (fun gg v5 wr => ∃ i : Int, v5 = .int .i64 i ∧ 1 ≤ i ∧ Aside0 (l.length - i.toNat ≤ gg) ∧ Aside0 (Below w.heap.size w wr) ∧ Aside0 (∀ j, 1 ≤ j → j < i.toNat → j < l.length → f (l.getD (j - 1) z39) (l.getD j z39) < 0) ∧ Aside0 (i ≤ (l.length : Int) ∨ i = 1))
  case atStart => exact ⟨1, rfl, by omega, ⟨by omega⟩, ⟨Below.refl _ _⟩, ⟨fun j hj hj2 => absurd hj (by simp at hj2; omega)⟩, ⟨.inr rfl⟩⟩
  case round =>
    obtain ⟨i, rfl, h0, HG, HB, HA, HI⟩ := hrel
    obtain ⟨wo, rfl⟩ : ∃ wo : World, wo = wr := ⟨_, rfl⟩
    by_cases hlt : i < (l.length : Int)
    · obtain ⟨ad, ea, hxa0, hxa1⟩ := at_T39 HR.out (i - 1) (by omega) (by omega)
      cases ea
      simp only [show (i - 1).toNat = i.toNat - 1 by omega] at hxa0 hxa1
      obtain ⟨adb, eb, hxb0, hxb1⟩ := at_T39 HR.out i (by omega) hlt
      cases eb
      have HB0 : Below w0.heap.size w0 wo := below_then HW.out HW.out.size HB.out
      replace hxa0 := (HB0.cell (World.block_lt_of_cell? w0 _ hxa0)).trans hxa0
      replace hxa1 := (HB0.cell (World.block_lt_of_cell? w0 _ hxa1)).trans hxa1
      replace hxb0 := (HB0.cell (World.block_lt_of_cell? w0 _ hxb0)).trans hxb0
      replace hxb1 := (HB0.cell (World.block_lt_of_cell? w0 _ hxb1)).trans hxb1
      clear HB0
      have HSa := Aside0.mk (hs (i - 1))
      have HSb := Aside0.mk (hs i)
      generalize hx : rd_T39 l (i - 1) = x at hxa0 hxa1 HSa
      generalize hy : rd_T39 l i = y at hxb0 hxb1 HSb
      have HX := Lib.hid hx; clear hx
      have HY := Lib.hid hy; clear hy
      have hcall := fun W (hW : Below w0.heap.size w0 W) => HA0.out W x y hW HSa.out HSb.out
      simp only [id, eC] at hcall
      have HCALL := Aside0.mk hcall
      clear hcall
      have hn1 : 0 ≤ i - 1 := by omega
      have hn2 : i - 1 < (l.length : Int) := by omega
      have hn0 : 0 ≤ i := by omega
      go_wp2
      have hwi : IntKind.i64.wrap (i - 1) = i - 1 := IntWalk.i64_in _ (by omega)
      go_still_tail 10, (by kernel_rfl)
      clear hwi
      change wpList _ _ _ _ _ wo.drew
      have HBd : Below w.heap.size w wo.drew := HB.out.drew
      have hcall := HCALL.out _ (below_then HW.out HW.out.size HBd)
      generalize wo.drew = w2 at hcall HBd ⊢
      have HFX : Aside0 (f (l.getD (i.toNat - 1) z39) (l.getD i.toNat z39) = f x y) := ⟨by rw [← HX.out, ← HY.out]; show _ = f (l.getD (i - 1).toNat z39) (l.getD i.toNat z39); rw [show (i - 1).toNat = i.toNat - 1 by omega]⟩
      generalize f x y = z at hcall HFX
      by_cases hq : z < 0
      · have hq1 : decide (0 ≤ z) = false := decide_eq_false (by omega)
        have HQ := Aside0.mk hq
        clear hq
        have HBd' := Aside0.mk HBd
        clear HBd
        go_wp2_with fail
        refine hcall.mono ?_
        rintro e w' ⟨rfl, hb'⟩
        go_wp2
        go_roundg (l.length - (i + 1).toNat)
        case measure => have := HG.out; omega
        case rel => exact ⟨i + 1, rfl, by omega, ⟨by omega⟩, ⟨below_then HBd'.out HBd'.out.size hb'⟩, ⟨inc_step f l z39 i h0 hlt (by rw [HFX.out]; exact HQ.out) HA.out⟩, ⟨.inl (by omega)⟩⟩
      · have hq1 : decide (0 ≤ z) = true := decide_eq_true (by omega)
        have HQ := Aside0.mk hq
        clear hq
        have HBd' := Aside0.mk HBd
        clear HBd
        go_wp2_with fail
        refine hcall.mono ?_
        rintro e w' ⟨rfl, hb'⟩
        go_wp2
        go_ret
        refine ⟨?_, below_then HBd'.out HBd'.out.size hb'⟩
        rw [inc_out f l z39 i h0 hlt (by rw [HFX.out]; have := HQ.out; omega)]
        rfl
    · have hd : decide (i < (l.length : Int)) = false := decide_eq_false hlt
      go_wp2
      go_ret
      exact ⟨by rw [inc_end f l z39 i (by omega) HA.out]; rfl, HB.out⟩

set_option maxRecDepth 100000 in
set_option maxHeartbeats 1000000 in
theorem inc5_any (w0 w : World) (hw0 : Below w0.heap.size w0 w) (A : Option Addr) (c : Nat) (l : List Int) (hr : Kd.C (Kd.int .u8) w0 A l.length l) (g : Nat) (lb : Array Value) (f : Int → Int → Int) (hc : CmpF Try.prog w0 (Value.int .u8) (fun _ => True) id f (.func (.func g) #[] lb)) :
    Calls Try.prog 112 #[.slice A l.length c, .func (.func g) #[] lb] w fun e w' => e = .returned (.bool (incB f l)) ∧ Below w.heap.size w w' := by
  have HR := Aside0.mk hr
  have hl := hr.2.1
  obtain ⟨g0, lb0, e0, he, ha⟩ := hc
  cases e0
  have HA0 := Aside0.mk ha
  have HW := Aside0.mk hw0
  clear hr ha hw0
  go_enter Try.func112, Try.ntmps112
  go_wp2
  go_loopg [5] l.length (fun gg v5 wr => ∃ i : Int, v5 = .int .i64 i ∧ 1 ≤ i ∧ Aside0 (l.length - i.toNat ≤ gg) ∧ Aside0 (Below w.heap.size w wr) ∧ Aside0 (∀ j, 1 ≤ j → j < i.toNat → j < l.length → f (l.getD (j - 1) 0) (l.getD j 0) < 0) ∧ Aside0 (i ≤ (l.length : Int) ∨ i = 1))
  case atStart => exact ⟨1, rfl, by omega, ⟨by omega⟩, ⟨Below.refl _ _⟩, ⟨fun j hj hj2 => absurd hj (by simp at hj2; omega)⟩, ⟨.inr rfl⟩⟩
  case round =>
    obtain ⟨i, rfl, h0, HG, HB, HA, HI⟩ := hrel
    obtain ⟨wo, rfl⟩ : ∃ wo : World, wo = wr := ⟨_, rfl⟩
    by_cases hlt : i < (l.length : Int)
    · obtain ⟨ad, ea, hxa0⟩ := Kd.at_int HR.out (i - 1) (by omega) (by omega)
      cases ea
      simp only [show (i - 1).toNat = i.toNat - 1 by omega] at hxa0
      obtain ⟨adb, eb, hxb0⟩ := Kd.at_int HR.out i (by omega) hlt
      cases eb
      have HB0 : Below w0.heap.size w0 wo := below_then HW.out HW.out.size HB.out
      replace hxa0 := (HB0.cell (World.block_lt_of_cell? w0 _ hxa0)).trans hxa0
      replace hxb0 := (HB0.cell (World.block_lt_of_cell? w0 _ hxb0)).trans hxb0
      clear HB0
      generalize hx : rd l (i - 1) = x at hxa0
      generalize hy : rd l i = y at hxb0
      have HX := Lib.hid hx; clear hx
      have HY := Lib.hid hy; clear hy
      have hcall := fun W (hW : Below w0.heap.size w0 W) => HA0.out W x y hW trivial trivial
      simp only [id] at hcall
      have HCALL := Aside0.mk hcall
      clear hcall
      have hn1 : 0 ≤ i - 1 := by omega
      have hn2 : i - 1 < (l.length : Int) := by omega
      have hn0 : 0 ≤ i := by omega
      go_wp2
      have hwi : IntKind.i64.wrap (i - 1) = i - 1 := IntWalk.i64_in _ (by omega)
      go_still_tail 10, (by kernel_rfl)
      clear hwi
      change wpList _ _ _ _ _ wo.drew
      have HBd : Below w.heap.size w wo.drew := HB.out.drew
      have hcall := HCALL.out _ (below_then HW.out HW.out.size HBd)
      generalize wo.drew = w2 at hcall HBd ⊢
      have HFX : Aside0 (f (l.getD (i.toNat - 1) 0) (l.getD i.toNat 0) = f x y) := ⟨by rw [← HX.out, ← HY.out]; show _ = f (l.getD (i - 1).toNat 0) (l.getD i.toNat 0); rw [show (i - 1).toNat = i.toNat - 1 by omega]⟩
      generalize f x y = z at hcall HFX
      by_cases hq : z < 0
      · have hq1 : decide (0 ≤ z) = false := decide_eq_false (by omega)
        have HQ := Aside0.mk hq
        clear hq
        have HBd' := Aside0.mk HBd
        clear HBd
        go_wp2_with fail
        refine hcall.mono ?_
        rintro e w' ⟨rfl, hb'⟩
        go_wp2
        go_roundg (l.length - (i + 1).toNat)
        case measure => have := HG.out; omega
        case rel => exact ⟨i + 1, rfl, by omega, ⟨by omega⟩, ⟨below_then HBd'.out HBd'.out.size hb'⟩, ⟨inc_step f l 0 i h0 hlt (by rw [HFX.out]; exact HQ.out) HA.out⟩, ⟨.inl (by omega)⟩⟩
      · have hq1 : decide (0 ≤ z) = true := decide_eq_true (by omega)
        have HQ := Aside0.mk hq
        clear hq
        have HBd' := Aside0.mk HBd
        clear HBd
        go_wp2_with fail
        refine hcall.mono ?_
        rintro e w' ⟨rfl, hb'⟩
        go_wp2
        go_ret
        refine ⟨?_, below_then HBd'.out HBd'.out.size hb'⟩
        rw [inc_out f l 0 i h0 hlt (by rw [HFX.out]; have := HQ.out; omega)]
        rfl
    · have hd : decide (i < (l.length : Int)) = false := decide_eq_false hlt
      go_wp2
      go_ret
      exact ⟨by rw [inc_end f l 0 i (by omega) HA.out]; rfl, HB.out⟩

end Go.Proofs.Ytplhilglokbplaa
