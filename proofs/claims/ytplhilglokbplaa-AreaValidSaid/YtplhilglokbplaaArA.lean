/- Function values that answer a predicate or compare, and what area.all answers at each of its element types. -/
import Derived.Test.YtplhilglokbplaaQt
import Derived.Lib.Hide
namespace Go.Proofs.Ytplhilglokbplaa
open Go.RowKit Go.Proofs.YtplhilglokbplaaW.PrintWords Go.Proofs.YtplhilglokbplaaW.PrintLast Go.Proofs.YtplhilglokbplaaW.PrintMore PAll
set_option linter.unusedVariables false
set_option linter.unusedSimpArgs false

/-- A function value that answers a predicate, in every later world, at the arguments that meet I. -/
def PredF {α β : Type} (P : Program) (w0 : World) (enc : β → Value) (I : β → Prop) (π : β → α) (p : α → Bool) (v : Value) : Prop :=
  ∃ g lb, v = .func (.func g) #[] lb ∧ (∀ args w, (callFunc g args).run P w = .ok (.enter g args) w) ∧
    ∀ w y, Below w0.heap.size w0 w → I y → Calls P g (#[enc y] ++ lb) w fun e w' => e = .returned (.bool (p (π y))) ∧ Below w.heap.size w w'

/-- A row of such values. -/
def Preds {α β : Type} (P : Program) (w : World) (enc : β → Value) (I : β → Prop) (π : β → α) (B : Option Addr) (ps : List (α → Bool)) : Prop :=
  ps.length ≤ 9223372036854775807 ∧ (0 < ps.length → ∃ ad, B = some ad ∧ ∀ j p, ps[j]? = some p → ∃ v, w.cell? (ad.add j) = some v ∧ PredF P w enc I π p v)

theorem Preds.at_ {α β : Type} {P : Program} {w : World} {enc : β → Value} {I : β → Prop} {π : β → α} {B : Option Addr} {ps : List (α → Bool)} (h : Preds P w enc I π B ps) (d : α → Bool) (i : Int) (h0 : 0 ≤ i) (h1 : i < (ps.length : Int)) :
    ∃ ad g lb, B = some ad ∧ w.cell? (ad.add i.toNat) = some (.func (.func g) #[] lb) ∧ (∀ args w, (callFunc g args).run P w = .ok (.enter g args) w) ∧
      ∀ w1 y, Below w.heap.size w w1 → I y → Calls P g (#[enc y] ++ lb) w1 fun e w' => e = .returned (.bool (ps.getD i.toNat d (π y))) ∧ Below w1.heap.size w1 w' := by
  obtain ⟨ad, e, hc⟩ := h.2 (by omega)
  obtain ⟨v, hv, g, lb, rfl, he, ha⟩ := hc i.toNat (ps.getD i.toNat d) (by rw [List.getD_eq_getElem?_getD, List.getElem?_eq_getElem (by omega)]; rfl)
  exact ⟨ad, g, lb, e, hv, he, ha⟩

def eA (x : S36) : Value := .agg #[.int .u8 x.f0, .int .i64 x.f1, .int .i64 x.f2, .int .i64 x.f3, .int .i64 x.f4]
def eP (x : S89) : Value := .agg #[.int .i64 x.f0, .int .i64 x.f1]
def eC (x : S39) : Value := .agg #[.string x.f0, .int .u8 x.f1]
def iC (x : S39) : Prop := x.f0.size ≤ 9223372036854775807
def eT (x : S33 × Value) : Value := .agg #[.int .u8 x.1.f0, x.2]
def iT (w : World) (x : S33 × Value) : Prop := ∃ A c, x.2 = .slice A x.1.f1.length c ∧ x.1.f1.length ≤ c ∧ Kd.C k89 w A x.1.f1.length x.1.f1

theorem all_step {α : Type} (l : List α) (d : α) (q : α → Bool) (i : Int) (h0 : 0 ≤ i) (h1 : i < (l.length : Int)) (hq : q (l.getD i.toNat d) = true) (h : ∀ j, j < i.toNat → q (l.getD j d) = true) :
    ∀ j, j < (i + 1).toNat → q (l.getD j d) = true := by
  intro j hj
  by_cases e : j = i.toNat
  · rw [e]; exact hq
  · exact h j (by omega)
theorem all_end {α : Type} (l : List α) (d : α) (q : α → Bool) (i : Int) (h1 : (l.length : Int) ≤ i) (h : ∀ j, j < i.toNat → q (l.getD j d) = true) : l.all q = true := by
  rw [List.all_eq_true]
  intro x hx
  obtain ⟨j, hj, rfl⟩ := List.getElem_of_mem hx
  have := h j (by omega)
  rwa [List.getD_eq_getElem?_getD, List.getElem?_eq_getElem hj] at this
theorem all_out {α : Type} (l : List α) (d : α) (q : α → Bool) (i : Int) (h0 : 0 ≤ i) (h1 : i < (l.length : Int)) (hq : q (l.getD i.toNat d) = false) : l.all q = false := by
  rw [List.all_eq_false]
  refine ⟨l.getD i.toNat d, ?_, by rw [hq]; simp⟩
  rw [List.getD_eq_getElem?_getD, List.getElem?_eq_getElem (by omega)]
  exact List.getElem_mem _

set_option maxHeartbeats 1000000 in
theorem all36_any (w : World) (A : Option Addr) (c : Nat) (l : List S36) (hr : Kd.C k36 w A l.length l) (B : Option Addr) (cc : Nat) (ps : List (S36 → Bool)) (hc : Preds Try.prog w eA (fun _ => True) id B ps) :
    Calls Try.prog 159 #[.slice A l.length c, .slice B ps.length cc] w fun e w' => e = .returned (.bool (l.all fun x => ps.all fun p => p x)) ∧ Below w.heap.size w w' := by
  have HR := Aside0.mk hr
  have HC := Aside0.mk hc
  have hl := hr.2.1
  have hl2 := hc.1
  clear hr hc
  go_enter Try.func159, Try.ntmps159
  go_wp2
  go_loopg [11] l.length (fun gg v11 wr => ∃ i : Int, v11 = .int .i64 i ∧ 0 ≤ i ∧ i ≤ (l.length : Int) ∧ Aside0 (l.length - i.toNat ≤ gg) ∧ Aside0 (Below w.heap.size w wr) ∧ Aside0 (∀ j, j < i.toNat → (fun x => ps.all fun p => p x) (l.getD j z36) = true))
  case atStart => exact ⟨0, rfl, by omega, by omega, ⟨by omega⟩, ⟨Below.refl _ _⟩, ⟨fun j hj => absurd hj (by simp)⟩⟩
  case round =>
    obtain ⟨i, rfl, h0, h1, HG, HB, HA⟩ := hrel
    obtain ⟨wo, rfl⟩ : ∃ wo : World, wo = wr := ⟨_, rfl⟩
    by_cases hlt : i < (l.length : Int)
    · obtain ⟨ad, e, hx0, hx1, hx2, hx3, hx4⟩ := at_T36 HR.out i h0 hlt
      cases e
      replace hx0 := (HB.out.cell (World.block_lt_of_cell? w _ hx0)).trans hx0
      replace hx1 := (HB.out.cell (World.block_lt_of_cell? w _ hx1)).trans hx1
      replace hx2 := (HB.out.cell (World.block_lt_of_cell? w _ hx2)).trans hx2
      replace hx3 := (HB.out.cell (World.block_lt_of_cell? w _ hx3)).trans hx3
      replace hx4 := (HB.out.cell (World.block_lt_of_cell? w _ hx4)).trans hx4
      generalize hy : rd_T36 l i = y at hx0 hx1 hx2 hx3 hx4
      have HY := Lib.hid hy; clear hy
      go_wp2
      obtain ⟨W1, hW⟩ : ∃ W1 : World, W1 = wo.alloc (Obj.cells #[Value.int IntKind.u8 y.f0, Value.int IntKind.i64 y.f1, Value.int IntKind.i64 y.f2, Value.int IntKind.i64 y.f3, Value.int IntKind.i64 y.f4] 36) := ⟨_, rfl⟩
      rw [← hW]
      have b0 : W1.cell? ⟨wo.heap.size, 0, none⟩ = some (Value.int IntKind.u8 y.f0) := by rw [hW]; go_simp
      have b1 : W1.cell? ⟨wo.heap.size, 1, none⟩ = some (Value.int IntKind.i64 y.f1) := by rw [hW]; go_simp
      have b2 : W1.cell? ⟨wo.heap.size, 2, none⟩ = some (Value.int IntKind.i64 y.f2) := by rw [hW]; go_simp
      have b3 : W1.cell? ⟨wo.heap.size, 3, none⟩ = some (Value.int IntKind.i64 y.f3) := by rw [hW]; go_simp
      have b4 : W1.cell? ⟨wo.heap.size, 4, none⟩ = some (Value.int IntKind.i64 y.f4) := by rw [hW]; go_simp
      have HB1 : Aside0 (Below w.heap.size w W1) := ⟨by rw [hW]; exact HB.out.alloc HB.out.size _⟩
      have hz : wo.heap.size < W1.heap.size := by rw [hW]; simp
      clear hW hx0 hx1 hx2 hx3 hx4
      go_loopg [17] ps.length (fun gg v17 wr => ∃ j : Int, v17 = .int .i64 j ∧ 0 ≤ j ∧ j ≤ (ps.length : Int) ∧ Aside0 (ps.length - j.toNat ≤ gg) ∧ Aside0 (Below W1.heap.size W1 wr) ∧ Aside0 (∀ k, k < j.toNat → (fun p : S36 → Bool => p y) (ps.getD k (fun _ => false)) = true))
      case atStart => exact ⟨0, rfl, by omega, by omega, ⟨by omega⟩, ⟨Below.refl _ _⟩, ⟨fun j hj => absurd hj (by simp)⟩⟩
      case round =>
        obtain ⟨j, rfl, j0, j1, HG2, HB2, HA2⟩ := hrel
        replace b0 := (HB2.out.cell (p := ⟨wo.heap.size, 0, none⟩) hz).trans b0
        replace b1 := (HB2.out.cell (p := ⟨wo.heap.size, 1, none⟩) hz).trans b1
        replace b2 := (HB2.out.cell (p := ⟨wo.heap.size, 2, none⟩) hz).trans b2
        replace b3 := (HB2.out.cell (p := ⟨wo.heap.size, 3, none⟩) hz).trans b3
        replace b4 := (HB2.out.cell (p := ⟨wo.heap.size, 4, none⟩) hz).trans b4
        have HB3 : Below w.heap.size w wr := below_then HB1.out HB1.out.size HB2.out
        by_cases hlt2 : j < (ps.length : Int)
        · obtain ⟨ad2, g, lb, e, hv, he, ha⟩ := HC.out.at_ (fun _ => false) j j0 hlt2
          cases e
          replace hv := (HB3.cell (World.block_lt_of_cell? w _ hv)).trans hv
          have hcall := ha wr y HB3 trivial
          simp only [id, eA] at hcall
          clear ha
          cases hq : (ps.getD j.toNat (fun _ => false)) y with
          | true =>
            rw [hq] at hcall
            have HQ := Aside0.mk hq
            have HB3' := Aside0.mk HB3
            clear hq HB3
            go_wp2_with fail
            refine hcall.mono ?_
            rintro e w' ⟨rfl, hb'⟩
            go_wp2
            go_roundg (ps.length - (j + 1).toNat)
            case measure => have := HG2.out; omega
            case rel => exact ⟨j + 1, rfl, by omega, by omega, ⟨by omega⟩, ⟨below_then HB2.out HB2.out.size hb'⟩, ⟨all_step ps (fun _ => false) (fun p => p y) j j0 hlt2 HQ.out HA2.out⟩⟩
          | false =>
            rw [hq] at hcall
            have HQ := Aside0.mk hq
            have HB3' := Aside0.mk HB3
            clear hq HB3
            go_wp2_with fail
            refine hcall.mono ?_
            rintro e w' ⟨rfl, hb'⟩
            go_wp2
            go_ret
            refine ⟨?_, below_then HB3'.out HB3'.out.size hb'⟩
            rw [all_out l z36 (fun x => ps.all fun p => p x) i h0 hlt ?_]
            · rfl
            show ps.all (fun p => p (rd_T36 l i)) = false
            rw [HY.out]
            exact all_out ps (fun _ => false) (fun p => p y) j j0 hlt2 HQ.out
        · have HB3' := Aside0.mk HB3
          have hd2 : decide (j < (ps.length : Int)) = false := decide_eq_false hlt2
          clear HB3
          go_wp2
          go_roundg (l.length - (i + 1).toNat)
          case measure => have := HG.out; omega
          case rel => exact ⟨i + 1, rfl, by omega, by omega, ⟨by omega⟩, HB3', ⟨all_step l z36 (fun x => ps.all fun p => p x) i h0 hlt (by
            show ps.all (fun p => p (rd_T36 l i)) = true
            rw [HY.out]
            exact all_end ps (fun _ => false) (fun p => p y) j (by omega) HA2.out) HA.out⟩⟩
    · have hd : decide (i < (l.length : Int)) = false := decide_eq_false hlt
      go_wp2
      go_ret
      exact ⟨by rw [all_end l z36 (fun x => ps.all fun p => p x) i (by omega) HA.out]; rfl, HB.out⟩

set_option maxHeartbeats 1000000 in
theorem all89_any (w : World) (A : Option Addr) (c : Nat) (l : List S89) (hr : Kd.C k89 w A l.length l) (B : Option Addr) (cc : Nat) (ps : List (S89 → Bool)) (hc : Preds Try.prog w eP (fun _ => True) id B ps) :
    Calls Try.prog 104 #[.slice A l.length c, .slice B ps.length cc] w fun e w' => e = .returned (.bool (l.all fun x => ps.all fun p => p x)) ∧ Below w.heap.size w w' := by
  have HR := Aside0.mk hr
  have HC := Aside0.mk hc
  have hl := hr.2.1
  have hl2 := hc.1
  clear hr hc
  go_enter Try.func104, Try.ntmps104
  go_wp2
  go_loopg [11] l.length (fun gg v11 wr => ∃ i : Int, v11 = .int .i64 i ∧ 0 ≤ i ∧ i ≤ (l.length : Int) ∧ Aside0 (l.length - i.toNat ≤ gg) ∧ Aside0 (Below w.heap.size w wr) ∧ Aside0 (∀ j, j < i.toNat → (fun x => ps.all fun p => p x) (l.getD j z89) = true))
  case atStart => exact ⟨0, rfl, by omega, by omega, ⟨by omega⟩, ⟨Below.refl _ _⟩, ⟨fun j hj => absurd hj (by simp)⟩⟩
  case round =>
    obtain ⟨i, rfl, h0, h1, HG, HB, HA⟩ := hrel
    obtain ⟨wo, rfl⟩ : ∃ wo : World, wo = wr := ⟨_, rfl⟩
    by_cases hlt : i < (l.length : Int)
    · obtain ⟨ad, e, hx0, hx1⟩ := at_T89 HR.out i h0 hlt
      cases e
      replace hx0 := (HB.out.cell (World.block_lt_of_cell? w _ hx0)).trans hx0
      replace hx1 := (HB.out.cell (World.block_lt_of_cell? w _ hx1)).trans hx1
      generalize hy : rd_T89 l i = y at hx0 hx1
      have HY := Lib.hid hy; clear hy
      go_wp2
      obtain ⟨W1, hW⟩ : ∃ W1 : World, W1 = wo.alloc (Obj.cells #[Value.int IntKind.i64 y.f0, Value.int IntKind.i64 y.f1] 89) := ⟨_, rfl⟩
      rw [← hW]
      have b0 : W1.cell? ⟨wo.heap.size, 0, none⟩ = some (Value.int IntKind.i64 y.f0) := by rw [hW]; go_simp
      have b1 : W1.cell? ⟨wo.heap.size, 1, none⟩ = some (Value.int IntKind.i64 y.f1) := by rw [hW]; go_simp
      have HB1 : Aside0 (Below w.heap.size w W1) := ⟨by rw [hW]; exact HB.out.alloc HB.out.size _⟩
      have hz : wo.heap.size < W1.heap.size := by rw [hW]; simp
      clear hW hx0 hx1
      go_loopg [17] ps.length (fun gg v17 wr => ∃ j : Int, v17 = .int .i64 j ∧ 0 ≤ j ∧ j ≤ (ps.length : Int) ∧ Aside0 (ps.length - j.toNat ≤ gg) ∧ Aside0 (Below W1.heap.size W1 wr) ∧ Aside0 (∀ k, k < j.toNat → (fun p : S89 → Bool => p y) (ps.getD k (fun _ => false)) = true))
      case atStart => exact ⟨0, rfl, by omega, by omega, ⟨by omega⟩, ⟨Below.refl _ _⟩, ⟨fun j hj => absurd hj (by simp)⟩⟩
      case round =>
        obtain ⟨j, rfl, j0, j1, HG2, HB2, HA2⟩ := hrel
        replace b0 := (HB2.out.cell (p := ⟨wo.heap.size, 0, none⟩) hz).trans b0
        replace b1 := (HB2.out.cell (p := ⟨wo.heap.size, 1, none⟩) hz).trans b1
        have HB3 : Below w.heap.size w wr := below_then HB1.out HB1.out.size HB2.out
        by_cases hlt2 : j < (ps.length : Int)
        · obtain ⟨ad2, g, lb, e, hv, he, ha⟩ := HC.out.at_ (fun _ => false) j j0 hlt2
          cases e
          replace hv := (HB3.cell (World.block_lt_of_cell? w _ hv)).trans hv
          have hcall := ha wr y HB3 trivial
          simp only [id, eP] at hcall
          clear ha
          cases hq : (ps.getD j.toNat (fun _ => false)) y with
          | true =>
            rw [hq] at hcall
            have HQ := Aside0.mk hq
            have HB3' := Aside0.mk HB3
            clear hq HB3
            go_wp2_with fail
            refine hcall.mono ?_
            rintro e w' ⟨rfl, hb'⟩
            go_wp2
            go_roundg (ps.length - (j + 1).toNat)
            case measure => have := HG2.out; omega
            case rel => exact ⟨j + 1, rfl, by omega, by omega, ⟨by omega⟩, ⟨below_then HB2.out HB2.out.size hb'⟩, ⟨all_step ps (fun _ => false) (fun p => p y) j j0 hlt2 HQ.out HA2.out⟩⟩
          | false =>
            rw [hq] at hcall
            have HQ := Aside0.mk hq
            have HB3' := Aside0.mk HB3
            clear hq HB3
            go_wp2_with fail
            refine hcall.mono ?_
            rintro e w' ⟨rfl, hb'⟩
            go_wp2
            go_ret
            refine ⟨?_, below_then HB3'.out HB3'.out.size hb'⟩
            rw [all_out l z89 (fun x => ps.all fun p => p x) i h0 hlt ?_]
            · rfl
            show ps.all (fun p => p (rd_T89 l i)) = false
            rw [HY.out]
            exact all_out ps (fun _ => false) (fun p => p y) j j0 hlt2 HQ.out
        · have HB3' := Aside0.mk HB3
          have hd2 : decide (j < (ps.length : Int)) = false := decide_eq_false hlt2
          clear HB3
          go_wp2
          go_roundg (l.length - (i + 1).toNat)
          case measure => have := HG.out; omega
          case rel => exact ⟨i + 1, rfl, by omega, by omega, ⟨by omega⟩, HB3', ⟨all_step l z89 (fun x => ps.all fun p => p x) i h0 hlt (by
            show ps.all (fun p => p (rd_T89 l i)) = true
            rw [HY.out]
            exact all_end ps (fun _ => false) (fun p => p y) j (by omega) HA2.out) HA.out⟩⟩
    · have hd : decide (i < (l.length : Int)) = false := decide_eq_false hlt
      go_wp2
      go_ret
      exact ⟨by rw [all_end l z89 (fun x => ps.all fun p => p x) i (by omega) HA.out]; rfl, HB.out⟩

set_option maxHeartbeats 1000000 in
theorem all33_any (w : World) (A : Option Addr) (c : Nat) (l : List S33) (hr : Kd.C k33 w A l.length l) (B : Option Addr) (cc : Nat) (ps : List (S33 → Bool)) (hc : Preds Try.prog w eT (iT w) Prod.fst B ps) :
    Calls Try.prog 161 #[.slice A l.length c, .slice B ps.length cc] w fun e w' => e = .returned (.bool (l.all fun x => ps.all fun p => p x)) ∧ Below w.heap.size w w' := by
  have HR := Aside0.mk hr
  have HC := Aside0.mk hc
  have hl := hr.2.1
  have hl2 := hc.1
  clear hr hc
  go_enter Try.func161, Try.ntmps161
  go_wp2
  go_loopg [11] l.length (fun gg v11 wr => ∃ i : Int, v11 = .int .i64 i ∧ 0 ≤ i ∧ i ≤ (l.length : Int) ∧ Aside0 (l.length - i.toNat ≤ gg) ∧ Aside0 (Below w.heap.size w wr) ∧ Aside0 (∀ j, j < i.toNat → (fun x => ps.all fun p => p x) (l.getD j z33) = true))
  case atStart => exact ⟨0, rfl, by omega, by omega, ⟨by omega⟩, ⟨Below.refl _ _⟩, ⟨fun j hj => absurd hj (by simp)⟩⟩
  case round =>
    obtain ⟨i, rfl, h0, h1, HG, HB, HA⟩ := hrel
    obtain ⟨wo, rfl⟩ : ∃ wo : World, wo = wr := ⟨_, rfl⟩
    by_cases hlt : i < (l.length : Int)
    · obtain ⟨ad, A1, c1, e, hx0, hx1, hl1, hp1⟩ := at_T33 HR.out i h0 hlt
      cases e
      replace hx0 := (HB.out.cell (World.block_lt_of_cell? w _ hx0)).trans hx0
      replace hx1 := (HB.out.cell (World.block_lt_of_cell? w _ hx1)).trans hx1
      generalize hy : rd_T33 l i = y at hx0 hx1 hl1 hp1
      have HP1 := Aside0.mk hp1
      have HL1 := Aside0.mk hl1
      clear hp1 hl1
      have HY := Lib.hid hy; clear hy
      go_wp2
      obtain ⟨W1, hW⟩ : ∃ W1 : World, W1 = wo.alloc (Obj.cells #[Value.int IntKind.u8 y.f0, Value.slice A1 y.f1.length c1] 33) := ⟨_, rfl⟩
      rw [← hW]
      have b0 : W1.cell? ⟨wo.heap.size, 0, none⟩ = some (Value.int IntKind.u8 y.f0) := by rw [hW]; go_simp
      have b1 : W1.cell? ⟨wo.heap.size, 1, none⟩ = some (Value.slice A1 y.f1.length c1) := by rw [hW]; go_simp
      have HB1 : Aside0 (Below w.heap.size w W1) := ⟨by rw [hW]; exact HB.out.alloc HB.out.size _⟩
      have hz : wo.heap.size < W1.heap.size := by rw [hW]; simp
      clear hW hx0 hx1
      go_loopg [17] ps.length (fun gg v17 wr => ∃ j : Int, v17 = .int .i64 j ∧ 0 ≤ j ∧ j ≤ (ps.length : Int) ∧ Aside0 (ps.length - j.toNat ≤ gg) ∧ Aside0 (Below W1.heap.size W1 wr) ∧ Aside0 (∀ k, k < j.toNat → (fun p : S33 → Bool => p y) (ps.getD k (fun _ => false)) = true))
      case atStart => exact ⟨0, rfl, by omega, by omega, ⟨by omega⟩, ⟨Below.refl _ _⟩, ⟨fun j hj => absurd hj (by simp)⟩⟩
      case round =>
        obtain ⟨j, rfl, j0, j1, HG2, HB2, HA2⟩ := hrel
        replace b0 := (HB2.out.cell (p := ⟨wo.heap.size, 0, none⟩) hz).trans b0
        replace b1 := (HB2.out.cell (p := ⟨wo.heap.size, 1, none⟩) hz).trans b1
        have HB3 : Below w.heap.size w wr := below_then HB1.out HB1.out.size HB2.out
        by_cases hlt2 : j < (ps.length : Int)
        · obtain ⟨ad2, g, lb, e, hv, he, ha⟩ := HC.out.at_ (fun _ => false) j j0 hlt2
          cases e
          replace hv := (HB3.cell (World.block_lt_of_cell? w _ hv)).trans hv
          have hcall := ha wr (y, .slice A1 y.f1.length c1) HB3 ⟨A1, c1, rfl, HL1.out, HP1.out⟩
          simp only [eT] at hcall
          clear ha
          cases hq : (ps.getD j.toNat (fun _ => false)) y with
          | true =>
            rw [hq] at hcall
            have HQ := Aside0.mk hq
            have HB3' := Aside0.mk HB3
            clear hq HB3
            go_wp2_with fail
            refine hcall.mono ?_
            rintro e w' ⟨rfl, hb'⟩
            go_wp2
            go_roundg (ps.length - (j + 1).toNat)
            case measure => have := HG2.out; omega
            case rel => exact ⟨j + 1, rfl, by omega, by omega, ⟨by omega⟩, ⟨below_then HB2.out HB2.out.size hb'⟩, ⟨all_step ps (fun _ => false) (fun p => p y) j j0 hlt2 HQ.out HA2.out⟩⟩
          | false =>
            rw [hq] at hcall
            have HQ := Aside0.mk hq
            have HB3' := Aside0.mk HB3
            clear hq HB3
            go_wp2_with fail
            refine hcall.mono ?_
            rintro e w' ⟨rfl, hb'⟩
            go_wp2
            go_ret
            refine ⟨?_, below_then HB3'.out HB3'.out.size hb'⟩
            rw [all_out l z33 (fun x => ps.all fun p => p x) i h0 hlt ?_]
            · rfl
            show ps.all (fun p => p (rd_T33 l i)) = false
            rw [HY.out]
            exact all_out ps (fun _ => false) (fun p => p y) j j0 hlt2 HQ.out
        · have HB3' := Aside0.mk HB3
          have hd2 : decide (j < (ps.length : Int)) = false := decide_eq_false hlt2
          clear HB3
          go_wp2
          go_roundg (l.length - (i + 1).toNat)
          case measure => have := HG.out; omega
          case rel => exact ⟨i + 1, rfl, by omega, by omega, ⟨by omega⟩, HB3', ⟨all_step l z33 (fun x => ps.all fun p => p x) i h0 hlt (by
            show ps.all (fun p => p (rd_T33 l i)) = true
            rw [HY.out]
            exact all_end ps (fun _ => false) (fun p => p y) j (by omega) HA2.out) HA.out⟩⟩
    · have hd : decide (i < (l.length : Int)) = false := decide_eq_false hlt
      go_wp2
      go_ret
      exact ⟨by rw [all_end l z33 (fun x => ps.all fun p => p x) i (by omega) HA.out]; rfl, HB.out⟩

set_option maxHeartbeats 1000000 in
theorem all39_any (w : World) (A : Option Addr) (c : Nat) (l : List S39) (hr : Kd.C k39 w A l.length l) (B : Option Addr) (cc : Nat) (ps : List (S39 → Bool)) (hc : Preds Try.prog w eC iC id B ps) (hs : ∀ i, iC (rd_T39 l i)) :
    Calls Try.prog 164 #[.slice A l.length c, .slice B ps.length cc] w fun e w' => e = .returned (.bool (l.all fun x => ps.all fun p => p x)) ∧ Below w.heap.size w w' := by
  have HR := Aside0.mk hr
  have HC := Aside0.mk hc
  have hl := hr.2.1
  have hl2 := hc.1
  clear hr hc
  go_enter Try.func164, Try.ntmps164
  go_wp2
  go_loopg [11] l.length (fun gg v11 wr => ∃ i : Int, v11 = .int .i64 i ∧ 0 ≤ i ∧ i ≤ (l.length : Int) ∧ Aside0 (l.length - i.toNat ≤ gg) ∧ Aside0 (Below w.heap.size w wr) ∧ Aside0 (∀ j, j < i.toNat → (fun x => ps.all fun p => p x) (l.getD j z39) = true))
  case atStart => exact ⟨0, rfl, by omega, by omega, ⟨by omega⟩, ⟨Below.refl _ _⟩, ⟨fun j hj => absurd hj (by simp)⟩⟩
  case round =>
    obtain ⟨i, rfl, h0, h1, HG, HB, HA⟩ := hrel
    obtain ⟨wo, rfl⟩ : ∃ wo : World, wo = wr := ⟨_, rfl⟩
    by_cases hlt : i < (l.length : Int)
    · obtain ⟨ad, e, hx0, hx1⟩ := at_T39 HR.out i h0 hlt
      cases e
      replace hx0 := (HB.out.cell (World.block_lt_of_cell? w _ hx0)).trans hx0
      replace hx1 := (HB.out.cell (World.block_lt_of_cell? w _ hx1)).trans hx1
      have hs1 := hs i
      generalize hy : rd_T39 l i = y at hx0 hx1 hs1
      have HS1 := Aside0.mk hs1
      clear hs1
      have HY := Lib.hid hy; clear hy
      go_wp2
      obtain ⟨W1, hW⟩ : ∃ W1 : World, W1 = wo.alloc (Obj.cells #[Value.string y.f0, Value.int IntKind.u8 y.f1] 39) := ⟨_, rfl⟩
      rw [← hW]
      have b0 : W1.cell? ⟨wo.heap.size, 0, none⟩ = some (Value.string y.f0) := by rw [hW]; go_simp
      have b1 : W1.cell? ⟨wo.heap.size, 1, none⟩ = some (Value.int IntKind.u8 y.f1) := by rw [hW]; go_simp
      have HB1 : Aside0 (Below w.heap.size w W1) := ⟨by rw [hW]; exact HB.out.alloc HB.out.size _⟩
      have hz : wo.heap.size < W1.heap.size := by rw [hW]; simp
      clear hW hx0 hx1
      go_loopg [17] ps.length (fun gg v17 wr => ∃ j : Int, v17 = .int .i64 j ∧ 0 ≤ j ∧ j ≤ (ps.length : Int) ∧ Aside0 (ps.length - j.toNat ≤ gg) ∧ Aside0 (Below W1.heap.size W1 wr) ∧ Aside0 (∀ k, k < j.toNat → (fun p : S39 → Bool => p y) (ps.getD k (fun _ => false)) = true))
      case atStart => exact ⟨0, rfl, by omega, by omega, ⟨by omega⟩, ⟨Below.refl _ _⟩, ⟨fun j hj => absurd hj (by simp)⟩⟩
      case round =>
        obtain ⟨j, rfl, j0, j1, HG2, HB2, HA2⟩ := hrel
        replace b0 := (HB2.out.cell (p := ⟨wo.heap.size, 0, none⟩) hz).trans b0
        replace b1 := (HB2.out.cell (p := ⟨wo.heap.size, 1, none⟩) hz).trans b1
        have HB3 : Below w.heap.size w wr := below_then HB1.out HB1.out.size HB2.out
        by_cases hlt2 : j < (ps.length : Int)
        · obtain ⟨ad2, g, lb, e, hv, he, ha⟩ := HC.out.at_ (fun _ => false) j j0 hlt2
          cases e
          replace hv := (HB3.cell (World.block_lt_of_cell? w _ hv)).trans hv
          have hcall := ha wr y HB3 HS1.out
          simp only [id, eC] at hcall
          clear ha
          cases hq : (ps.getD j.toNat (fun _ => false)) y with
          | true =>
            rw [hq] at hcall
            have HQ := Aside0.mk hq
            have HB3' := Aside0.mk HB3
            clear hq HB3
            go_wp2_with fail
            refine hcall.mono ?_
            rintro e w' ⟨rfl, hb'⟩
            go_wp2
            go_roundg (ps.length - (j + 1).toNat)
            case measure => have := HG2.out; omega
            case rel => exact ⟨j + 1, rfl, by omega, by omega, ⟨by omega⟩, ⟨below_then HB2.out HB2.out.size hb'⟩, ⟨all_step ps (fun _ => false) (fun p => p y) j j0 hlt2 HQ.out HA2.out⟩⟩
          | false =>
            rw [hq] at hcall
            have HQ := Aside0.mk hq
            have HB3' := Aside0.mk HB3
            clear hq HB3
            go_wp2_with fail
            refine hcall.mono ?_
            rintro e w' ⟨rfl, hb'⟩
            go_wp2
            go_ret
            refine ⟨?_, below_then HB3'.out HB3'.out.size hb'⟩
            rw [all_out l z39 (fun x => ps.all fun p => p x) i h0 hlt ?_]
            · rfl
            show ps.all (fun p => p (rd_T39 l i)) = false
            rw [HY.out]
            exact all_out ps (fun _ => false) (fun p => p y) j j0 hlt2 HQ.out
        · have HB3' := Aside0.mk HB3
          have hd2 : decide (j < (ps.length : Int)) = false := decide_eq_false hlt2
          clear HB3
          go_wp2
          go_roundg (l.length - (i + 1).toNat)
          case measure => have := HG.out; omega
          case rel => exact ⟨i + 1, rfl, by omega, by omega, ⟨by omega⟩, HB3', ⟨all_step l z39 (fun x => ps.all fun p => p x) i h0 hlt (by
            show ps.all (fun p => p (rd_T39 l i)) = true
            rw [HY.out]
            exact all_end ps (fun _ => false) (fun p => p y) j (by omega) HA2.out) HA.out⟩⟩
    · have hd : decide (i < (l.length : Int)) = false := decide_eq_false hlt
      go_wp2
      go_ret
      exact ⟨by rw [all_end l z39 (fun x => ps.all fun p => p x) i (by omega) HA.out]; rfl, HB.out⟩

set_option maxHeartbeats 1000000 in
theorem all5_any (w : World) (A : Option Addr) (c : Nat) (l : List Int) (hr : Kd.C (Kd.int .u8) w A l.length l) (B : Option Addr) (cc : Nat) (ps : List (Int → Bool)) (hc : Preds Try.prog w (Value.int .u8) (fun _ => True) id B ps) :
    Calls Try.prog 111 #[.slice A l.length c, .slice B ps.length cc] w fun e w' => e = .returned (.bool (l.all fun x => ps.all fun p => p x)) ∧ Below w.heap.size w w' := by
  have HR := Aside0.mk hr
  have HC := Aside0.mk hc
  have hl := hr.2.1
  have hl2 := hc.1
  clear hr hc
  go_enter Try.func111, Try.ntmps111
  go_wp2
  go_loopg [11] l.length (fun gg v11 wr => ∃ i : Int, v11 = .int .i64 i ∧ 0 ≤ i ∧ i ≤ (l.length : Int) ∧ Aside0 (l.length - i.toNat ≤ gg) ∧ Aside0 (Below w.heap.size w wr) ∧ Aside0 (∀ j, j < i.toNat → (fun x => ps.all fun p => p x) (l.getD j 0) = true))
  case atStart => exact ⟨0, rfl, by omega, by omega, ⟨by omega⟩, ⟨Below.refl _ _⟩, ⟨fun j hj => absurd hj (by simp)⟩⟩
  case round =>
    obtain ⟨i, rfl, h0, h1, HG, HB, HA⟩ := hrel
    obtain ⟨wo, rfl⟩ : ∃ wo : World, wo = wr := ⟨_, rfl⟩
    by_cases hlt : i < (l.length : Int)
    · obtain ⟨ad, e, hx0⟩ := Kd.at_int HR.out i h0 hlt
      cases e
      replace hx0 := (HB.out.cell (World.block_lt_of_cell? w _ hx0)).trans hx0
      generalize hy : rd l i = y at hx0
      have HY := Lib.hid hy; clear hy
      go_wp2
      obtain ⟨W1, hW⟩ : ∃ W1 : World, W1 = wo := ⟨_, rfl⟩
      subst hW
      have HB1 := HB
      go_loopg [17] ps.length (fun gg v17 wr => ∃ j : Int, v17 = .int .i64 j ∧ 0 ≤ j ∧ j ≤ (ps.length : Int) ∧ Aside0 (ps.length - j.toNat ≤ gg) ∧ Aside0 (Below W1.heap.size W1 wr) ∧ Aside0 (∀ k, k < j.toNat → (fun p : Int → Bool => p y) (ps.getD k (fun _ => false)) = true))
      case atStart => exact ⟨0, rfl, by omega, by omega, ⟨by omega⟩, ⟨Below.refl _ _⟩, ⟨fun j hj => absurd hj (by simp)⟩⟩
      case round =>
        obtain ⟨j, rfl, j0, j1, HG2, HB2, HA2⟩ := hrel
        have HB3 : Below w.heap.size w wr := below_then HB1.out HB1.out.size HB2.out
        by_cases hlt2 : j < (ps.length : Int)
        · obtain ⟨ad2, g, lb, e, hv, he, ha⟩ := HC.out.at_ (fun _ => false) j j0 hlt2
          cases e
          replace hv := (HB3.cell (World.block_lt_of_cell? w _ hv)).trans hv
          have hcall := ha wr y HB3 trivial
          simp only [id] at hcall
          clear ha
          cases hq : (ps.getD j.toNat (fun _ => false)) y with
          | true =>
            rw [hq] at hcall
            have HQ := Aside0.mk hq
            have HB3' := Aside0.mk HB3
            clear hq HB3
            go_wp2_with fail
            refine hcall.mono ?_
            rintro e w' ⟨rfl, hb'⟩
            go_wp2
            go_roundg (ps.length - (j + 1).toNat)
            case measure => have := HG2.out; omega
            case rel => exact ⟨j + 1, rfl, by omega, by omega, ⟨by omega⟩, ⟨below_then HB2.out HB2.out.size hb'⟩, ⟨all_step ps (fun _ => false) (fun p => p y) j j0 hlt2 HQ.out HA2.out⟩⟩
          | false =>
            rw [hq] at hcall
            have HQ := Aside0.mk hq
            have HB3' := Aside0.mk HB3
            clear hq HB3
            go_wp2_with fail
            refine hcall.mono ?_
            rintro e w' ⟨rfl, hb'⟩
            go_wp2
            go_ret
            refine ⟨?_, below_then HB3'.out HB3'.out.size hb'⟩
            rw [all_out l 0 (fun x => ps.all fun p => p x) i h0 hlt ?_]
            · rfl
            show ps.all (fun p => p (rd l i)) = false
            rw [HY.out]
            exact all_out ps (fun _ => false) (fun p => p y) j j0 hlt2 HQ.out
        · have HB3' := Aside0.mk HB3
          have hd2 : decide (j < (ps.length : Int)) = false := decide_eq_false hlt2
          clear HB3
          go_wp2
          go_roundg (l.length - (i + 1).toNat)
          case measure => have := HG.out; omega
          case rel => exact ⟨i + 1, rfl, by omega, by omega, ⟨by omega⟩, HB3', ⟨all_step l 0 (fun x => ps.all fun p => p x) i h0 hlt (by
            show ps.all (fun p => p (rd l i)) = true
            rw [HY.out]
            exact all_end ps (fun _ => false) (fun p => p y) j (by omega) HA2.out) HA.out⟩⟩
    · have hd : decide (i < (l.length : Int)) = false := decide_eq_false hlt
      go_wp2
      go_ret
      exact ⟨by rw [all_end l 0 (fun x => ps.all fun p => p x) i (by omega) HA.out]; rfl, HB.out⟩

end Go.Proofs.Ytplhilglokbplaa
