/- area.validTemplates, area.validChords, area.Valid. -/
import Derived.Test.YtplhilglokbplaaArF
namespace Go.Proofs.Ytplhilglokbplaa
open Go.Shelf Go.RowKit Go.Proofs.YtplhilglokbplaaW.PrintWords Go.Proofs.YtplhilglokbplaaW.PrintLast Go.Proofs.YtplhilglokbplaaW.PrintMore PAll
set_option linter.unusedVariables false
set_option linter.unusedSimpArgs false

theorem below2 {w : World} (o1 o2 : Obj) : Below w.heap.size w ((w.alloc o1).alloc o2) := ((Below.refl _ w).alloc (Nat.le_refl _) o1).alloc (by simp) o2
theorem below1 {w : World} (o1 : Obj) : Below w.heap.size w (w.alloc o1) := (Below.refl _ w).alloc (Nat.le_refl _) o1

theorem cmpF101 (w0 : World) : CmpF Try.prog w0 eT (iT w0) Prod.fst (fun a b : S33 => cmpI a.f0 b.f0) (.func (.func 101) #[] #[]) := by
  refine ⟨101, #[], rfl, enters_of Try.func101 (by kernel_rfl) rfl, fun w x y hb hx hy => ?_⟩
  rw [Array.append_empty]
  obtain ⟨x, xv⟩ := x
  obtain ⟨y, yv⟩ := y
  obtain ⟨A, c, hxv, _⟩ := hx
  dsimp only at hxv
  subst hxv
  obtain ⟨A', c', hyv, _⟩ := hy
  dsimp only at hyv
  subst hyv
  clear hb
  unfold eT
  dsimp only
  generalize x.f1.length = n
  generalize y.f1.length = n'
  generalize x.f0 = k
  generalize y.f0 = k'
  have HB := Aside0.mk (below2 (w := w) (Obj.cells #[Value.int .u8 k, Value.slice A n c] 33) (Obj.cells #[Value.int .u8 k', Value.slice A' n' c'] 33))
  go_enter Try.func101, Try.ntmps101
  go_wp2_with fail
  refine (compare82_any k k' _).mono ?_
  rintro e w' ⟨rfl, hb'⟩
  have HB' := Aside0.mk hb'
  clear hb'
  go_wp2
  go_ret
  exact ⟨rfl, below_then HB.out HB.out.size HB'.out⟩
theorem predF102 (w0 : World) : PredF Try.prog w0 eT (iT w0) Prod.fst (fun a : S33 => letB a.f0) (.func (.func 102) #[] #[]) := by
  refine ⟨102, #[], rfl, enters_of Try.func102 (by kernel_rfl) rfl, fun w x hb hx => ?_⟩
  rw [Array.append_empty]
  obtain ⟨x, xv⟩ := x
  obtain ⟨A, c, hxv, _⟩ := hx
  dsimp only at hxv
  subst hxv
  clear hb
  unfold eT
  dsimp only
  generalize x.f1.length = n
  generalize x.f0 = k
  have HB := Aside0.mk (below1 (w := w) (Obj.cells #[Value.int .u8 k, Value.slice A n c] 33))
  go_enter Try.func102, Try.ntmps102
  go_wp2_with fail
  refine (letter_any k _).mono ?_
  rintro e w' ⟨rfl, hb'⟩
  have HB' := Aside0.mk hb'
  clear hb'
  go_wp2
  go_ret
  exact ⟨rfl, below_then HB.out HB.out.size HB'.out⟩
theorem predF105 (w0 : World) : PredF Try.prog w0 eP (fun _ => True) id (fun a : S89 => coordB [a.f0, a.f1]) (.func (.func 105) #[] #[]) := by
  refine ⟨105, #[], rfl, enters_of Try.func105 (by kernel_rfl) rfl, fun w x hb hx => ?_⟩
  rw [Array.append_empty]
  obtain ⟨x, y⟩ := x
  clear hb hx
  unfold eP
  simp only [id]
  go_enter Try.func105, Try.ntmps105
  go_wp2_with fail
  have HB := Aside0.mk (below2 (w := w) (Obj.cells #[Value.int .i64 x, Value.int .i64 y] 89) (Obj.cells #[Value.int .i64 x, Value.int .i64 y] 3))
  generalize hW : (w.alloc (Obj.cells #[Value.int .i64 x, Value.int .i64 y] 89)).alloc (Obj.cells #[Value.int .i64 x, Value.int .i64 y] 3) = W at HB ⊢
  have hcall := coordinates_any W (some ⟨w.heap.size + 1, 0, none⟩) 2 [x, y] (C_block (fr := (0, 0)) (e := 3) [x, y] (by rw [← hW, show w.heap.size + 1 = (w.alloc (Obj.cells #[Value.int .i64 x, Value.int .i64 y] 89)).heap.size by simp]; exact heap_alloc_new _ _) (by simp)) (by simp)
  clear hW
  refine hcall.mono ?_
  rintro e w' ⟨rfl, hb'⟩
  have HB' := Aside0.mk hb'
  clear hb' hcall
  go_wp2
  go_ret
  exact ⟨rfl, below_then HB.out HB.out.size HB'.out⟩

def drawnB (a : S33) : Bool := decide (2 ≤ a.f1.length) && decide (a.f1.length ≤ 12) && a.f1.all fun p => coordB [p.f0, p.f1]
theorem predF103 (w0 : World) : PredF Try.prog w0 eT (iT w0) Prod.fst drawnB (.func (.func 103) #[] #[]) := by
  refine ⟨103, #[], rfl, enters_of Try.func103 (by kernel_rfl) rfl, fun w x hb hx => ?_⟩
  rw [Array.append_empty]
  obtain ⟨x, xv⟩ := x
  obtain ⟨A, c, hxv, hc, hr⟩ := hx
  dsimp only at hxv
  subst hxv
  replace hr := Kd.C_below hr hb
  dsimp only at hr hc
  clear hb
  unfold eT drawnB
  dsimp only
  obtain ⟨k, l⟩ := x
  dsimp only at hr hc ⊢
  have hl := hr.2.1
  have HR := Aside0.mk hr
  have HB := Aside0.mk (below1 (w := w) (Obj.cells #[Value.int .u8 k, Value.slice A l.length c] 33))
  clear hr
  by_cases h2 : 2 ≤ l.length
  · have hd2 : decide ((l.length : Int) < 2) = false := decide_eq_false (by omega)
    rw [decide_eq_true h2]
    by_cases h12 : l.length ≤ 12
    · have hd12 : decide (12 < (l.length : Int)) = false := decide_eq_false (by omega)
      rw [decide_eq_true h12]
      clear h2 h12
      obtain ⟨z, hz⟩ : ∃ z, z = l.all fun x => coordB [x.f0, x.f1] := ⟨_, rfl⟩
      have hcall : ∀ W b, Below w.heap.size w W → W.heap[b]? = some (.cells #[.func (.func 105) #[] #[]] 175) →
          Calls Try.prog 104 #[.slice A l.length c, .slice (some ⟨b, 0, none⟩) 1 1] W fun e w' => e = .returned (.bool z) ∧ Below W.heap.size W w' := fun W b hW hb => by
        have h := all89_any W A c l (Kd.C_below HR.out hW) (some ⟨b, 0, none⟩) 1 [fun a : S89 => coordB [a.f0, a.f1]] (preds_block _ _ hb (by simp) (fun j p hj => by
          rcases j with _ | j
          · simp at hj; subst hj; exact ⟨_, rfl, predF105 W⟩
          · simp at hj))
        simp only [List.all_cons, List.all_nil, Bool.and_true] at h
        rw [hz]
        exact h
      have HCALL := Aside0.mk hcall
      clear hcall
      rw [← hz]
      clear hz
      go_enter Try.func103, Try.ntmps103
      go_wp2_with fail
      refine (HCALL.out ((w.alloc (Obj.cells #[Value.int IntKind.u8 k, Value.slice A l.length c] 33)).alloc (Obj.cells #[Value.func (Fn.func 105) #[] #[]] 175)) (w.heap.size + 1) (below2 _ _) (by rw [show w.heap.size + 1 = (w.alloc (Obj.cells #[Value.int IntKind.u8 k, Value.slice A l.length c] 33)).heap.size by simp]; exact heap_alloc_new _ _)).mono ?_
      rintro e w' ⟨rfl, hb'⟩
      have HB' := Aside0.mk (below_then (below2 _ _) (below_size (below2 _ _)) hb')
      clear hb'
      go_wp2
      go_ret
      exact ⟨rfl, HB'.out⟩
    · have hd12 : decide (12 < (l.length : Int)) = true := decide_eq_true (by omega)
      rw [decide_eq_false h12]
      clear h2 h12
      go_enter Try.func103, Try.ntmps103
      go_wp2
      go_ret
      exact ⟨rfl, HB.out⟩
  · have hd2 : decide ((l.length : Int) < 2) = true := decide_eq_true (by omega)
    rw [decide_eq_false h2]
    clear h2
    go_enter Try.func103, Try.ntmps103
    go_wp2
    go_ret
    exact ⟨rfl, HB.out⟩

def templatePs : List (S33 → Bool) := [fun a => letB a.f0, drawnB]
def templatesB (l : List S33) : Bool := decide (l.length ≤ 26) && (l.all fun x => templatePs.all fun p => p x) && incB (fun a b : S33 => cmpI a.f0 b.f0) l
theorem validTemplates_any (w : World) (A : Option Addr) (c : Nat) (l : List S33) (hr : Kd.C k33 w A l.length l) :
    Calls Try.prog 42 #[.slice A l.length c] w fun e w' => e = .returned (.bool (templatesB l)) ∧ Below w.heap.size w w' := by
  have hfits : ∀ W b, Below w.heap.size w W → W.heap[b]? = some (.cells #[.func (.func 102) #[] #[], .func (.func 103) #[] #[]] 173) →
      Calls Try.prog 106 #[.slice A l.length c, .func (.func 101) #[] #[], .slice (some ⟨b, 0, none⟩) 2 2] W fun e w' => e = .returned (.bool (templatesB l)) ∧ Below W.heap.size W w' := fun W b hW hb =>
    fits33_any W A c l (Kd.C_below hr hW) 101 #[] _ (cmpF101 W) (some ⟨b, 0, none⟩) 2 templatePs (preds_block _ templatePs hb (by simp [templatePs]) (fun j p hj => by
      rcases j with _ | _ | j
      · simp [templatePs] at hj; subst hj; exact ⟨_, rfl, predF102 W⟩
      · simp [templatePs] at hj; subst hj; exact ⟨_, rfl, predF103 W⟩
      · simp [templatePs] at hj))
  have HF := Aside0.mk hfits
  clear hr hfits
  generalize templatesB l = z at HF ⊢
  go_enter Try.func42, Try.ntmps42
  go_wp2_with fail
  refine (HF.out _ _ (below1 _) (heap_alloc_new _ _)).mono ?_
  rintro e w' ⟨rfl, hb'⟩
  have HB' := Aside0.mk (below_then (below1 _) (below_size (below1 _)) hb')
  clear hb'
  go_wp2
  go_ret
  exact ⟨rfl, HB'.out⟩

theorem cmpF107 (w0 : World) : CmpF Try.prog w0 eC iC id (fun a b : S39 => cmpS a.f0 b.f0) (.func (.func 107) #[] #[]) := by
  refine ⟨107, #[], rfl, enters_of Try.func107 (by kernel_rfl) rfl, fun w x y hb hx hy => ?_⟩
  rw [Array.append_empty]
  obtain ⟨s, k⟩ := x
  obtain ⟨s', k'⟩ := y
  clear hb hx hy
  unfold eC
  simp only [id]
  have HB := Aside0.mk (below2 (w := w) (Obj.cells #[Value.string s, Value.int .u8 k] 39) (Obj.cells #[Value.string s', Value.int .u8 k'] 39))
  go_enter Try.func107, Try.ntmps107
  go_wp2_with fail
  refine (compare108_any s s' _).mono ?_
  rintro e w' ⟨rfl, hb'⟩
  have HB' := Aside0.mk hb'
  clear hb'
  go_wp2
  go_ret
  exact ⟨rfl, below_then HB.out HB.out.size HB'.out⟩
theorem predF109 (w0 : World) : PredF Try.prog w0 eC iC id (fun a : S39 => letB a.f1) (.func (.func 109) #[] #[]) := by
  refine ⟨109, #[], rfl, enters_of Try.func109 (by kernel_rfl) rfl, fun w x hb hx => ?_⟩
  rw [Array.append_empty]
  obtain ⟨s, k⟩ := x
  clear hb hx
  unfold eC
  simp only [id]
  have HB := Aside0.mk (below1 (w := w) (Obj.cells #[Value.string s, Value.int .u8 k] 39))
  go_enter Try.func109, Try.ntmps109
  go_wp2_with fail
  refine (letter_any k _).mono ?_
  rintro e w' ⟨rfl, hb'⟩
  have HB' := Aside0.mk hb'
  clear hb'
  go_wp2
  go_ret
  exact ⟨rfl, below_then HB.out HB.out.size HB'.out⟩
theorem predF94 (w0 : World) : PredF Try.prog w0 (Value.int .u8) (fun _ => True) id letB (.func (.func 94) #[] #[]) := by
  refine ⟨94, #[], rfl, enters_of Try.func94 (by kernel_rfl) rfl, fun w x hb hx => ?_⟩
  rw [Array.append_empty]
  exact letter_any x w
theorem cmpF82 (w0 : World) : CmpF Try.prog w0 (Value.int .u8) (fun _ => True) id cmpI (.func (.func 82) #[] #[]) := by
  refine ⟨82, #[], rfl, enters_of Try.func82 (by kernel_rfl) rfl, fun w x y hb hx hy => ?_⟩
  rw [Array.append_empty]
  exact compare82_any x y w

def pressedB (a : S39) : Bool := decide (2 ≤ a.f0.size) && decide (a.f0.size ≤ 4) && ((bytesOf a.f0).all letB) && incB cmpI (bytesOf a.f0)
theorem C_ofReads {w : World} {k : IntKind} {A : Option Addr} {n : Nat} {xs : List Int} (h : ReadsInt w k A n xs) : Kd.C (Kd.int k) w A n xs := by
  refine ⟨h.1, h.2.1, fun hn => ?_⟩
  obtain ⟨ad, e, hc⟩ := h.2.2 hn
  refine ⟨ad, e, fun j p hj => ⟨[.int k p], rfl, rfl, fun i u hu => ?_⟩⟩
  have hi : i = 0 := by
    rcases i with _ | i
    · rfl
    · simp at hu
  subst hi
  simp at hu
  subst hu
  have hjl := (List.getElem?_eq_some_iff.1 hj).1
  have := hc j (by have := h.1; omega)
  rw [List.getD_eq_getElem?_getD, hj] at this
  have hsz : (Kd.int k).sz = 1 := rfl
  simpa [hsz] using this

set_option maxHeartbeats 1000000 in
theorem predF110 (w0 : World) : PredF Try.prog w0 eC iC id pressedB (.func (.func 110) #[] #[]) := by
  refine ⟨110, #[], rfl, enters_of Try.func110 (by kernel_rfl) rfl, fun w x hb hx => ?_⟩
  rw [Array.append_empty]
  obtain ⟨s, k⟩ := x
  clear hb
  unfold eC pressedB
  unfold iC at hx
  simp only [id]
  dsimp only at hx
  have kb := fun W => print_bytes (P := Try.prog) 9 45 5 Try.underlying9 Try.underlying45 Try.underlying5 s W
  have hl := bytesOf_length s
  by_cases h2 : 2 ≤ s.size
  · have hd2 : decide (2 ≤ (s.size : Int)) = true := decide_eq_true (by omega)
    rw [decide_eq_true h2]
    by_cases h12 : s.size ≤ 4
    · have hd12 : decide ((s.size : Int) ≤ 4) = true := decide_eq_true (by omega)
      rw [decide_eq_true h12]
      clear h2 h12
      have hc1 : ∀ W cap b, Kd.C (Kd.int .u8) W (some ⟨w.heap.size + 1, 0, none⟩) s.size (bytesOf s) → W.heap[b]? = some (.cells #[.func (.func 94) #[] #[]] 163) →
          Calls Try.prog 111 #[.slice (some ⟨w.heap.size + 1, 0, none⟩) s.size cap, .slice (some ⟨b, 0, none⟩) 1 1] W fun e w' => e = .returned (.bool ((bytesOf s).all letB)) ∧ Below W.heap.size W w' := fun W cap b hW hb => by
        have h := all5_any W (some ⟨w.heap.size + 1, 0, none⟩) cap (bytesOf s) (by rw [hl]; exact hW) (some ⟨b, 0, none⟩) 1 [letB] (preds_block _ _ hb (by simp) (fun j p hj => by
          rcases j with _ | j
          · simp at hj; subst hj; exact ⟨_, rfl, predF94 W⟩
          · simp at hj))
        simp only [List.all_cons, List.all_nil, Bool.and_true] at h
        rw [hl] at h
        exact h
      have hc2 : ∀ W W1 cap, Below W.heap.size W W1 → Kd.C (Kd.int .u8) W (some ⟨w.heap.size + 1, 0, none⟩) s.size (bytesOf s) →
          Calls Try.prog 112 #[.slice (some ⟨w.heap.size + 1, 0, none⟩) s.size cap, .func (.func 82) #[] #[]] W1 fun e w' => e = .returned (.bool (incB cmpI (bytesOf s))) ∧ Below W1.heap.size W1 w' := fun W W1 cap hb hW => by
        have h := inc5_any W W1 hb (some ⟨w.heap.size + 1, 0, none⟩) cap (bytesOf s) (by rw [hl]; exact hW) 82 #[] cmpI (cmpF82 W)
        rw [hl] at h
        exact h
      have HC1 := Aside0.mk hc1
      have HC2 := Aside0.mk hc2
      have HX := Aside0.mk hx
      clear hc1 hc2 hl
      have hreads : Kd.C (Kd.int .u8) (Lib.bytesWorld (w.alloc (Obj.cells #[Value.string s, Value.int IntKind.u8 k] 39)) 5 s) (some ⟨w.heap.size + 1, 0, none⟩) s.size (bytesOf s) := by
        have := C_ofReads (bytes_reads (w.alloc (Obj.cells #[Value.string s, Value.int IntKind.u8 k] 39)) 5 s hx)
        rwa [show (w.alloc (Obj.cells #[Value.string s, Value.int IntKind.u8 k] 39)).heap.size = w.heap.size + 1 by simp] at this
      have hB1 : Below w.heap.size w (Lib.bytesWorld (w.alloc (Obj.cells #[Value.string s, Value.int IntKind.u8 k] 39)) 5 s) := bytes_below (below1 _) (below_size (below1 _)) 5 s
      have HRD := Aside0.mk hreads
      have HB1 := Aside0.mk hB1
      clear hreads hB1 hx
      cases hA : (bytesOf s).all letB with
      | false =>
        rw [hA] at HC1
        clear hA
        go_enter Try.func110, Try.ntmps110
        go_wp2_with fail
        refine (HC1.out _ _ _ (Kd.C_below HRD.out (below1 _)) (heap_alloc_new _ _)).mono ?_
        rintro e w' ⟨rfl, hb'⟩
        have HB' := Aside0.mk (below_then (HB1.out.alloc HB1.out.size _) (below_size (HB1.out.alloc HB1.out.size _)) hb')
        clear hb'
        go_wp2
        go_ret
        exact ⟨rfl, HB'.out⟩
      | true =>
        rw [hA] at HC1
        clear hA
        cases hI : incB cmpI (bytesOf s)
        all_goals
          rw [hI] at HC2
          clear hI
          go_enter Try.func110, Try.ntmps110
          go_wp2_with fail
          refine (HC1.out _ _ _ (Kd.C_below HRD.out (below1 _)) (heap_alloc_new _ _)).mono ?_
          rintro e w' ⟨rfl, hb'⟩
          have HB' := Aside0.mk (below_then (HB1.out.alloc HB1.out.size _) (below_size (HB1.out.alloc HB1.out.size _)) hb')
          have HCC := Aside0.mk (HC2.out _ w' (grownCap (w.alloc (Obj.cells #[Value.string s, Value.int IntKind.u8 k] 39)) s.size 0 5) (below_then (below1 _) (below_size (below1 _)) hb') HRD.out)
          clear hb'
          go_wp2_with fail
          refine HCC.out.mono ?_
          rintro e w2 ⟨rfl, hb2⟩
          have HB2 := Aside0.mk (below_then HB'.out HB'.out.size hb2)
          clear hb2
          go_wp2
          go_ret
          exact ⟨rfl, HB2.out⟩
    · have hd12 : decide ((s.size : Int) ≤ 4) = false := decide_eq_false (by omega)
      rw [decide_eq_false h12]
      clear h2 h12
      go_enter Try.func110, Try.ntmps110
      go_wp2
      go_ret
      refine ⟨rfl, ?_⟩
      exact bytes_below (below1 _) (below_size (below1 _)) 5 s
  · have hd2 : decide (2 ≤ (s.size : Int)) = false := decide_eq_false (by omega)
    rw [decide_eq_false h2]
    clear h2
    go_enter Try.func110, Try.ntmps110
    go_wp2
    go_ret
    refine ⟨rfl, ?_⟩
    exact bytes_below (below1 _) (below_size (below1 _)) 5 s

def chordPs : List (S39 → Bool) := [fun a => letB a.f1, pressedB]
def chordsB (l : List S39) : Bool := decide (l.length ≤ 26) && (l.all fun x => chordPs.all fun p => p x) && incB (fun a b : S39 => cmpS a.f0 b.f0) l
theorem validChords_any (w : World) (A : Option Addr) (c : Nat) (l : List S39) (hr : Kd.C k39 w A l.length l) (hs : ∀ i, iC (rd_T39 l i)) :
    Calls Try.prog 43 #[.slice A l.length c] w fun e w' => e = .returned (.bool (chordsB l)) ∧ Below w.heap.size w w' := by
  have hfits : ∀ W b, Below w.heap.size w W → W.heap[b]? = some (.cells #[.func (.func 109) #[] #[], .func (.func 110) #[] #[]] 179) →
      Calls Try.prog 113 #[.slice A l.length c, .func (.func 107) #[] #[], .slice (some ⟨b, 0, none⟩) 2 2] W fun e w' => e = .returned (.bool (chordsB l)) ∧ Below W.heap.size W w' := fun W b hW hb =>
    fits39_any W A c l (Kd.C_below hr hW) 107 #[] _ (cmpF107 W) (some ⟨b, 0, none⟩) 2 chordPs (preds_block _ chordPs hb (by simp [chordPs]) (fun j p hj => by
      rcases j with _ | _ | j
      · simp [chordPs] at hj; subst hj; exact ⟨_, rfl, predF109 W⟩
      · simp [chordPs] at hj; subst hj; exact ⟨_, rfl, predF110 W⟩
      · simp [chordPs] at hj)) hs
  have HF := Aside0.mk hfits
  clear hr hfits hs
  generalize chordsB l = z at HF ⊢
  go_enter Try.func43, Try.ntmps43
  go_wp2_with fail
  refine (HF.out _ _ (below1 _) (heap_alloc_new _ _)).mono ?_
  rintro e w' ⟨rfl, hb'⟩
  have HB' := Aside0.mk (below_then (below1 _) (below_size (below1 _)) hb')
  clear hb'
  go_wp2
  go_ret
  exact ⟨rfl, HB'.out⟩

theorem valid_any (w : World) (A B C : Option Addr) (a b c : Nat) (la : List S36) (lt : List S33) (lc : List S39) (ha : Kd.C k36 w A la.length la) (hcap : la.length ≤ a) (ht : Kd.C k33 w B lt.length lt) (hc : Kd.C k39 w C lc.length lc) (hs : ∀ i, iC (rd_T39 lc i)) :
    Calls Try.prog 12 #[.agg #[.slice A la.length a, .slice B lt.length b, .slice C lc.length c]] w fun e w' => e = .returned (.bool (areasB la && templatesB lt && chordsB lc)) ∧ Below w.heap.size w w' := by
  have h1 : ∀ W, Below w.heap.size w W → Calls Try.prog 41 #[.slice A la.length a] W fun e w' => e = .returned (.bool (areasB la)) ∧ Below W.heap.size W w' := fun W hW => validAreas_any W A a la (Kd.C_below ha hW) hcap
  have h2 : ∀ W, Below w.heap.size w W → Calls Try.prog 42 #[.slice B lt.length b] W fun e w' => e = .returned (.bool (templatesB lt)) ∧ Below W.heap.size W w' := fun W hW => validTemplates_any W B b lt (Kd.C_below ht hW)
  have h3 : ∀ W, Below w.heap.size w W → Calls Try.prog 43 #[.slice C lc.length c] W fun e w' => e = .returned (.bool (chordsB lc)) ∧ Below W.heap.size W w' := fun W hW => validChords_any W C c lc (Kd.C_below hc hW) hs
  have H1 := Aside0.mk h1
  have H2 := Aside0.mk h2
  have H3 := Aside0.mk h3
  clear h1 h2 h3 ha ht hc hs hcap
  generalize la.length = n1 at *
  generalize lt.length = n2 at *
  generalize lc.length = n3 at *
  have hb1 := below1 (w := w) (Obj.cells #[Value.slice A n1 a, Value.slice B n2 b, Value.slice C n3 c] 26)
  have hbk : (w.alloc (Obj.cells #[Value.slice A n1 a, Value.slice B n2 b, Value.slice C n3 c] 26)).heap[w.heap.size]? = some (Obj.cells #[Value.slice A n1 a, Value.slice B n2 b, Value.slice C n3 c] 26) := heap_alloc_new _ _
  have hz : w.heap.size < (w.alloc (Obj.cells #[Value.slice A n1 a, Value.slice B n2 b, Value.slice C n3 c] 26)).heap.size := by simp
  have HB1 := Aside0.mk hb1
  have HBK := Aside0.mk hbk
  have HZ := Aside0.mk hz
  clear hb1 hbk hz
  cases hA : areasB la with
  | false =>
    rw [hA] at H1
    clear hA
    go_enter Try.func12, Try.ntmps12
    go_wp2_with fail
    refine (H1.out _ HB1.out).mono ?_
    rintro e w1 ⟨rfl, hb1⟩
    have HX1 := Aside0.mk (below_then HB1.out HB1.out.size hb1)
    clear hb1
    go_wp2
    go_ret
    exact ⟨rfl, HX1.out⟩
  | true =>
    rw [hA] at H1
    clear hA
    cases hT : templatesB lt with
    | false =>
      rw [hT] at H2
      clear hT
      go_enter Try.func12, Try.ntmps12
      go_wp2_with fail
      refine (H1.out _ HB1.out).mono ?_
      rintro e w1 ⟨rfl, hb1⟩
      have HX1 := Aside0.mk (below_then HB1.out HB1.out.size hb1)
      have k1 : w1.cell? ⟨w.heap.size, 1, none⟩ = some (Value.slice B n2 b) := by simp [World.cell?, (hb1.block _ HZ.out).trans HBK.out]
      clear hb1
      go_wp2_with fail
      refine (H2.out _ HX1.out).mono ?_
      rintro e w2 ⟨rfl, hb2⟩
      have HX2 := Aside0.mk (below_then HX1.out HX1.out.size hb2)
      clear hb2
      go_wp2
      go_ret
      exact ⟨rfl, HX2.out⟩
    | true =>
      rw [hT] at H2
      clear hT
      cases hC : chordsB lc
      all_goals
        rw [hC] at H3
        clear hC
        go_enter Try.func12, Try.ntmps12
        go_wp2_with fail
        refine (H1.out _ HB1.out).mono ?_
        rintro e w1 ⟨rfl, hb1⟩
        have HX1 := Aside0.mk (below_then HB1.out HB1.out.size hb1)
        have HK1 := Aside0.mk ((hb1.block _ HZ.out).trans HBK.out)
        have HZ1 := Aside0.mk (Nat.lt_of_lt_of_le HZ.out hb1.size)
        have k1 : w1.cell? ⟨w.heap.size, 1, none⟩ = some (Value.slice B n2 b) := by simp [World.cell?, HK1.out]
        clear hb1
        go_wp2_with fail
        refine (H2.out _ HX1.out).mono ?_
        rintro e w2 ⟨rfl, hb2⟩
        have HX2 := Aside0.mk (below_then HX1.out HX1.out.size hb2)
        have k2 : w2.cell? ⟨w.heap.size, 2, none⟩ = some (Value.slice C n3 c) := by simp [World.cell?, (hb2.block _ HZ1.out).trans HK1.out]
        clear hb2 k1
        go_wp2_with fail
        refine (H3.out _ HX2.out).mono ?_
        rintro e w3 ⟨rfl, hb3⟩
        have HX3 := Aside0.mk (below_then HX2.out HX2.out.size hb3)
        clear hb3
        go_wp2
        go_ret
        exact ⟨rfl, HX3.out⟩
end Go.Proofs.Ytplhilglokbplaa
