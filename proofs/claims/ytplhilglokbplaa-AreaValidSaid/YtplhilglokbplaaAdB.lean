/- Adapt's parts at no taps. Adapt without taps: its walk. -/
import Derived.Test.YtplhilglokbplaaToC
namespace Go.Proofs.Ytplhilglokbplaa
open Go.Shelf Go.RowKit Go.Lib Go.Proofs.YtplhilglokbplaaW.PrintWords Go.Proofs.YtplhilglokbplaaW.PrintLast Go.Proofs.YtplhilglokbplaaW.PrintMore PAll
set_option linter.unusedVariables false
set_option linter.unusedSimpArgs false
theorem predF79 (w0 : World) (b : Nat) (key : Int) (hb : w0.heap[b]? = some (.cells #[.int .u8 key] 5)) : PredF Try.prog w0 eA (fun _ => True) id (fun a : S36 => a.f0 == key) (.func (.func 79) #[] #[.pointer (some ⟨b, 0, none⟩)]) := by
  refine ⟨79, #[.pointer (some ⟨b, 0, none⟩)], rfl, enters_of Try.func79 (by kernel_rfl) rfl, fun w x hbw _ => ?_⟩
  have h1 := blk_below hb hbw
  obtain ⟨k, x0, y0, x1, y1⟩ := x
  unfold eA
  simp only [id]
  have c0 := blk_cell (blk_alloc h1 (.cells #[.int .u8 k, .int .i64 x0, .int .i64 y0, .int .i64 x1, .int .i64 y1] 36)) 0
  simp at c0
  have HB := Aside0.mk (below1 (w := w) (.cells #[.int .u8 k, .int .i64 x0, .int .i64 y0, .int .i64 x1, .int .i64 y1] 36))
  clear hb hbw h1
  go_enter Try.func79, Try.ntmps79
  go_wp2
  go_ret
  exact ⟨rfl, HB.out⟩
set_option maxRecDepth 100000 in
theorem search80_nil (key : Int) (f : Value) (hf : ∃ g lb, f = .func (.func g) #[] lb) (w : World) : Calls Try.prog 80 #[.slice none 0 0, .int .u8 key, f] w fun e w' => e = .returned (.tuple #[.int .i64 0, .bool false]) ∧ Below w.heap.size w w' := by
  obtain ⟨g, lb, rfl⟩ := hf
  go_enter Try.func80, Try.ntmps80
  go_wp2
  go_loopg [9, 10] 0 (fun gg v9 v10 wr => v9 = .int .i64 0 ∧ v10 = .int .i64 0 ∧ wr = w)
  case atStart => exact ⟨rfl, rfl, rfl⟩
  case round =>
    obtain ⟨rfl, rfl, rfl⟩ := hrel
    go_wp2
    go_ret2
    exact ⟨rfl, Below.refl _ _⟩
set_option maxRecDepth 100000 in
theorem clone_nil (w : World) : Calls Try.prog 83 #[.slice none 0 0] w fun e w' => e = .returned (.slice none 0 0) ∧ Below w.heap.size w w' := by
  have heq : ∀ W, (binOp .eql 91 (.slice none 0 0) (.slice none 0 0)).run Try.prog W = .ok (.bool true) W := fun _ => rfl
  go_enter Try.func83, Try.ntmps83
  go_wp2
  go_ret
  exact ⟨rfl, Below.refl _ _⟩
theorem info103 : (Try.prog.info? 103).map (fun i => (i.zero, i.size, i.bytes)) = some (some (.agg #[.int .u8 0, .int .i64 0, .int .i64 0, .int .i64 0]), 4, 32) := by kernel_rfl
theorem k103_KM {w w1 : World} {base : Nat} {ok : Nat → Prop} (x : S103) (cs : List Value) (h : k103.K w x cs) : k103.M w1 base ok x cs := by
  rw [k103_open h]
  exact k103_mkM _ _ _ x
set_option maxRecDepth 100000 in
theorem insert_nil (w : World) (B : Option Addr) (cb : Nat) (t : S103) (hr : Kd.C k103 w B 1 [t]) : Calls Try.prog 84 #[.slice none 0 0, .int .i64 0, .slice B 1 cb] w fun e w' => Below w.heap.size w w' ∧ ∃ v, e = .returned v ∧ Kd.R k103 103 w' w.heap.size (fun _ => True) v [t] := by
  have HR := Aside0.mk hr
  clear hr
  go_enter Try.func84, Try.ntmps84
  go_wp2_with (at_builtin; go_loud (refine Kd.R_append_rows k103 (Rr := k103.K w) (w0 := w) w.heap.size rfl (.tmp 23) (.tmp 24) 91 103 (.agg #[.int .u8 0, .int .i64 0, .int .i64 0, .int .i64 0]) 32 rfl Try.underlying91 info103 rfl (by decide) (by omega) (.slice none 0 0) [] [t] B 1 cb (fun _ => True) (fun _ => False) rfl rfl ?aO ?aR ?aK (fun _ hk => hk.elim) ?aF ?aB ?aS ?aL ?_); (case aO => exact Kd.R_nil _ _ _ _ _); (case aR => exact HR.out); (case aK => exact k103_KM); (case aF => exact fun _ _ => trivial); (case aB => exact Below.refl _ _); (case aS => exact Nat.le_refl _); (case aL => decide); intro v1 w1 ho2 hb2 hg2 hat2; (have HO5 := Aside0.mk ho2); (have HB5 := Aside0.mk hb2); obtain ⟨A2, c2, rfl⟩ := Kd.R_slice ho2; clear ho2 hb2 hg2 hat2)
  go_ret
  exact ⟨HB5.out, _, rfl, HO5.out⟩

/-- A row just made, of no elements. -/
theorem R_empty (w : World) : Kd.R k103 103 (w.alloc (.cells #[] 103)) w.heap.size (fun _ => True) (.slice (some ⟨w.heap.size, 0, none⟩) 0 0) [] := by
  refine ⟨fun _ _ => trivial, [], ⟨by simp, Or.inr ⟨w.heap.size, 0, #[], rfl, Nat.le_refl _, heap_alloc_new _ _, Nat.le_refl _, by decide, by simp, by simp⟩⟩, Reps.none _ _⟩
set_option maxRecDepth 100000 in
theorem clone_any (w : World) (B : Option Addr) (cb : Nat) (l : List S103) (hr : Kd.C k103 w B l.length l) (hcap : l.length ≤ cb) (hB : B ≠ none) (hl : l.length ≤ 4398046511104) : Calls Try.prog 83 #[.slice B l.length cb] w fun e w' => Below w.heap.size w w' ∧ ∃ v, e = .returned v ∧ Kd.R k103 103 w' w.heap.size (fun _ => True) v l := by
  have HR := Aside0.mk (Kd.C_below hr (below1 (w := w) (.cells #[] 103)))
  have HL := Aside0.mk hl
  have hll := hr.2.1
  obtain ⟨ad, rfl⟩ := Option.ne_none_iff_exists'.1 hB
  have heq : ∀ W, (binOp .eql 91 (.slice (some ad) l.length cb) (.slice none 0 0)).run Try.prog W = .ok (.bool false) W := fun _ => rfl
  clear hr hl
  go_enter Try.func83, Try.ntmps83
  go_wp2_with (at_builtin; go_loud (refine Kd.R_append_rows k103 (Rr := k103.K (w.alloc (.cells #[] 103))) (w0 := w) w.heap.size rfl (.tmp 5) (.tmp 6) 91 103 (.agg #[.int .u8 0, .int .i64 0, .int .i64 0, .int .i64 0]) 32 rfl Try.underlying91 info103 rfl (by decide) (by omega) (.slice (some ⟨w.heap.size, 0, none⟩) 0 0) [] l (some ad) l.length cb (fun _ => True) (fun _ => False) rfl rfl ?aO ?aR ?aK (fun _ hk => hk.elim) ?aF ?aB ?aS ?aL ?_); (case aO => exact R_empty w); (case aR => exact HR.out); (case aK => exact k103_KM); (case aF => exact fun _ _ => trivial); (case aB => exact below1 _); (case aS => simp); (case aL => have := HL.out; simp; omega); intro v1 w1 ho2 hb2 hg2 hat2; (have HO5 := Aside0.mk ho2); (have HB5 := Aside0.mk hb2); obtain ⟨A2, c2, rfl⟩ := Kd.R_slice ho2; clear ho2 hb2 hg2 hat2)
  go_ret
  exact ⟨HB5.out, _, rfl, HO5.out⟩
end Go.Proofs.Ytplhilglokbplaa
namespace Go.Proofs.Ytplhilglokbplaa
open Go.Shelf Go.RowKit Go.Lib Go.Proofs.YtplhilglokbplaaW.PrintWords Go.Proofs.YtplhilglokbplaaW.PrintLast Go.Proofs.YtplhilglokbplaaW.PrintMore PAll
set_option linter.unusedVariables false
set_option linter.unusedSimpArgs false

def midL (a : S36) : Int × Int := (wrap64 (Int.tdiv (wrap64 (a.f1 + a.f3)) 2), wrap64 (Int.tdiv (wrap64 (a.f2 + a.f4)) 2))
theorem middle_any (w : World) (a : S36) : Calls Try.prog 85 #[.agg #[.int .u8 a.f0, .int .i64 a.f1, .int .i64 a.f2, .int .i64 a.f3, .int .i64 a.f4]] w fun e w' => e = .returned (.agg #[.int .i64 (midL a).1, .int .i64 (midL a).2]) ∧ Below w.heap.size w w' :=
  area_middle.calls _ _ _ _ _ _ _ w rfl
theorem C_tap {W : World} {b : Nat} (t : S103) (h : W.heap[b]? = some (.cells #[.int .u8 t.f0, .int .i64 t.f1, .int .i64 t.f2, .int .i64 t.f3] 103)) : Kd.C k103 W (some ⟨b, 0, none⟩) 1 [t] := by
  refine ⟨rfl, by simp, fun _ => ⟨_, rfl, fun j p hj => ?_⟩⟩
  obtain rfl : j = 0 := by
    rcases j with _ | j
    · rfl
    · simp at hj
  simp at hj
  subst hj
  refine ⟨[.int .u8 t.f0, .int .i64 t.f1, .int .i64 t.f2, .int .i64 t.f3], rfl, k103.K_of_M (k103_mkM W 0 (fun _ => True) t), fun i u hu => ?_⟩
  rw [add_plain]
  have h0 : (0 : Nat) * k103.sz + i = i := by omega
  try simp only [Nat.zero_add]
  rw [h0, blk_cell h i]
  simpa using hu
theorem tap_open {w : World} {base : Nat} {ok : Nat → Prop} {v : Value} {t : S103} (h : Kd.R k103 103 w base ok v [t]) :
    ∃ g cap cur, v = .slice (some ⟨g, 0, none⟩) 1 cap ∧ base ≤ g ∧ w.heap[g]? = some (.cells cur 103 (0, 0)) ∧ 1 ≤ cap ∧ cap ≤ maxLen ∧ cur.size = cap * 4 ∧ cur[0]? = some (.int .u8 t.f0) ∧ cur[1]? = some (.int .i64 t.f1) ∧ cur[2]? = some (.int .i64 t.f2) ∧ cur[3]? = some (.int .i64 t.f3) := by
  obtain ⟨h0, inner, ⟨hl, hv⟩, hr⟩ := h
  rcases hv with ⟨_, hz⟩ | ⟨g, cap, cur, rfl, hb, hh, hnc, hcm, hcs, ht⟩
  · simp at hz
  have h1 := k103_openM (hr.2 0 t rfl)
  have hsz : k103.sz = 4 := rfl
  rw [hsz] at h1 ht hcs hl
  simp at h1 ht hl
  have e : ∀ j, j < 4 → cur[j]? = inner[j]? := fun j hj => by
    rw [← ht, List.getElem?_take, if_pos hj]
    simp
  have h2 : inner = [.int .u8 t.f0, .int .i64 t.f1, .int .i64 t.f2, .int .i64 t.f3] := by
    rw [← h1, List.take_of_length_le (by omega)]
  refine ⟨g, cap, cur, rfl, hb, hh, hnc, hcm, hcs, ?_, ?_, ?_, ?_⟩
  · rw [e 0 (by omega), h2]; rfl
  · rw [e 1 (by omega), h2]; rfl
  · rw [e 2 (by omega), h2]; rfl
  · rw [e 3 (by omega), h2]; rfl
theorem tap_shut {w : World} {base g cap : Nat} {cur : Array Value} {k a b n : Int} (hb : base ≤ g) (hh : w.heap[g]? = some (.cells ((((cur.setIfInBounds 0 (.int .u8 k)).setIfInBounds 1 (.int .i64 a)).setIfInBounds 2 (.int .i64 b)).setIfInBounds 3 (.int .i64 n)) 103 (0, 0))) (h1 : 1 ≤ cap) (hcm : cap ≤ maxLen) (hcs : cur.size = cap * 4) :
    Kd.R k103 103 w base (fun _ => True) (.slice (some ⟨g, 0, none⟩) 1 cap) [⟨k, a, b, n⟩] := by
  have hsz : k103.sz = 4 := rfl
  refine ⟨fun _ _ => trivial, [.int .u8 k, .int .i64 a, .int .i64 b, .int .i64 n], ⟨rfl, Or.inr ⟨g, cap, _, rfl, hb, hh, h1, hcm, by rw [hsz]; simpa using hcs, ?_⟩⟩, ?_⟩
  · obtain ⟨l⟩ := cur
    simp only [List.size_toArray] at hcs
    rcases l with _ | ⟨a0, _ | ⟨a1, _ | ⟨a2, _ | ⟨a3, rest⟩⟩⟩⟩
    · simp at hcs; omega
    · simp at hcs; omega
    · simp at hcs; omega
    · simp at hcs; omega
    · simp [hsz]
  · refine ⟨rfl, fun j q hj => ?_⟩
    rcases j with _ | j
    · simp at hj
      subst hj
      exact k103_mkM _ _ _ _
    · simp at hj
set_option maxRecDepth 100000 in
set_option maxHeartbeats 4000000 in
theorem adapt_nil (w : World) (A B C : Option Addr) (a nb b nc c : Nat) (la : List S36) (key x y : Int) (ha : Kd.C k36 w A la.length la) (hxy : coordB [x, y] = true) :
    Calls Try.prog 33 #[.agg #[.slice A la.length a, .slice B nb b, .slice C nc c], .slice none 0 0, .int .u8 key, .agg #[.int .i64 x, .int .i64 y]] w fun e w' =>
      Below w.heap.size w w' ∧ ((idxF (fun a : S36 => a.f0 == key) la < 0 ∧ e = .returned (.tuple #[.slice none 0 0, .int .i64 210])) ∨
        (0 ≤ idxF (fun a : S36 => a.f0 == key) la ∧ ∃ v, Kd.R k103 103 w' w.heap.size (fun _ => True) v [⟨key, wrap64 (0 + wrap64 (x - (midL (rd_T36 la (idxF (fun a : S36 => a.f0 == key) la))).1)), wrap64 (0 + wrap64 (y - (midL (rd_T36 la (idxF (fun a : S36 => a.f0 == key) la))).2)), 1⟩] ∧ e = .returned (.tuple #[v, .int .i64 0]))) := by
  have hw2 : ∃ w2, w2 = ((w.alloc (.cells #[.slice A la.length a, .slice B nb b, .slice C nc c] 26)).alloc (.cells #[.int .u8 key] 5)).alloc (.cells #[.int .i64 x, .int .i64 y] 89) := ⟨_, rfl⟩
  obtain ⟨w2, hw2⟩ := hw2
  have hb2 := blk_alloc (blk_alloc (heap_alloc_new w (.cells #[.slice A la.length a, .slice B nb b, .slice C nc c] 26)) (.cells #[.int .u8 key] 5)) (.cells #[.int .i64 x, .int .i64 y] 89)
  have hk2 := blk_alloc (heap_alloc_new (w.alloc (.cells #[.slice A la.length a, .slice B nb b, .slice C nc c] 26)) (.cells #[.int .u8 key] 5)) (.cells #[.int .i64 x, .int .i64 y] 89)
  have hp2 := heap_alloc_new ((w.alloc (.cells #[.slice A la.length a, .slice B nb b, .slice C nc c] 26)).alloc (.cells #[.int .u8 key] 5)) (.cells #[.int .i64 x, .int .i64 y] 89)
  rw [show (w.alloc (Obj.cells #[.slice A la.length a, .slice B nb b, .slice C nc c] 26)).heap.size = w.heap.size + 1 by simp] at hk2
  rw [show ((w.alloc (Obj.cells #[.slice A la.length a, .slice B nb b, .slice C nc c] 26)).alloc (.cells #[.int .u8 key] 5)).heap.size = w.heap.size + 1 + 1 by simp] at hp2
  have hB2 : Below w.heap.size w w2 := by rw [hw2]; exact below_alloc (below_alloc (below_alloc (Below.refl _ _) _) _) _
  rw [← hw2] at hb2 hp2 hk2
  have hcall : Calls Try.prog 77 #[.slice (some ⟨w2.heap.size, 0, none⟩) 2 2] (w2.alloc (.cells #[.int .i64 x, .int .i64 y] 3)) fun e w' => e = .returned (.bool true) ∧ Below (w2.alloc (.cells #[.int .i64 x, .int .i64 y] 3)).heap.size (w2.alloc (.cells #[.int .i64 x, .int .i64 y] 3)) w' := by
    have := coordinates_any (w2.alloc (.cells #[.int .i64 x, .int .i64 y] 3)) (some ⟨w2.heap.size, 0, none⟩) 2 [x, y] (C_block (fr := (0, 0)) (e := 3) [x, y] (heap_alloc_new w2 (.cells #[.int .i64 x, .int .i64 y] 3)) (by simp)) (by simp)
    rwa [hxy] at this
  have hidx : ∀ W, Below w2.heap.size w2 W → Calls Try.prog 78 #[.slice A la.length a, .func (.func 79) #[] #[.pointer (some ⟨w.heap.size + 1, 0, none⟩)]] W fun e w' => e = .returned (.int .i64 (idxF (fun a : S36 => a.f0 == key) la)) ∧ Below W.heap.size W w' := fun W hW =>
    index78_any W A a la (Kd.C_below ha (below_then hB2 hB2.size hW)) 79 _ _ (predF79 W (w.heap.size + 1) key (blk_below hk2 hW))
  have HW := Aside0.mk hw2
  have HA := Aside0.mk ha
  have HB2 := Aside0.mk hB2
  have HBB := Aside0.mk hb2
  have HPP := Aside0.mk hp2
  have HKK := Aside0.mk hk2
  have HCALL := Aside0.mk hcall
  have HIDX := Aside0.mk hidx
  have hl := ha.2.1
  have c0 := blk_cell hp2 0
  have c1 := blk_cell hp2 1
  simp at c0 c1
  generalize hix : idxF (fun a : S36 => a.f0 == key) la = ix at HIDX ⊢
  have HIX := Aside0.mk hix
  clear ha hxy hB2 hb2 hp2 hcall hidx hk2 hix
  go_enter Try.func33, Try.ntmps33
  go_upto_region 1 with fail
  rw [← HW.out]
  clear hw2
  go_wp2_with fail
  refine HCALL.out.mono ?_
  rintro e w3 ⟨rfl, hb3⟩
  have HB3 : Aside0 (Below w2.heap.size w2 w3) := ⟨below_then (below1 _) (below_size (below1 _)) hb3⟩
  have c2 := blk_cell (blk_below HBB.out HB3.out) 0
  simp at c2
  clear hb3 c0 c1
  go_wp2_with fail
  refine (HIDX.out _ HB3.out).mono ?_
  rintro e w4 ⟨rfl, hb4⟩
  have HB4 : Aside0 (Below w2.heap.size w2 w4) := ⟨below_then HB3.out HB3.out.size hb4⟩
  have c3 := blk_cell (blk_below HKK.out HB4.out) 0
  simp at c3
  clear hb4 c2
  by_cases hneg : ix < 0
  · have d1 : decide (ix < 0) = true := decide_eq_true hneg
    go_wp2
    go_ret2
    exact ⟨below_then HB2.out HB2.out.size HB4.out, Or.inl ⟨hneg, rfl⟩⟩
  · have d1 : decide (ix < 0) = false := decide_eq_false hneg
    have HNEG := Aside0.mk hneg
    clear hneg
    go_wp2_with fail
    refine (search80_nil key _ ⟨81, #[], rfl⟩ _).mono ?_
    rintro e w5 ⟨rfl, hb5⟩
    have HB5 : Aside0 (Below w2.heap.size w2 w5) := ⟨below_then HB4.out HB4.out.size hb5⟩
    clear hb5 c3
    go_wp2_with fail
    refine (clone_nil _).mono ?_
    rintro e w6 ⟨rfl, hb6⟩
    have HB6 : Aside0 (Below w2.heap.size w2 w6) := ⟨below_then HB5.out HB5.out.size hb6⟩
    have c3 := blk_cell (blk_below HKK.out HB6.out) 0
    simp at c3
    clear hb6
    go_wp2_with fail
    refine (insert_nil _ (some ⟨w6.heap.size, 0, none⟩) 1 ⟨key, 0, 0, 0⟩ (C_tap _ (heap_alloc_new _ _))).mono ?_
    rintro e w7 ⟨hb7, v7, rfl, hr7⟩
    have HB7 : Aside0 (Below w2.heap.size w2 w7) := ⟨below_then HB6.out HB6.out.size (below_then (below1 _) (below_size (below1 _)) hb7)⟩
    obtain ⟨g, cap, cur, rfl, hgb, hgh, hcap1, hcapm, hcs, q0, q1, q2, q3⟩ := tap_open hr7
    dsimp only at q0 q1 q2 q3
    have HGB : Aside0 (w2.heap.size ≤ g) := ⟨by have := HB6.out.size; simp at hgb; omega⟩
    have HGH := Aside0.mk hgh
    have HCUR := Aside0.mk (And.intro hcap1 (And.intro hcapm hcs))
    have HQ := Aside0.mk (And.intro q0 (And.intro q1 (And.intro q2 q3)))
    have HB07 := Aside0.mk (below_then HB2.out HB2.out.size HB7.out)
    clear hb7 hr7 hgb hgh hcap1 hcapm hcs q0 q1 q2 q3 c3
    have c0 := blk_cell (blk_below HBB.out HB7.out) 0
    simp at c0
    have i0 : (0 : Int) ≤ ix := by have := HNEG.out; omega
    have hlt : ix < (la.length : Int) := by
      rw [← HIX.out]
      unfold idxF
      split
      · rename_i hh
        have := List.findIdx_lt_length.2 (List.any_eq_true.1 hh)
        omega
      · omega
    obtain ⟨ad, e, hx0, hx1, hx2, hx3, hx4⟩ := at_T36 HA.out ix i0 hlt
    cases e
    replace hx0 := (HB07.out.cell (World.block_lt_of_cell? w _ hx0)).trans hx0
    replace hx1 := (HB07.out.cell (World.block_lt_of_cell? w _ hx1)).trans hx1
    replace hx2 := (HB07.out.cell (World.block_lt_of_cell? w _ hx2)).trans hx2
    replace hx3 := (HB07.out.cell (World.block_lt_of_cell? w _ hx3)).trans hx3
    replace hx4 := (HB07.out.cell (World.block_lt_of_cell? w _ hx4)).trans hx4
    generalize har : rd_T36 la ix = r at hx0 hx1 hx2 hx3 hx4
    have HAR := Aside0.mk har
    clear har
    have hmid := fun W => middle_any W r
    generalize hm1 : (midL r).1 = mx at hmid
    generalize hm2 : (midL r).2 = my at hmid
    have HM1 := Aside0.mk hm1
    have HM2 := Aside0.mk hm2
    clear hm1 hm2
    have d2 : decide (ix < (la.length : Int)) = true := decide_eq_true hlt
    go_wp2_with fail
    refine (hmid _).mono ?_
    rintro e w8 ⟨rfl, hb8⟩
    have HB8 : Aside0 (Below w7.heap.size w7 w8) := ⟨hb8⟩
    clear hb8 hx0 hx1 hx2 hx3 hx4 c0 hmid d2
    go_upto_region 11 with fail
    obtain ⟨W9, hW9⟩ : ∃ W9, W9 = w8.alloc (.cells #[.int .i64 mx, .int .i64 my] 89) := ⟨_, rfl⟩
    rw [← hW9]
    have HM9 : Aside0 (W9.heap[w8.heap.size]? = some (.cells #[.int .i64 mx, .int .i64 my] 89)) := ⟨by rw [hW9]; exact heap_alloc_new _ _⟩
    have HB9 : Aside0 (Below w7.heap.size w7 W9) := ⟨by rw [hW9]; exact below_alloc HB8.out _⟩
    have HG9 := Aside0.mk (blk_below HGH.out HB9.out)
    have HP9 := Aside0.mk (blk_below HPP.out (below_then HB7.out HB7.out.size HB9.out))
    have HS9 : Aside0 (W9.heap.size = w8.heap.size + 1) := ⟨by rw [hW9]; simp⟩
    clear hW9
    have e0 := (blk_cell HG9.out 0).trans HQ.out.1
    have e1 := (blk_cell HG9.out 1).trans HQ.out.2.1
    have e2 := (blk_cell HG9.out 2).trans HQ.out.2.2.1
    have e3 := (blk_cell HG9.out 3).trans HQ.out.2.2.2
    go_upto_region 12 with fail
    clear e0 e1 e2 e3
    obtain ⟨T, hT⟩ : ∃ T, T = W9.heap.size := ⟨_, rfl⟩
    obtain ⟨W10, hW10⟩ : ∃ W10, W10 = W9.alloc (.cells #[.int .u8 key, .int .i64 0, .int .i64 0, .int .i64 0] 103) := ⟨_, rfl⟩
    rw [← hW10, ← hT]
    have HT10 : Aside0 (W10.heap[T]? = some (.cells #[.int .u8 key, .int .i64 0, .int .i64 0, .int .i64 0] 103)) := ⟨by rw [hW10, hT]; exact heap_alloc_new _ _⟩
    have HG10 : Aside0 (W10.heap[g]? = some (.cells cur 103)) := ⟨by rw [hW10]; exact blk_alloc HG9.out _⟩
    have HP10 : Aside0 (W10.heap[w.heap.size + 1 + 1]? = some (.cells #[.int .i64 x, .int .i64 y] 89)) := ⟨by rw [hW10]; exact blk_alloc HP9.out _⟩
    have HM10 : Aside0 (W10.heap[w8.heap.size]? = some (.cells #[.int .i64 mx, .int .i64 my] 89)) := ⟨by rw [hW10]; exact blk_alloc HM9.out _⟩
    have HB10 : Aside0 (Below w7.heap.size w7 W10) := ⟨by rw [hW10]; exact below_alloc HB9.out _⟩
    have HNE : Aside0 (g ≠ T ∧ w.heap.size + 1 + 1 ≠ T ∧ w8.heap.size ≠ T ∧ w7.heap.size ≤ T) := ⟨by
      have h1 := blk_lt HG9.out
      have h2 := blk_lt HP9.out
      have h3 := blk_lt HM9.out
      have h4 := HB9.out.size
      omega⟩
    clear hW10 hT
    have t1 := blk_cell HT10.out 1
    have f1 := blk_frozen HT10.out 1
    have p0 := blk_cell HP10.out 0
    have m0 := blk_cell HM10.out 0
    simp at t1 p0 m0
    go_upto_region 13 with fail
    clear t1 f1 p0 m0
    obtain ⟨W11, hW11⟩ : ∃ W11, W11 = W10.setCell ⟨T, 1, none⟩ (.int .i64 (wrap64 (wrap64 (x - mx)))) := ⟨_, rfl⟩
    rw [← hW11]
    have HT11 : Aside0 (W11.heap[T]? = some (.cells #[.int .u8 key, .int .i64 (wrap64 (wrap64 (x - mx))), .int .i64 0, .int .i64 0] 103)) := ⟨by rw [hW11]; exact blk_set HT10.out 1 _⟩
    have HG11 : Aside0 (W11.heap[g]? = some (.cells cur 103)) := ⟨by rw [hW11]; exact (Below.heap_setCell _ _ _ _ HNE.out.1).trans HG10.out⟩
    have HP11 : Aside0 (W11.heap[w.heap.size + 1 + 1]? = some (.cells #[.int .i64 x, .int .i64 y] 89)) := ⟨by rw [hW11]; exact (Below.heap_setCell _ _ _ _ HNE.out.2.1).trans HP10.out⟩
    have HM11 : Aside0 (W11.heap[w8.heap.size]? = some (.cells #[.int .i64 mx, .int .i64 my] 89)) := ⟨by rw [hW11]; exact (Below.heap_setCell _ _ _ _ HNE.out.2.2.1).trans HM10.out⟩
    have HB11 : Aside0 (Below w7.heap.size w7 W11) := ⟨by rw [hW11]; exact HB10.out.setCell HNE.out.2.2.2 _⟩
    clear hW11
    have t1 := blk_cell HT11.out 2
    have f1 := blk_frozen HT11.out 2
    have p0 := blk_cell HP11.out 1
    have m0 := blk_cell HM11.out 1
    simp at t1 p0 m0
    go_upto_region 14 with fail
    clear t1 f1 p0 m0
    obtain ⟨W12, hW12⟩ : ∃ W12, W12 = W11.setCell ⟨T, 2, none⟩ (.int .i64 (wrap64 (wrap64 (y - my)))) := ⟨_, rfl⟩
    rw [← hW12]
    have HT12 : Aside0 (W12.heap[T]? = some (.cells #[.int .u8 key, .int .i64 (wrap64 (wrap64 (x - mx))), .int .i64 (wrap64 (wrap64 (y - my))), .int .i64 0] 103)) := ⟨by rw [hW12]; exact blk_set HT11.out 2 _⟩
    have HG12 : Aside0 (W12.heap[g]? = some (.cells cur 103)) := ⟨by rw [hW12]; exact (Below.heap_setCell _ _ _ _ HNE.out.1).trans HG11.out⟩
    have HP12 : Aside0 (W12.heap[w.heap.size + 1 + 1]? = some (.cells #[.int .i64 x, .int .i64 y] 89)) := ⟨by rw [hW12]; exact (Below.heap_setCell _ _ _ _ HNE.out.2.1).trans HP11.out⟩
    have HM12 : Aside0 (W12.heap[w8.heap.size]? = some (.cells #[.int .i64 mx, .int .i64 my] 89)) := ⟨by rw [hW12]; exact (Below.heap_setCell _ _ _ _ HNE.out.2.2.1).trans HM11.out⟩
    have HB12 : Aside0 (Below w7.heap.size w7 W12) := ⟨by rw [hW12]; exact HB11.out.setCell HNE.out.2.2.2 _⟩
    clear hW12
    have t1 := blk_cell HT12.out 3
    have f1 := blk_frozen HT12.out 3
    simp at t1
    go_upto_region 15 with fail
    clear t1 f1
    obtain ⟨W13, hW13⟩ : ∃ W13, W13 = W12.setCell ⟨T, 3, none⟩ (.int .i64 1) := ⟨_, rfl⟩
    rw [← hW13]
    have HT13 : Aside0 (W13.heap[T]? = some (.cells #[.int .u8 key, .int .i64 (wrap64 (wrap64 (x - mx))), .int .i64 (wrap64 (wrap64 (y - my))), .int .i64 1] 103)) := ⟨by rw [hW13]; exact blk_set HT12.out 3 _⟩
    have HG13 : Aside0 (W13.heap[g]? = some (.cells cur 103)) := ⟨by rw [hW13]; exact (Below.heap_setCell _ _ _ _ HNE.out.1).trans HG12.out⟩
    have HB13 : Aside0 (Below w7.heap.size w7 W13) := ⟨by rw [hW13]; exact HB12.out.setCell HNE.out.2.2.2 _⟩
    clear hW13
    have t0 := blk_cell HT13.out 0
    have t1 := blk_cell HT13.out 1
    have t2 := blk_cell HT13.out 2
    have t3 := blk_cell HT13.out 3
    have f0 := blk_frozen HG13.out 0
    have f1 := blk_frozen HG13.out 1
    have f2 := blk_frozen HG13.out 2
    have f3 := blk_frozen HG13.out 3
    have e0 := (blk_cell HG13.out 0).trans HQ.out.1
    have e1 := (blk_cell HG13.out 1).trans HQ.out.2.1
    have e2 := (blk_cell HG13.out 2).trans HQ.out.2.2.1
    have e3 := (blk_cell HG13.out 3).trans HQ.out.2.2.2
    simp at t0 t1 t2 t3
    go_wp2
    go_ret2
    have hgw : w.heap.size ≤ g := Nat.le_trans HB2.out.size HGB.out
    refine ⟨?_, Or.inr ⟨i0, .slice (some ⟨g, 0, none⟩) 1 cap, ?_, rfl⟩⟩
    · exact ((((below_then HB07.out HB07.out.size HB13.out).setCell hgw _).setCell hgw _).setCell hgw _).setCell hgw _
    · rw [HAR.out, HM1.out, HM2.out, Int.zero_add, Int.zero_add]
      exact tap_shut hgw (blk_set (blk_set (blk_set (blk_set HG13.out 0 _) 1 _) 2 _) 3 _) HCUR.out.1 HCUR.out.2.1 HCUR.out.2.2
end Go.Proofs.Ytplhilglokbplaa
