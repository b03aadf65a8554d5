/- What area.fits answers at areas, templates and chords. -/
import Derived.Test.YtplhilglokbplaaArB
namespace Go.Proofs.Ytplhilglokbplaa
open Go.RowKit Go.Proofs.YtplhilglokbplaaW.PrintWords Go.Proofs.YtplhilglokbplaaW.PrintLast Go.Proofs.YtplhilglokbplaaW.PrintMore PAll
set_option linter.unusedVariables false
set_option linter.unusedSimpArgs false

theorem CmpF.later {α β : Type} {P : Program} {w0 w1 : World} {enc : β → Value} {I : β → Prop} {π : β → α} {f : α → α → Int} {v : Value} (h : CmpF P w0 enc I π f v) (hb : Below w0.heap.size w0 w1) : CmpF P w1 enc I π f v := by
  obtain ⟨g, lb, e, he, ha⟩ := h
  exact ⟨g, lb, e, he, fun w x y hw hx hy => ha w x y (below_then hb hb.size hw) hx hy⟩
theorem PredF.later {α β : Type} {P : Program} {w0 w1 : World} {enc : β → Value} {I : β → Prop} {π : β → α} {p : α → Bool} {v : Value} (h : PredF P w0 enc I π p v) (hb : Below w0.heap.size w0 w1) : PredF P w1 enc I π p v := by
  obtain ⟨g, lb, e, he, ha⟩ := h
  exact ⟨g, lb, e, he, fun w x hw hx => ha w x (below_then hb hb.size hw) hx⟩

set_option maxHeartbeats 1000000 in
theorem fits36_any (w : World) (A : Option Addr) (c : Nat) (l : List S36) (hr : Kd.C k36 w A l.length l) (g : Nat) (lb : Array Value) (f : S36 → S36 → Int) (hg : CmpF Try.prog w eA (fun _ => True) id f (.func (.func g) #[] lb)) (B : Option Addr) (cc : Nat) (ps : List (S36 → Bool)) (hc : Preds Try.prog w eA (fun _ => True) id B ps) :
    Calls Try.prog 97 #[.slice A l.length c, .func (.func g) #[] lb, .slice B ps.length cc] w fun e w' => e = .returned (.bool (decide (l.length ≤ 26) && (l.all fun x => ps.all fun p => p x) && incB f l)) ∧ Below w.heap.size w w' := by
  have HR := Aside0.mk hr
  have HG := Aside0.mk hg
  have HC := Aside0.mk hc
  have hl := hr.2.1
  clear hr hg hc
  by_cases hn : l.length ≤ 26
  · have hd : decide ((l.length : Int) ≤ 26) = true := decide_eq_true (by omega)
    rw [decide_eq_true hn]
    have h1 := all36_any w A c l HR.out B cc ps HC.out
    cases hA : (l.all fun x => ps.all fun p => p x) with
    | false =>
      rw [hA] at h1
      clear hA hn
      go_enter Try.func97, Try.ntmps97
      go_wp2_with fail
      refine h1.mono ?_
      rintro e w1 ⟨rfl, hb1⟩
      have HB1 := Aside0.mk hb1
      clear hb1
      go_wp2
      go_ret
      exact ⟨rfl, HB1.out⟩
    | true =>
      rw [hA] at h1
      clear hA hn
      cases hI : incB f l
      all_goals
        go_enter Try.func97, Try.ntmps97
        go_wp2_with fail
        refine h1.mono ?_
        rintro e w1 ⟨rfl, hb1⟩
        have h2 := inc36_any w w1 hb1 A c l HR.out g lb f HG.out
        have HB1 := Aside0.mk hb1
        clear hb1
        rw [hI] at h2
        go_wp2_with fail
        refine h2.mono ?_
        rintro e w2 ⟨rfl, hb2⟩
        have HB2 := Aside0.mk hb2
        clear hb2
        go_wp2
        go_ret
        exact ⟨rfl, below_then HB1.out HB1.out.size HB2.out⟩
  · have hd : decide ((l.length : Int) ≤ 26) = false := decide_eq_false (by omega)
    rw [decide_eq_false hn]
    clear hn
    go_enter Try.func97, Try.ntmps97
    go_wp2
    go_ret
    exact ⟨rfl, Below.refl _ _⟩


set_option maxHeartbeats 1000000 in
theorem fits33_any (w : World) (A : Option Addr) (c : Nat) (l : List S33) (hr : Kd.C k33 w A l.length l) (g : Nat) (lb : Array Value) (f : S33 → S33 → Int) (hg : CmpF Try.prog w eT (iT w) Prod.fst f (.func (.func g) #[] lb)) (B : Option Addr) (cc : Nat) (ps : List (S33 → Bool)) (hc : Preds Try.prog w eT (iT w) Prod.fst B ps) :
    Calls Try.prog 106 #[.slice A l.length c, .func (.func g) #[] lb, .slice B ps.length cc] w fun e w' => e = .returned (.bool (decide (l.length ≤ 26) && (l.all fun x => ps.all fun p => p x) && incB f l)) ∧ Below w.heap.size w w' := by
  have HR := Aside0.mk hr
  have HG := Aside0.mk hg
  have HC := Aside0.mk hc
  have hl := hr.2.1
  clear hr hg hc
  by_cases hn : l.length ≤ 26
  · have hd : decide ((l.length : Int) ≤ 26) = true := decide_eq_true (by omega)
    rw [decide_eq_true hn]
    have h1 := all33_any w A c l HR.out B cc ps HC.out
    cases hA : (l.all fun x => ps.all fun p => p x) with
    | false =>
      rw [hA] at h1
      clear hA hn
      go_enter Try.func106, Try.ntmps106
      go_wp2_with fail
      refine h1.mono ?_
      rintro e w1 ⟨rfl, hb1⟩
      have HB1 := Aside0.mk hb1
      clear hb1
      go_wp2
      go_ret
      exact ⟨rfl, HB1.out⟩
    | true =>
      rw [hA] at h1
      clear hA hn
      cases hI : incB f l
      all_goals
        go_enter Try.func106, Try.ntmps106
        go_wp2_with fail
        refine h1.mono ?_
        rintro e w1 ⟨rfl, hb1⟩
        have h2 := inc33_any w w1 hb1 A c l HR.out g lb f HG.out
        have HB1 := Aside0.mk hb1
        clear hb1
        rw [hI] at h2
        go_wp2_with fail
        refine h2.mono ?_
        rintro e w2 ⟨rfl, hb2⟩
        have HB2 := Aside0.mk hb2
        clear hb2
        go_wp2
        go_ret
        exact ⟨rfl, below_then HB1.out HB1.out.size HB2.out⟩
  · have hd : decide ((l.length : Int) ≤ 26) = false := decide_eq_false (by omega)
    rw [decide_eq_false hn]
    clear hn
    go_enter Try.func106, Try.ntmps106
    go_wp2
    go_ret
    exact ⟨rfl, Below.refl _ _⟩


set_option maxHeartbeats 1000000 in
theorem fits39_any (w : World) (A : Option Addr) (c : Nat) (l : List S39) (hr : Kd.C k39 w A l.length l) (g : Nat) (lb : Array Value) (f : S39 → S39 → Int) (hg : CmpF Try.prog w eC iC id f (.func (.func g) #[] lb)) (B : Option Addr) (cc : Nat) (ps : List (S39 → Bool)) (hc : Preds Try.prog w eC iC id B ps) (hs : ∀ i, iC (rd_T39 l i)) :
    Calls Try.prog 113 #[.slice A l.length c, .func (.func g) #[] lb, .slice B ps.length cc] w fun e w' => e = .returned (.bool (decide (l.length ≤ 26) && (l.all fun x => ps.all fun p => p x) && incB f l)) ∧ Below w.heap.size w w' := by
  have HR := Aside0.mk hr
  have HG := Aside0.mk hg
  have HC := Aside0.mk hc
  have hl := hr.2.1
  clear hr hg hc
  by_cases hn : l.length ≤ 26
  · have hd : decide ((l.length : Int) ≤ 26) = true := decide_eq_true (by omega)
    rw [decide_eq_true hn]
    have h1 := all39_any w A c l HR.out B cc ps HC.out hs
    cases hA : (l.all fun x => ps.all fun p => p x) with
    | false =>
      rw [hA] at h1
      clear hA hn
      go_enter Try.func113, Try.ntmps113
      go_wp2_with fail
      refine h1.mono ?_
      rintro e w1 ⟨rfl, hb1⟩
      have HB1 := Aside0.mk hb1
      clear hb1
      go_wp2
      go_ret
      exact ⟨rfl, HB1.out⟩
    | true =>
      rw [hA] at h1
      clear hA hn
      cases hI : incB f l
      all_goals
        go_enter Try.func113, Try.ntmps113
        go_wp2_with fail
        refine h1.mono ?_
        rintro e w1 ⟨rfl, hb1⟩
        have h2 := inc39_any w w1 hb1 A c l HR.out g lb f HG.out hs
        have HB1 := Aside0.mk hb1
        clear hb1
        rw [hI] at h2
        go_wp2_with fail
        refine h2.mono ?_
        rintro e w2 ⟨rfl, hb2⟩
        have HB2 := Aside0.mk hb2
        clear hb2
        go_wp2
        go_ret
        exact ⟨rfl, below_then HB1.out HB1.out.size HB2.out⟩
  · have hd : decide ((l.length : Int) ≤ 26) = false := decide_eq_false (by omega)
    rw [decide_eq_false hn]
    clear hn
    go_enter Try.func113, Try.ntmps113
    go_wp2
    go_ret
    exact ⟨rfl, Below.refl _ _⟩


end Go.Proofs.Ytplhilglokbplaa
