/- A region that draws its order, whose stores hit some cells that it loads and spare others: a relation R is shown behind each operation, and each load is taken first by what it needs of R. -/
import Derived.Test.YtplhilglokbplaaWLast
namespace Go.Proofs.Ytplhilglokbplaa
open Go.RowKit Go.Proofs.YtplhilglokbplaaW.PrintLast
set_option linter.unusedVariables false
section
variable {P : Program} {ops : Array Oper} {Q : Exit → Act → World → Prop} {md : Region.Mode} {R : Nat → World → World → Prop}

def wpAnyR (P : Program) (md : Region.Mode) (ops : Array Oper) (Q : Exit → Act → World → Prop) (R : Nat → World → World → Prop) : Nat → Array Bool → Act → World → Prop
  | 0, listed, a, w => Region.ready md ops listed = [] ∧ Q .normal a w
  | fuel + 1, listed, a, w =>
    (Region.ready md ops listed = [] → Q .normal a w) ∧
    ∀ i ∈ Region.ready md ops listed, wpOp P ops Q i (fun a' w' => R i w w' ∧ wpAnyR P md ops Q R fuel (listed.setIfInBounds i true) a' w') a w

theorem wpAny_of_R : ∀ (fuel : Nat) (listed : Array Bool) (a : Act) (w : World), wpAnyR P md ops Q R fuel listed a w → wpAny P md ops Q fuel listed a w
  | 0, _, _, _, h => h
  | fuel + 1, _, _, _, h => ⟨h.1, fun i hi => wpOp_mono (fun a' w' h' => wpAny_of_R fuel _ a' w' h'.2) (h.2 i hi)⟩

theorem wpAnyR_first {S : World → Prop} {ds : List Nat} (hRr : ∀ i w, R i w w) (hRS : ∀ j w w', j ∉ ds → R j w w' → S w → S w') {i : Nat} {oi : Oper} {v : Value} (hi : ops[i]? = some oi) (hsel : ∀ (j : Nat) (o : Oper) cs b, ops[j]? = some o → o.op ≠ .select cs b)
    (hQ : ∀ c a w, Q (.panic c) (a.put oi.dst v) w → Q (.panic c) a w) (n : Nat) :
    ∀ (fuel : Nat) (listed : Array Bool) (a : Act) (w : World),
      (∀ j oj, ops[j]? = some oj → j ≠ i → listed.getD j true = false → (∀ e ∈ oj.after, Region.binds md e = true → e.on ≠ i) → oi.apart ops oj = true) →
      ListedClosed md ops listed → (∀ d ∈ ds, listed.getD d true = false → Region.reachB md ops i n d = true) →
      i ∈ Region.ready md ops listed → YieldsIf P ops S oi v a → S w →
      wpAnyR P md ops Q R fuel (listed.setIfInBounds i true) (a.put oi.dst v) w → wpAnyR P md ops Q R (fuel + 1) listed a w := by
  intro fuel
  induction fuel with
  | zero =>
    intro listed a w _ _ _ hr hy hS H
    refine ⟨fun h => (by rw [h] at hr; cases hr), fun j hj => ?_⟩
    by_cases hji : j = i
    · subst hji; exact hy.wpOp hi hS ⟨hRr _ _, H⟩
    · have := ready_mono hj hji
      rw [H.1] at this
      cases this
  | succ fuel ih =>
    intro listed a w hfree hc hd hr hy hS H
    refine ⟨fun h => (by rw [h] at hr; cases hr), fun j hj => ?_⟩
    by_cases hji : j = i
    · subst hji; exact hy.wpOp hi hS ⟨hRr _ _, H⟩
    · have h1 := H.2 j (ready_mono hj hji)
      obtain ⟨hjun, oj, hoj, hall⟩ := mem_ready.1 hj
      have hiun := (mem_ready.1 hr).1
      have hnot : ∀ e ∈ oj.after, Region.binds md e = true → e.on ≠ i := fun e he hb heq => by
        have h1 := hall e he hb
        rw [heq] at h1
        rcases Nat.lt_or_ge i listed.size with h' | h'
        · simp [h'] at hiun h1; rw [hiun] at h1; cases h1
        · simp [Array.getElem?_eq_none h'] at h1
      have hjd : j ∉ ds := fun hm => Region.reach_not_ready hc (hd j hm hjun) hiun hj
      have h2 := wpOp_putIf hoj (hfree j oj hoj hji hjun hnot) (fun cs b => hsel i oi cs b hi) (fun cs b => hsel j oj cs b hoj) hQ hy h1
      have hfree' : ∀ k ok, ops[k]? = some ok → k ≠ i → (listed.setIfInBounds j true).getD k true = false →
          (∀ e ∈ ok.after, Region.binds md e = true → e.on ≠ i) → oi.apart ops ok = true := fun k ok hk hki hun hno => by
        refine hfree k ok hk hki ?_ hno
        by_cases hjk : j = k
        · subst hjk; exact hjun
        · rw [getD_set_ne true hjk] at hun; exact hun
      have hd' : ∀ d ∈ ds, (listed.setIfInBounds j true).getD d true = false → Region.reachB md ops i n d = true := fun d hm hun => by
        refine hd d hm ?_
        by_cases hjk : j = d
        · subst hjk; exact hjun
        · rw [getD_set_ne true hjk] at hun; exact hun
      refine wpOp_mono (fun a' w' h3 => ⟨h3.2.1, ih (listed.setIfInBounds j true) a' w' hfree' (hc.set hj) hd' (ready_mono hr (Ne.symm hji)) h3.1 (hRS j _ _ hjd h3.2.1 hS) ?_⟩) h2
      rw [Array.setIfInBounds_comm _ _ hji]
      exact h3.2.2

theorem startR_ {id n : Nat} {a : Act} {w : World} (l : Array Bool) (hm : P.follows .mixedOrders = true) (hn : ops.size = n) (hl : Array.replicate n false = l)
    (h : wpAnyR P .any ops Q R n l a w.drew) : (Code.region id ops true).wp P Q a w := by
  subst hn
  subst hl
  exact wp_region_any hm (wpAny_of_R _ _ _ _ h)
/-- A load (or an operation that yields whatever the world: S := fun _ => True, ds := []) taken first. -/
theorem takeR_ {i : Nat} {N : Option Tmp} {oi : Oper} {v : Value} {fuel : Nat} {l : Array Bool} {a : Act} {w : World} (l' : Array Bool) (S : World → Prop) (ds : List Nat) (hRr : ∀ i w, R i w w) (hRS : ∀ j w w', j ∉ ds → R j w w' → S w → S w')
    (hi : ops[i]? = some oi) (hN : oi.dst = N) (hc : takeB md ops ds l l' i = true)
    (hQ : ∀ c a w, Q (.panic c) (a.put oi.dst v) w → Q (.panic c) a w) (hy : YieldsIf P ops S oi v a) (hS : S w) {a' : Act} (ha : a.put N v = a')
    (h : wpAnyR P md ops Q R fuel l' a' w) : wpAnyR P md ops Q R (fuel + 1) l a w := by
  subst ha
  subst hN
  simp only [takeB, Bool.and_eq_true, beq_iff_eq] at hc
  obtain ⟨⟨⟨⟨⟨h1, h2⟩, h3⟩, h4⟩, h5⟩, h6⟩ := hc
  subst h6
  exact wpAnyR_first hRr hRS hi (Region.noSelect_spec h1) hQ ops.size fuel l a w (Region.free_spec hi h2) (Region.closedB_spec h4)
    (fun d hm hun => by have := List.all_eq_true.1 h5 d hm; rw [hun] at this; simpa using this) (by simpa using h3) hy hS h
/-- One operation alone may come up now: it is run, R is shown behind it. -/
theorem oneR_ {i : Nat} {N : Option Tmp} {oi : Oper} {fuel : Nat} {l : Array Bool} {a : Act} {w : World} (l' : Array Bool) (hi : ops[i]? = some oi) (hN : oi.dst = N) (hc : readyB md ops l l' i = true)
    (h : ∀ K : Act → World → Prop, Shut (∀ a' w', R i w w' → wpAnyR P md ops Q R fuel l' a' w' → K a' w') → if Region.wanted oi (yielded ops a.tmps) = true then Oper.wp P oi a w K Q else K (a.put N undef) w) :
    wpAnyR P md ops Q R (fuel + 1) l a w := by
  subst hN
  simp only [readyB, Bool.and_eq_true, beq_iff_eq] at hc
  obtain ⟨h1, h2⟩ := hc
  subst h2
  refine ⟨fun h0 => (by rw [h1] at h0; cases h0), fun j hj => ?_⟩
  rw [h1] at hj
  obtain rfl := List.mem_singleton.1 hj
  exact wpOp_step hi (fun K hK => h K (fun a w hr hW => hK a w ⟨hr, hW⟩))
theorem doneR_ {l : Array Bool} {a : Act} {w : World} {n : Nat} (hr : (Region.ready md ops l == []) = true) (h : Q .normal a w) : wpAnyR P md ops Q R n l a w := by
  have hr' : Region.ready md ops l = [] := by simpa using hr
  cases n with
  | zero => exact ⟨hr', h⟩
  | succ n => exact ⟨fun _ => h, by rw [hr']; simp⟩
theorem normR_ {fuel : Nat} {l : Array Bool} {a a' : Act} {w : World} (ha : a = a') (h : wpAnyR P md ops Q R fuel l a' w) : wpAnyR P md ops Q R fuel l a w := by
  subst ha
  exact h
theorem Act.put_comm {a : Act} {m n : Tmp} (h : m ≠ n) (u v : Value) : (a.put (some m) u).put (some n) v = (a.put (some n) v).put (some m) u := by
  simp only [Act.put]
  rw [Array.setIfInBounds_comm _ _ h]
def pairB (md : Region.Mode) (ops : Array Oper) (l li lj l' : Array Bool) (i j : Nat) : Bool :=
  Region.ready md ops l == [i, j] && l.setIfInBounds i true == li && l.setIfInBounds j true == lj && Region.ready md ops li == [j] && Region.ready md ops lj == [i] && li.setIfInBounds j true == l' && lj.setIfInBounds i true == l'
/-- Two calls may come up in either order; what follows is shown once, in whatever world meets G. -/
theorem twoR_ {i j : Nat} {Ni Nj : Tmp} {oi oj : Oper} {fuel : Nat} {l : Array Bool} {a : Act} {w : World} (li lj l' : Array Bool) (vi vj : Value) (G : World → Prop) (hi : ops[i]? = some oi) (hj : ops[j]? = some oj) (hNi : oi.dst = some Ni) (hNj : oj.dst = some Nj) (hne : Ni ≠ Nj)
    (hc : pairB md ops l li lj l' i j = true) (hw : G w)
    (si : ∀ w (K : Act → World → Prop), G w → (∀ w', G w' → R i w w' → K (a.put (some Ni) vi) w') → if Region.wanted oi (yielded ops a.tmps) = true then Oper.wp P oi a w K Q else K (a.put (some Ni) undef) w)
    (sj' : ∀ w (K : Act → World → Prop), G w → (∀ w', G w' → R j w w' → K ((a.put (some Ni) vi).put (some Nj) vj) w') → if Region.wanted oj (yielded ops (a.put (some Ni) vi).tmps) = true then Oper.wp P oj (a.put (some Ni) vi) w K Q else K ((a.put (some Ni) vi).put (some Nj) undef) w)
    (sj : ∀ w (K : Act → World → Prop), G w → (∀ w', G w' → R j w w' → K (a.put (some Nj) vj) w') → if Region.wanted oj (yielded ops a.tmps) = true then Oper.wp P oj a w K Q else K (a.put (some Nj) undef) w)
    (si' : ∀ w (K : Act → World → Prop), G w → (∀ w', G w' → R i w w' → K ((a.put (some Nj) vj).put (some Ni) vi) w') → if Region.wanted oi (yielded ops (a.put (some Nj) vj).tmps) = true then Oper.wp P oi (a.put (some Nj) vj) w K Q else K ((a.put (some Nj) vj).put (some Ni) undef) w)
    (h : ∀ w', G w' → wpAnyR P md ops Q R fuel l' ((a.put (some Ni) vi).put (some Nj) vj) w') : wpAnyR P md ops Q R (fuel + 2) l a w := by
  simp only [pairB, Bool.and_eq_true, beq_iff_eq] at hc
  obtain ⟨⟨⟨⟨⟨⟨h1, h2⟩, h3⟩, h4⟩, h5⟩, h6⟩, h7⟩ := hc
  subst h2
  subst h3
  refine ⟨fun h0 => (by rw [h1] at h0; cases h0), fun k hk => ?_⟩
  rw [h1] at hk
  rcases List.mem_cons.1 hk with rfl | hk
  · refine wpOp_step hi (fun K hK => ?_)
    rw [hNi]
    refine si w K hw (fun w' hg hr => hK _ _ ⟨hr, ?_⟩)
    refine ⟨fun h0 => (by rw [h4] at h0; cases h0), fun k2 hk2 => ?_⟩
    rw [h4] at hk2
    obtain rfl := List.mem_singleton.1 hk2
    refine wpOp_step hj (fun K2 hK2 => ?_)
    rw [hNj]
    refine sj' w' K2 hg (fun w'' hg' hr' => hK2 _ _ ⟨hr', ?_⟩)
    rw [h6]
    exact h w'' hg'
  · obtain rfl := List.mem_singleton.1 hk
    refine wpOp_step hj (fun K hK => ?_)
    rw [hNj]
    refine sj w K hw (fun w' hg hr => hK _ _ ⟨hr, ?_⟩)
    refine ⟨fun h0 => (by rw [h5] at h0; cases h0), fun k2 hk2 => ?_⟩
    rw [h5] at hk2
    obtain rfl := List.mem_singleton.1 hk2
    refine wpOp_step hi (fun K2 hK2 => ?_)
    rw [hNi]
    refine si' w' K2 hg (fun w'' hg' hr' => hK2 _ _ ⟨hr', ?_⟩)
    rw [h7, Act.put_comm hne.symm]
    exact h w'' hg'
end
end Go.Proofs.Ytplhilglokbplaa
