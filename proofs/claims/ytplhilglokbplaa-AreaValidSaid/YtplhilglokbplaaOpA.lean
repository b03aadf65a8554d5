/- What reads as data of a type is of the kind that the walks speak of: whole numbers, bools, strings, structs, arrays and slices of these. -/
import Derived.Test.YtplhilglokbplaaQt
import Derived.ChangeArms
import Derived.ChangeSame
import Derived.OpenShut
namespace Go.Proofs.Ytplhilglokbplaa
open Go.RowKit Go.WideShapes Go.Proofs.YtplhilglokbplaaW.PrintWords Go.Proofs.YtplhilglokbplaaW.PrintLast Go.Proofs.YtplhilglokbplaaW.PrintMore PAll
set_option linter.unusedVariables false
set_option linter.unusedSimpArgs false

def Opens (P : Program) (t : TypeId) {α : Type} (d : Kd α) (G : α → Prop) : Prop :=
  P.cellsOf t = d.sz ∧ ∀ {H : Type} (enc : TypeId × Value → H) (w : World) (spare : Nat → Bool) (held : Bool) (fuel : Nat) (cs : List Value) (x : DataW H × List MemPlace),
    DataW.trod enc P w 0 spare held fuel t cs = some x → ∃ y, G y ∧ d.K w y cs
def OpensFs (P : Program) (fs : List (TypeId × Nat)) (off : Nat) {α : Type} (d : Kd α) (G : α → Prop) : Prop :=
  ∀ {H : Type} (enc : TypeId × Value → H) (w : World) (spare : Nat → Bool) (held : Bool) (m : Nat) (cs : List Value) (xs : List (DataW H × List MemPlace)),
    xs.length = fs.length → (∀ (i : Nat) (f : TypeId × Nat), fs[i]? = some f → DataW.trod enc P w 0 spare held m f.1 ((cs.drop f.2).take (P.cellsOf f.1)) = xs[i]?) → cs.length = off + d.sz → ∃ y, G y ∧ d.K w y (cs.drop off)
section
variable {P : Program} {t e : TypeId} {α β : Type} {d : Kd α} {d2 : Kd β} {G : α → Prop} {G2 : β → Prop}

theorem Opens.int {k : IntKind} (ht : P.underlying t = some (.int k)) (hs : P.cellsOf t = 1) : Opens P t (Kd.int k) (fun n => (Lit.int k n).wf = true) := by
  refine ⟨hs, fun enc w spare held fuel cs x h => ?_⟩
  obtain ⟨a, ea, _, wa⟩ := DataW.trod_int ht h
  exact ⟨a, wa, ea⟩
theorem Opens.bool (ht : P.underlying t = some .bool) (hs : P.cellsOf t = 1) : Opens P t Kd.bool (fun _ => True) := by
  refine ⟨hs, fun enc w spare held fuel cs x h => ?_⟩
  cases fuel with
  | zero => simp [DataW.trod] at h
  | succ m =>
    unfold DataW.trod at h
    rw [ht] at h
    split at h <;> simp_all
    rename_i b
    show [Value.bool b] = [Value.bool false] ∨ [Value.bool b] = [Value.bool true]
    cases b <;> simp
theorem Opens.string (ht : P.underlying t = some .string) (hs : P.cellsOf t = 1) : Opens P t Kd.string (fun s => s.size ≤ maxLen) := by
  refine ⟨hs, fun enc w spare held fuel cs x h => ?_⟩
  cases fuel with
  | zero => simp [DataW.trod] at h
  | succ m =>
    unfold DataW.trod at h
    rw [ht] at h
    split at h <;> simp_all
    exact ⟨_, h.1, rfl⟩
theorem cells_get {w : World} {base : Nat} {a : Addr} {n : Nat} {row : List Value} (h : w.cells? base a n = some row) : row.length = n ∧ ∀ i, i < n → w.cell? (a.add i) = row[i]? := by
  unfold World.cells? at h
  split at h
  · exact ⟨by simpa using mapM_some_length h, fun i hi => mapM_some_get h i i (by simp [hi])⟩
  · simp at h
theorem add_add_ (a : Addr) (i j : Nat) : (a.add i).add j = a.add (i + j) := by
  unfold Addr.add
  by_cases hi : i = 0
  · subst hi; simp
  · by_cases hj : j = 0
    · subst hj; simp
    · rw [if_neg hi, if_neg hj, if_neg (by omega)]; simp [Nat.add_assoc]
theorem Opens.slice (ht : P.underlying t = some (.slice e)) (hs : P.cellsOf t = 1) (he : Opens P e d G) : Opens P t (Kd.slice e d) (fun l => ∀ x ∈ l, G x) := by
  refine ⟨hs, fun enc w spare held fuel cs x h => ?_⟩
  rcases DataW.trod_slice ht h with ⟨rfl, _⟩ | ⟨a, len, cap, elems, rest, n, _, rfl, _, _, hl, hc, hlen, hel, _, _⟩
  · exact ⟨[], by simp, none, 0, rfl, Nat.zero_le _, rfl, by simp, fun h => absurd h (by simp)⟩
  · have key : ∀ i : Fin len, ∃ y, G y ∧ ∃ row, row.length = d.sz ∧ d.K w y row ∧ ∀ j u, row[j]? = some u → w.cell? (a.add (i * d.sz + j)) = some u := by
      intro i
      have h1 := hel i i.2
      rw [List.getElem?_eq_getElem (by omega)] at h1
      obtain ⟨row, h2, h3⟩ := Option.bind_eq_some_iff.1 h1
      obtain ⟨y, hy, hk⟩ := he.2 enc w spare held n row _ h3
      obtain ⟨h4, h5⟩ := cells_get h2
      refine ⟨y, hy, row, h4.trans he.1, hk, fun j u hu => ?_⟩
      have hj : j < row.length := (List.getElem?_eq_some_iff.1 hu).1
      have h6 := h5 j (by omega)
      rw [add_add_, he.1] at h6
      rw [h6, hu]
    obtain ⟨f, hf⟩ := Classical.axiomOfChoice key
    have hlen2 : (List.ofFn f).length = len := by simp
    refine ⟨List.ofFn f, ?_, some a, cap, by rw [hlen2], by rw [hlen2]; exact hl, rfl, ?_, fun _ => ⟨a, rfl, fun j p hj => ?_⟩⟩
    · intro x hx
      obtain ⟨i, rfl⟩ := List.mem_ofFn.1 hx
      exact (hf i).1
    · rw [hlen2]; unfold maxLen at hc; omega
    · have hj2 : j < len := by
        have := (List.getElem?_eq_some_iff.1 hj).1
        omega
      rw [List.getElem?_eq_getElem (by omega), List.getElem_ofFn] at hj
      simp only [Option.some.injEq] at hj
      subst hj
      obtain ⟨_, row, h1, h2, h3⟩ := hf ⟨j, hj2⟩
      exact ⟨row, h1, h2, h3⟩
theorem OpensFs.one (h : Opens P t d G) (off : Nat) : OpensFs P [(t, off)] off d G := by
  intro H enc w spare held m cs xs hx hf hl
  have h1 := hf 0 _ rfl
  dsimp only at h1
  rw [h.1, List.take_of_length_le (by rw [List.length_drop]; omega), List.getElem?_eq_getElem (by rw [hx]; simp)] at h1
  exact h.2 enc w spare held m _ _ h1
theorem OpensFs.cons {fs : List (TypeId × Nat)} {off : Nat} (h : Opens P t d G) (hr : OpensFs P fs (off + d.sz) d2 G2) : OpensFs P ((t, off) :: fs) off (Kd.pair d d2) (fun x => G x.1 ∧ G2 x.2) := by
  intro H enc w spare held m cs xs hx hf hl
  have hl' : cs.length = off + (d.sz + d2.sz) := hl
  have h1 := hf 0 _ rfl
  dsimp only at h1
  rw [h.1, List.getElem?_eq_getElem (by rw [hx]; simp)] at h1
  obtain ⟨y, hy, hk⟩ := h.2 enc w spare held m _ _ h1
  obtain ⟨y2, hy2, hk2⟩ := hr enc w spare held m cs xs.tail (by rw [List.length_tail, hx]; simp) (fun i f hi => by
    rw [hf (i + 1) f (by simpa using hi)]
    simp) (by omega)
  refine ⟨(y, y2), ⟨hy, hy2⟩, (cs.drop off).take d.sz, cs.drop (off + d.sz), ?_, hk, hk2⟩
  rw [← List.drop_drop, List.take_append_drop]
theorem Opens.struct {fs : Array Field} {l : List (TypeId × Nat)} (ht : P.underlying t = some (.struct fs)) (hl : fs.toList.map (fun f => (f.type, f.offset)) = l) (hs : P.cellsOf t = d.sz) (h : OpensFs P l 0 d G) : Opens P t d G := by
  refine ⟨hs, fun enc w spare held fuel cs x hx => ?_⟩
  obtain ⟨xs, n, _, _, h1, h2, h3⟩ := DataW.trod_struct ht hx
  subst hl
  have := h enc w spare held n cs xs (by rw [h2]; simp) (fun i f hi => by
    rw [List.getElem?_map] at hi
    obtain ⟨g, hg, rfl⟩ := Option.map_eq_some_iff.1 hi
    exact h3 i g (by simpa using hg)) (by omega)
  simpa using this
theorem Opens.iso {f : β → α} (h : Opens P t d G) (hf : ∀ a, ∃ b, f b = a) : Opens P t (Kd.iso d f) (fun b => G (f b)) := by
  refine ⟨h.1, fun enc w spare held fuel cs x hx => ?_⟩
  obtain ⟨y, hy, hk⟩ := h.2 enc w spare held fuel cs x hx
  obtain ⟨b, rfl⟩ := hf y
  exact ⟨b, hy, hk⟩
theorem Opens.array {n : Nat} {l : List (TypeId × Nat)} (ht : P.underlying t = some (.array n e)) (hl : (List.range n).map (fun i => (e, i * P.cellsOf e)) = l) (hs : P.cellsOf t = d.sz) (h : OpensFs P l 0 d G) : Opens P t d G := by
  refine ⟨hs, fun enc w spare held fuel cs x hx => ?_⟩
  obtain ⟨xs, m, _, _, h1, h2, h3⟩ := DataW.trod_array ht hx
  subst hl
  have := h enc w spare held m cs xs (by rw [h2]; simp) (fun i f hi => by
    rw [List.getElem?_map] at hi
    obtain ⟨g, hg, rfl⟩ := Option.map_eq_some_iff.1 hi
    obtain ⟨hg1, rfl⟩ := List.getElem?_eq_some_iff.1 hg
    simp only [List.getElem_range]
    exact h3 i (by simpa using hg1)) (by omega)
  simpa using this
theorem Opens.mono {G' : α → Prop} (h : Opens P t d G) (hG : ∀ x, G x → G' x) : Opens P t d G' :=
  ⟨h.1, fun enc w spare held fuel cs x hx => by
    obtain ⟨y, hy, hk⟩ := h.2 enc w spare held fuel cs x hx
    exact ⟨y, hG y hy, hk⟩⟩
end
/-- An array's value: cells in one row. -/
theorem okWide_array {P : Program} {w : World} {r : Reach} {b0 n : Nat} {t e : TypeId} {v : Value} (ht : P.underlying t = some (.array n e)) (h : Value.okWide P w r b0 t v) : ∃ cs, v = .agg cs ∧ cs.size = P.cellsOf t := by
  simp only [Value.okWide, ht] at h
  obtain ⟨cs, h1, h2, _⟩ := h
  exact ⟨cs, h1, h2⟩
end Go.Proofs.Ytplhilglokbplaa
