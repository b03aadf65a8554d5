/- What AreaValid says: for every board, every list of pairs of bytes and every four numbers the law returns true; what it was given reads as it did. -/
import Derived.Test.YtplhilglokbplaaRows
import Derived.Test.YtplhilglokbplaaAvA
import Derived.Test.YtplhilglokbplaaOpA
import Derived.WalkKit
import Derived.ProofKit
import Derived.OpenShut
import Derived.ShutString
import Derived.ChangeOld
import Derived.Below
import Derived.SizedLaws
namespace Go.Proofs.Ytplhilglokbplaa
open Go.ChangeShapes Go.WideShapes Go.ChangeAt Go.RowKit Go.Proofs.YtplhilglokbplaaW.PrintWords Go.Proofs.YtplhilglokbplaaW.PrintLast Go.Proofs.YtplhilglokbplaaW.PrintMore PAll
set_option linter.unusedVariables false
theorem opens5 : Opens Try.prog 5 (Kd.int .u8) (fun n => (Lit.int .u8 n).wf = true) := Opens.int Try.underlying5 (by kernel_rfl)
theorem opens3 : Opens Try.prog 3 (Kd.int .i64) (fun n => (Lit.int .i64 n).wf = true) := Opens.int Try.underlying3 (by kernel_rfl)
theorem opens9 : Opens Try.prog 9 Kd.string (fun s => s.size ≤ maxLen) := Opens.string Try.underlying9 (by kernel_rfl)
theorem opens28 : Opens Try.prog 28 (Kd.int .i16) (fun n => (Lit.int .i16 n).wf = true) := Opens.int Try.underlying28 (by kernel_rfl)
theorem opens36 : Opens Try.prog 36 k36 (fun _ => True) :=
  (Opens.iso (Opens.struct Try.underlying36 rfl (by kernel_rfl) (OpensFs.cons opens5 (OpensFs.cons opens3 (OpensFs.cons opens3 (OpensFs.cons opens3 (OpensFs.one opens3 _)))))) (fun a => ⟨⟨a.1, a.2.1, a.2.2.1, a.2.2.2.1, a.2.2.2.2⟩, rfl⟩)).mono fun _ _ => trivial
theorem opens89 : Opens Try.prog 89 k89 (fun _ => True) :=
  (Opens.iso (Opens.struct Try.underlying89 rfl (by kernel_rfl) (OpensFs.cons opens3 (OpensFs.one opens3 _))) (fun a => ⟨⟨a.1, a.2⟩, rfl⟩)).mono fun _ _ => trivial
theorem opens31 : Opens Try.prog 31 (Kd.slice 89 k89) (fun _ => True) := (Opens.slice Try.underlying31 (by kernel_rfl) opens89).mono fun _ _ => trivial
theorem opens33 : Opens Try.prog 33 k33 (fun _ => True) :=
  (Opens.iso (Opens.struct Try.underlying33 rfl (by kernel_rfl) (OpensFs.cons opens5 (OpensFs.one opens31 _))) (fun a => ⟨⟨a.1, a.2⟩, rfl⟩)).mono fun _ _ => trivial
theorem opens39 : Opens Try.prog 39 k39 (fun x => x.f0.size ≤ maxLen) :=
  (Opens.iso (Opens.struct Try.underlying39 rfl (by kernel_rfl) (OpensFs.cons opens9 (OpensFs.one opens5 _))) (fun a => ⟨⟨a.1, a.2⟩, rfl⟩)).mono fun _ h => h.1
theorem opens26 : Opens Try.prog 26 (Kd.pair (Kd.slice 36 k36) (Kd.pair (Kd.slice 33 k33) (Kd.slice 39 k39))) (fun x => ∀ y ∈ x.2.2, y.f0.size ≤ maxLen) :=
  (Opens.struct Try.underlying26 rfl (by kernel_rfl) (OpensFs.cons (Opens.slice Try.underlying22 (by kernel_rfl) opens36) (OpensFs.cons (Opens.slice Try.underlying23 (by kernel_rfl) opens33) (OpensFs.one (Opens.slice Try.underlying24 (by kernel_rfl) opens39) _)))).mono fun _ h => h.2.2
theorem opens46 : Opens Try.prog 46 kB2 (fun x => (Lit.int .u8 x.1).wf = true ∧ (Lit.int .u8 x.2).wf = true) :=
  Opens.array (n := 2) Try.underlying46 (by rw [show Try.prog.cellsOf 5 = 1 by kernel_rfl]; rfl) (by kernel_rfl) (OpensFs.cons opens5 (OpensFs.one opens5 _))
theorem opens27 : Opens Try.prog 27 (Kd.slice 46 kB2) (fun l => ∀ x ∈ l, (Lit.int .u8 x.1).wf = true ∧ (Lit.int .u8 x.2).wf = true) := Opens.slice Try.underlying27 (by kernel_rfl) opens46
theorem opens29 : Opens Try.prog 29 (Kd.pair (Kd.int .i16) (Kd.pair (Kd.int .i16) (Kd.pair (Kd.int .i16) (Kd.int .i16)))) (fun x => (Lit.int .i16 x.1).wf = true ∧ (Lit.int .i16 x.2.1).wf = true ∧ (Lit.int .i16 x.2.2.1).wf = true ∧ (Lit.int .i16 x.2.2.2).wf = true) :=
  Opens.array (n := 4) Try.underlying29 (by rw [show Try.prog.cellsOf 28 = 1 by kernel_rfl]; rfl) (by kernel_rfl) (OpensFs.cons opens28 (OpensFs.cons opens28 (OpensFs.cons opens28 (OpensFs.one opens28 _))))
theorem isB_of {l : List B2} (h : ∀ x ∈ l, (Lit.int .u8 x.1).wf = true ∧ (Lit.int .u8 x.2).wf = true) : IsB l := by
  intro i
  rw [List.getD_eq_getElem?_getD]
  rcases e : l[i]? with _ | x
  · simp
  · have := h x (List.mem_of_getElem? e)
    have h1 := bounds_u8 this.1
    have h2 := bounds_u8 this.2
    simp only [Option.getD_some]
    omega
theorem iC_of {lc : List S39} (h : ∀ y ∈ lc, y.f0.size ≤ maxLen) : ∀ i, iC (rd_T39 lc i) := by
  intro i
  unfold iC rd_T39
  rw [List.getD_eq_getElem?_getD]
  rcases e : lc[i.toNat]? with _ | x
  · decide
  · have := h x (List.mem_of_getElem? e)
    unfold maxLen at this
    simp only [Option.getD_some]
    omega
theorem own : ownKnob Try.prog.godebug = none := by kernel_rfl
theorem laidOut : laidOutB Try.prog = true := by kernel_rfl
namespace areaValid
set_option maxRecDepth 100000 in
theorem lifted (os : Os) (started : os.Started) (H : Type) (enc : TypeId × Value → H) :
    ReturnsInHanded {} Try.checked os 3 .any (Rows.areaValidSpec.pre6 enc Try.prog Try.f3 Rows.areaValidRow.domain false) (Rows.areaValidSpec.post enc Try.prog Try.f3 false true false false) := by
  refine returnsInHanded_of_change_sized (C := Try.checked) own started (by kernel_rfl) Try.func3
    (ChangeSpec.witness6 (enc := enc) (C := Try.checked) false ⟨#[], #[.agg #[.slice none 0 0, .slice none 0 0, .slice none 0 0], .slice none 0 0, .agg #[.int .i16 0, .int .i16 0, .int .i16 0, .int .i16 0]], []⟩ 8 (by kernel_rfl) (by kernel_rfl) (by kernel_rfl) (by kernel_rfl)) ?_
  intro W base args ds gs before hval0 hW hcnd hsz0 _
  have hval : ∀ (j : Nat) t v, Try.f3.params[j]? = some t → args[j]? = some v → Value.okWide Try.prog W .any base t v := hval0
  have hW' := hW
  obtain ⟨p, q, hA0, hV, rfl, hfz, hnd⟩ := hW
  have hA : DataW.TrodAll enc Try.prog W 0 (fun _ => true) true Try.f3.params.toList args.toList ds p := hA0
  rw [Try.params3] at hA hval
  obtain ⟨v0, vs0, d0, ds0, p0, q0, hargs, rfl, rfl, h0, r0⟩ := trodAll_cons hA
  obtain ⟨v1, vs1, d1, ds1, p1, q1, rfl, rfl, rfl, h1, r1⟩ := trodAll_cons r0
  obtain ⟨v2, vs2, d2, ds2, p2, q2, rfl, rfl, rfl, h2, r2⟩ := trodAll_cons r1
  obtain ⟨rfl, rfl, rfl⟩ := trodAll_nil r2
  obtain rfl : args = #[v0, v1, v2] := by cases args; simp_all
  obtain ⟨rfl, rfl⟩ := trodVars_none hV
  obtain ⟨c0, rfl, _⟩ := okWide_struct Try.underlying26 (hval 0 26 v0 rfl rfl)
  obtain ⟨a1, n1, k1, rfl⟩ := okWide_slice Try.underlying27 (hval 1 27 v1 rfl rfl)
  obtain ⟨c2, rfl, _⟩ := okWide_array Try.underlying29 (hval 2 29 v2 rfl rfl)
  have t0 := h0
  have t1 := h1
  have t2 := h2
  have lt0 : ∀ x ∈ p0, x.block < W.heap.size := by obtain ⟨m, hm⟩ := t0; exact DataW.trod_lt m _ _ _ hm
  have lt1 : ∀ x ∈ p1, x.block < W.heap.size := by obtain ⟨m, hm⟩ := t1; exact DataW.trod_lt m _ _ _ hm
  have lt2 : ∀ x ∈ p2, x.block < W.heap.size := by obtain ⟨m, hm⟩ := t2; exact DataW.trod_lt m _ _ _ hm
  obtain ⟨f0, h0⟩ := h0
  obtain ⟨f1, h1⟩ := h1
  obtain ⟨f2, h2⟩ := h2
  obtain ⟨⟨la, lt, lc⟩, g0, e0, e0', ec0, ⟨A, a, rfl, hca, hA3⟩, e1, e1', rfl, ⟨B, b, rfl, hcb, hB⟩, ⟨C, c, rfl, hcc, hC⟩⟩ := opens26.2 enc W _ _ f0 _ _ h0
  obtain ⟨l, g1, A1, b1, ec1, hcl, hL⟩ := opens27.2 enc W _ _ f1 _ _ h1
  obtain ⟨⟨x0, x1, x2, x3⟩, g2, _, _, ec2, rfl, _, _, rfl, rfl, _, _, rfl, rfl, rfl⟩ := opens29.2 enc W _ _ f2 _ _ h2
  obtain rfl : c0 = #[.slice A la.length a, .slice B lt.length b, .slice C lc.length c] := by
    have : c0.toList = _ := ec0
    cases c0; simpa using this
  obtain rfl : c2 = #[.int .i16 x0, .int .i16 x1, .int .i16 x2, .int .i16 x3] := by
    have : c2.toList = _ := ec2
    cases c2; simpa using this
  obtain ⟨rfl, rfl, rfl⟩ : a1 = A1 ∧ n1 = l.length ∧ k1 = b1 := by simpa [Value.cells] using ec1
  clear hA0 hval0 hsz0
  refine (area_valid_any W A B C a b c la lt lc hA3 hca hB hcb hC hcc (iC_of g0) a1 k1 l hL (isB_of g1) x0 x1 x2 x3 (bounds_i16 g2.1) (bounds_i16 g2.2.1) (bounds_i16 g2.2.2.1) (bounds_i16 g2.2.2.2)).mono fun e W' ⟨he, bel⟩ => ?_
  subst he
  exact ⟨_, rfl, _, _, _, [], _, [], hW', trodAll_mk1 (shut_bool Try.underlying4 _), (trodAll_cons_mk (Below.trod laidOut (by kernel_rfl) (of_decide_eq_true (by kernel_rfl)) t0 bel lt0) (trodAll_cons_mk (Below.trod laidOut (by kernel_rfl) (of_decide_eq_true (by kernel_rfl)) t1 bel lt1) (trodAll_cons_mk (Below.trod laidOut (by kernel_rfl) (of_decide_eq_true (by kernel_rfl)) t2 bel lt2) trodAll_mk0))), rfl, bel.frame _, fun h => by cases h⟩
theorem over : Rows.areaValidRow.holds Try.pinned (OpenSpec.ofChange Rows.areaValidSpec) :=
  OpenClaim.holds_of_wide 3 Try.f3 rfl rfl rfl rfl rfl rfl rfl ⟨rfl, rfl, rfl, rfl, rfl⟩ rfl rfl rfl rfl rfl (by kernel_rfl) Try.func3 (by kernel_rfl)
    (of_decide_eq_true (by kernel_rfl)) (by unfold Func.isWrapper; first | (rw [if_pos (by decide +kernel)]; kernel_rfl) | (rw [if_neg (by decide +kernel)]; exact ⟨rfl, rfl⟩))
    (fun os started H enc _ => lifted os started H enc)
end areaValid
/-- For every board, every list of pairs of bytes and every four numbers AreaValid returns true. -/
theorem areaValid_holds : Rows.AreaValidSaid := areaValid.over
#print axioms areaValid_holds
end Go.Proofs.Ytplhilglokbplaa
