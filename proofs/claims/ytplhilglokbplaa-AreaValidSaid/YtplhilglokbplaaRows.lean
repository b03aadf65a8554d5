/-
  No cell of these rows narrows 'for every input' (looked for: loops, veiled, ifaces, maps, wideKeys, modest, calm, conditions, laid).
  DERIVED. THE GIVEN ROWS OF THIS SEAT. 7 by the template 'for every input the law returns true; each argument reads behind the call as it read before'; 0 by the template 'total and deterministic' (their statements: YtplhilglokbplaaTotals.lean).
  GIVEN WITH THE SEED: the statements are not yours to turn. If you find one false, say at which input.
  Laid BY PROGRAM, IN A SANDBOX (cutbox-rows.mjs): the forced cells as the released guide's own fill.sh prints them over the translation 075897082db3077b… (all of the seat's roots in one cut). By AI agents, Wed Nov 11 2026. No macro, syntax, notation, axiom, sorry.
-/
import Derived.Test.YtplhilglokbplaaChecked
import GoSem.Claim
import GoSem.ClaimJoined
import GoSem.ClaimMapViews
import Derived.JoinedTies
import Derived.KernelRfl
namespace Go.Proofs.Ytplhilglokbplaa
/- THE CELL 'sum', in the pinned program and in every row, IS THE sha256 OF THE DUMP (.gsa) THAT YtplhilglokbplaaProg.lean LOADS. Nothing in Lean hashes anything: it is a label: what it is worth is what the hold of that sum in a sandbox is worth. -/
noncomputable def Try.pinned : Pinned := { name := "ytplhilglokbplaa", sum := "075897082db3077b5475497842ce83960070267663436131d2a3c9e5219cb65c", checked := Try.checked }
namespace Rows
def none {H : Type} : Left H := { results := [], args := [] }

/-- 'syllabarylaw21.AreaValid': WHATEVER THE INPUT: true; the input reads as it did. -/
def areaValidSpec : ChangeSpec := { name := "areaValid", fn := fun _ => fun
  | [d1, d2, d3] => { results := [.lit (.bool true)], args := [d1, d2, d3] }
  | _ => none }
def areaValidRow : OpenClaim := { program := "ytplhilglokbplaa", sum := "075897082db3077b5475497842ce83960070267663436131d2a3c9e5219cb65c", func := "syllabary/syllabarylaw21.AreaValid", spec := "areaValid", inPlace := ["slices.overlaps[syllabary/api.Tap]"], unfollowed := true, recurses := true, plainKeys := false, apart := false }
def AreaValidSaid : Prop := areaValidRow.holds Try.pinned (OpenSpec.ofChange areaValidSpec)

/-- ITS FALSE NEIGHBOUR: 'it returns false'. Refute it at one input. -/
def areaValidWrong : ChangeSpec := { name := "areaValid", fn := fun _ => fun
  | [d1, d2, d3] => { results := [.lit (.bool false)], args := [d1, d2, d3] }
  | _ => none }
def AreaValidWrongFalsely : Prop := areaValidRow.holds Try.pinned (OpenSpec.ofChange areaValidWrong)

/-- 'syllabarylaw05.OutputOrders': WHATEVER THE INPUT: true; the input reads as it did. -/
def outputOrdersSpec : ChangeSpec := { name := "outputOrders", fn := fun _ => fun
  | [d1, d2, d3] => { results := [.lit (.bool true)], args := [d1, d2, d3] }
  | _ => none }
def outputOrdersRow : OpenClaim := { program := "ytplhilglokbplaa", sum := "075897082db3077b5475497842ce83960070267663436131d2a3c9e5219cb65c", func := "syllabary/syllabarylaw05.OutputOrders", spec := "outputOrders", unfollowed := true, recurses := true, plainKeys := false, apart := false }
def OutputOrdersSaid : Prop := outputOrdersRow.holds Try.pinned (OpenSpec.ofChange outputOrdersSpec)

/-- ITS FALSE NEIGHBOUR: 'it returns false'. Refute it at one input. -/
def outputOrdersWrong : ChangeSpec := { name := "outputOrders", fn := fun _ => fun
  | [d1, d2, d3] => { results := [.lit (.bool false)], args := [d1, d2, d3] }
  | _ => none }
def OutputOrdersWrongFalsely : Prop := outputOrdersRow.holds Try.pinned (OpenSpec.ofChange outputOrdersWrong)

/-- 'syllabarylaw05.OutputLimits': WHATEVER THE INPUT: true; the input reads as it did. -/
def outputLimitsSpec : ChangeSpec := { name := "outputLimits", fn := fun _ => fun
  | [d1, d2] => { results := [.lit (.bool true)], args := [d1, d2] }
  | _ => none }
def outputLimitsRow : OpenClaim := { program := "ytplhilglokbplaa", sum := "075897082db3077b5475497842ce83960070267663436131d2a3c9e5219cb65c", func := "syllabary/syllabarylaw05.OutputLimits", spec := "outputLimits", unfollowed := true, recurses := true, plainKeys := false, apart := false }
def OutputLimitsSaid : Prop := outputLimitsRow.holds Try.pinned (OpenSpec.ofChange outputLimitsSpec)

/-- ITS FALSE NEIGHBOUR: 'it returns false'. Refute it at one input. -/
def outputLimitsWrong : ChangeSpec := { name := "outputLimits", fn := fun _ => fun
  | [d1, d2] => { results := [.lit (.bool false)], args := [d1, d2] }
  | _ => none }
def OutputLimitsWrongFalsely : Prop := outputLimitsRow.holds Try.pinned (OpenSpec.ofChange outputLimitsWrong)

/-- 'syllabarylaw08.SingleOrders': WHATEVER THE INPUT: true; the input reads as it did. -/
def singleOrdersSpec : ChangeSpec := { name := "singleOrders", fn := fun _ => fun
  | [d1, d2, d3] => { results := [.lit (.bool true)], args := [d1, d2, d3] }
  | _ => none }
def singleOrdersRow : OpenClaim := { program := "ytplhilglokbplaa", sum := "075897082db3077b5475497842ce83960070267663436131d2a3c9e5219cb65c", func := "syllabary/syllabarylaw08.SingleOrders", spec := "singleOrders", unfollowed := true, recurses := true, plainKeys := false, apart := false }
def SingleOrdersSaid : Prop := singleOrdersRow.holds Try.pinned (OpenSpec.ofChange singleOrdersSpec)

/-- ITS FALSE NEIGHBOUR: 'it returns false'. Refute it at one input. -/
def singleOrdersWrong : ChangeSpec := { name := "singleOrders", fn := fun _ => fun
  | [d1, d2, d3] => { results := [.lit (.bool false)], args := [d1, d2, d3] }
  | _ => none }
def SingleOrdersWrongFalsely : Prop := singleOrdersRow.holds Try.pinned (OpenSpec.ofChange singleOrdersWrong)

/-- 'syllabarylaw08.SingleLong': WHATEVER THE INPUT: true; the input reads as it did. -/
def singleLongSpec : ChangeSpec := { name := "singleLong", fn := fun _ => fun
  | [d] => { results := [.lit (.bool true)], args := [d] }
  | _ => none }
def singleLongRow : OpenClaim := { program := "ytplhilglokbplaa", sum := "075897082db3077b5475497842ce83960070267663436131d2a3c9e5219cb65c", func := "syllabary/syllabarylaw08.SingleLong", spec := "singleLong", unfollowed := true, recurses := true, plainKeys := false, apart := false }
def SingleLongSaid : Prop := singleLongRow.holds Try.pinned (OpenSpec.ofChange singleLongSpec)

/-- ITS FALSE NEIGHBOUR: 'it returns false'. Refute it at one input. -/
def singleLongWrong : ChangeSpec := { name := "singleLong", fn := fun _ => fun
  | [d] => { results := [.lit (.bool false)], args := [d] }
  | _ => none }
def SingleLongWrongFalsely : Prop := singleLongRow.holds Try.pinned (OpenSpec.ofChange singleLongWrong)

/-- 'syllabarytop.TopStrokesOfTemplatesAreFree': WHATEVER THE INPUT: true; the input reads as it did. -/
def topStrokesOfTemplatesAreFreeSpec : ChangeSpec := { name := "topStrokesOfTemplatesAreFree", fn := fun _ => fun
  | [d] => { results := [.lit (.bool true)], args := [d] }
  | _ => none }
def topStrokesOfTemplatesAreFreeRow : OpenClaim := { program := "ytplhilglokbplaa", sum := "075897082db3077b5475497842ce83960070267663436131d2a3c9e5219cb65c", func := "syllabary/syllabarytop.TopStrokesOfTemplatesAreFree", spec := "topStrokesOfTemplatesAreFree", unfollowed := true, recurses := true, plainKeys := false, apart := false }
def TopStrokesOfTemplatesAreFreeSaid : Prop := topStrokesOfTemplatesAreFreeRow.holds Try.pinned (OpenSpec.ofChange topStrokesOfTemplatesAreFreeSpec)

/-- ITS FALSE NEIGHBOUR: 'it returns false'. Refute it at one input. -/
def topStrokesOfTemplatesAreFreeWrong : ChangeSpec := { name := "topStrokesOfTemplatesAreFree", fn := fun _ => fun
  | [d] => { results := [.lit (.bool false)], args := [d] }
  | _ => none }
def TopStrokesOfTemplatesAreFreeWrongFalsely : Prop := topStrokesOfTemplatesAreFreeRow.holds Try.pinned (OpenSpec.ofChange topStrokesOfTemplatesAreFreeWrong)

/-- 'syllabarytop.TopAdaptedTouchesAreFree': WHATEVER THE INPUT: true; the input reads as it did. -/
def topAdaptedTouchesAreFreeSpec : ChangeSpec := { name := "topAdaptedTouchesAreFree", fn := fun _ => fun
  | [d1, d2] => { results := [.lit (.bool true)], args := [d1, d2] }
  | _ => none }
def topAdaptedTouchesAreFreeRow : OpenClaim := { program := "ytplhilglokbplaa", sum := "075897082db3077b5475497842ce83960070267663436131d2a3c9e5219cb65c", func := "syllabary/syllabarytop.TopAdaptedTouchesAreFree", spec := "topAdaptedTouchesAreFree", inPlace := ["slices.overlaps[syllabary/api.Tap]"], unfollowed := true, recurses := true, plainKeys := false, apart := false }
def TopAdaptedTouchesAreFreeSaid : Prop := topAdaptedTouchesAreFreeRow.holds Try.pinned (OpenSpec.ofChange topAdaptedTouchesAreFreeSpec)

/-- ITS FALSE NEIGHBOUR: 'it returns false'. Refute it at one input. -/
def topAdaptedTouchesAreFreeWrong : ChangeSpec := { name := "topAdaptedTouchesAreFree", fn := fun _ => fun
  | [d1, d2] => { results := [.lit (.bool false)], args := [d1, d2] }
  | _ => none }
def TopAdaptedTouchesAreFreeWrongFalsely : Prop := topAdaptedTouchesAreFreeRow.holds Try.pinned (OpenSpec.ofChange topAdaptedTouchesAreFreeWrong)

/- THE SECOND FORM. 'bulk': how many values and letters a reading holds, each counted each time it is reached (what is shared counts as often as it is met; a slice's spare places count too). A statement '..UptoSaid' is the law's where the arguments, and the package variables that the reading takes, are together of bulk at most 1048576: NARROWER than '..Said'. Prove '..Said' where nothing that the law and all that it calls make is longer than what came in: it says more and counts as full. Else prove '..UptoSaid'. A law counts once. -/
mutual
def uptoBulk {H : Type} : DataW H → Nat
  | .lit (.string bytes) => bytes.length + 1
  | .lit _ => 1
  | .nil => 1
  | .ptr d => uptoBulk d + 1
  | .slice elems spare => uptoBulkAll elems + uptoBulkAll spare + 1
  | .agg parts => uptoBulkAll parts + 1
  | .iface _ d => uptoBulk d + 1
  | .map entries => uptoBulkEntries entries + 1
  | .held _ => 1
def uptoBulkAll {H : Type} : List (DataW H) → Nat
  | [] => 0
  | d :: r => uptoBulk d + uptoBulkAll r
def uptoBulkEntries {H : Type} : List (Lit × DataW H) → Nat
  | [] => 0
  | x :: r => uptoBulkEntry x + uptoBulkEntries r
def uptoBulkEntry {H : Type} : Lit × DataW H → Nat
  | (.string bytes, d) => bytes.length + uptoBulk d + 1
  | (_, d) => uptoBulk d + 1
 end
def uptoSmall : (H : Type) → List (DataW H) → Bool := fun _ ds => decide (uptoBulkAll ds ≤ 1048576)
def OpenSpec.upto (s : _root_.Go.ChangeSpec) : _root_.Go.OpenSpec := { _root_.Go.OpenSpec.ofChange s with cond := some uptoSmall }

/-- 'syllabarylaw21.AreaValid', WHERE WHAT IT READS IS OF BULK AT MOST 1048576: true; the input reads as it did. -/
def areaValidUptoRow : OpenClaim := { program := "ytplhilglokbplaa", sum := "075897082db3077b5475497842ce83960070267663436131d2a3c9e5219cb65c", func := "syllabary/syllabarylaw21.AreaValid", spec := "areaValid", inPlace := ["slices.overlaps[syllabary/api.Tap]"], unfollowed := true, recurses := true, plainKeys := false, apart := false, narrowed := true }
def AreaValidUptoSaid : Prop := areaValidUptoRow.holds Try.pinned (OpenSpec.upto areaValidSpec)

/-- 'syllabarylaw05.OutputOrders', WHERE WHAT IT READS IS OF BULK AT MOST 1048576: true; the input reads as it did. -/
def outputOrdersUptoRow : OpenClaim := { program := "ytplhilglokbplaa", sum := "075897082db3077b5475497842ce83960070267663436131d2a3c9e5219cb65c", func := "syllabary/syllabarylaw05.OutputOrders", spec := "outputOrders", unfollowed := true, recurses := true, plainKeys := false, apart := false, narrowed := true }
def OutputOrdersUptoSaid : Prop := outputOrdersUptoRow.holds Try.pinned (OpenSpec.upto outputOrdersSpec)

/-- 'syllabarylaw05.OutputLimits', WHERE WHAT IT READS IS OF BULK AT MOST 1048576: true; the input reads as it did. -/
def outputLimitsUptoRow : OpenClaim := { program := "ytplhilglokbplaa", sum := "075897082db3077b5475497842ce83960070267663436131d2a3c9e5219cb65c", func := "syllabary/syllabarylaw05.OutputLimits", spec := "outputLimits", unfollowed := true, recurses := true, plainKeys := false, apart := false, narrowed := true }
def OutputLimitsUptoSaid : Prop := outputLimitsUptoRow.holds Try.pinned (OpenSpec.upto outputLimitsSpec)

/-- 'syllabarylaw08.SingleOrders', WHERE WHAT IT READS IS OF BULK AT MOST 1048576: true; the input reads as it did. -/
def singleOrdersUptoRow : OpenClaim := { program := "ytplhilglokbplaa", sum := "075897082db3077b5475497842ce83960070267663436131d2a3c9e5219cb65c", func := "syllabary/syllabarylaw08.SingleOrders", spec := "singleOrders", unfollowed := true, recurses := true, plainKeys := false, apart := false, narrowed := true }
def SingleOrdersUptoSaid : Prop := singleOrdersUptoRow.holds Try.pinned (OpenSpec.upto singleOrdersSpec)

/-- 'syllabarylaw08.SingleLong', WHERE WHAT IT READS IS OF BULK AT MOST 1048576: true; the input reads as it did. -/
def singleLongUptoRow : OpenClaim := { program := "ytplhilglokbplaa", sum := "075897082db3077b5475497842ce83960070267663436131d2a3c9e5219cb65c", func := "syllabary/syllabarylaw08.SingleLong", spec := "singleLong", unfollowed := true, recurses := true, plainKeys := false, apart := false, narrowed := true }
def SingleLongUptoSaid : Prop := singleLongUptoRow.holds Try.pinned (OpenSpec.upto singleLongSpec)

/-- 'syllabarytop.TopStrokesOfTemplatesAreFree', WHERE WHAT IT READS IS OF BULK AT MOST 1048576: true; the input reads as it did. -/
def topStrokesOfTemplatesAreFreeUptoRow : OpenClaim := { program := "ytplhilglokbplaa", sum := "075897082db3077b5475497842ce83960070267663436131d2a3c9e5219cb65c", func := "syllabary/syllabarytop.TopStrokesOfTemplatesAreFree", spec := "topStrokesOfTemplatesAreFree", unfollowed := true, recurses := true, plainKeys := false, apart := false, narrowed := true }
def TopStrokesOfTemplatesAreFreeUptoSaid : Prop := topStrokesOfTemplatesAreFreeUptoRow.holds Try.pinned (OpenSpec.upto topStrokesOfTemplatesAreFreeSpec)

/-- 'syllabarytop.TopAdaptedTouchesAreFree', WHERE WHAT IT READS IS OF BULK AT MOST 1048576: true; the input reads as it did. -/
def topAdaptedTouchesAreFreeUptoRow : OpenClaim := { program := "ytplhilglokbplaa", sum := "075897082db3077b5475497842ce83960070267663436131d2a3c9e5219cb65c", func := "syllabary/syllabarytop.TopAdaptedTouchesAreFree", spec := "topAdaptedTouchesAreFree", inPlace := ["slices.overlaps[syllabary/api.Tap]"], unfollowed := true, recurses := true, plainKeys := false, apart := false, narrowed := true }
def TopAdaptedTouchesAreFreeUptoSaid : Prop := topAdaptedTouchesAreFreeUptoRow.holds Try.pinned (OpenSpec.upto topAdaptedTouchesAreFreeSpec)

end Rows
end Go.Proofs.Ytplhilglokbplaa
