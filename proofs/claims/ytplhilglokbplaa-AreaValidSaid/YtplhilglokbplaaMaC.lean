/- The made board's templates and chords. -/
import Derived.Test.YtplhilglokbplaaMaB
namespace Go.Proofs.Ytplhilglokbplaa
open Go.Shelf Go.RowKit Go.Lib Go.Proofs.YtplhilglokbplaaW.PrintWords Go.Proofs.YtplhilglokbplaaW.PrintLast Go.Proofs.YtplhilglokbplaaW.PrintMore PAll
set_option linter.unusedVariables false
set_option linter.unusedSimpArgs false
def tpl2 : List S33 := [⟨97, [⟨0, 0⟩, ⟨20, 20⟩]⟩, ⟨98, [⟨20, 0⟩, ⟨0, 20⟩, ⟨20, 40⟩]⟩]
def ch2 : List S39 := [⟨⟨#[97, 98]⟩, 99⟩, ⟨⟨#[97, 98, 99]⟩, 97⟩]
theorem tpl2_valid : templatesB tpl2 = true := by kernel_rfl
theorem ch2_valid : chordsB ch2 = true := by kernel_rfl
theorem made_chords {w wx : World} {l : List B2} {A' : Option Addr} {c' T : Nat} (h : MadeIn w wx l A' c' T) : Kd.C k39 wx (some ⟨w.heap.size + 1, 0, none⟩) 2 ch2 := by
  have hR : Kd.R k39 39 wx 0 (fun _ => True) (.slice (some ⟨w.heap.size + 1, 0, none⟩) 2 2) ch2 := by
    refine ⟨fun _ _ => trivial, [.string ⟨#[97, 98]⟩, .int .u8 99, .string ⟨#[97, 98, 99]⟩, .int .u8 97], ⟨rfl, Or.inr ⟨w.heap.size + 1, 2, _, rfl, Nat.zero_le _, h.2.1, Nat.le_refl _, by decide, rfl, rfl⟩⟩, rfl, fun j r hj => ?_⟩
    rcases j with _ | _ | j
    · simp [ch2] at hj; subst hj; exact k39_mkM _ _ _ _
    · simp [ch2] at hj; subst hj; exact k39_mkM _ _ _ _
    · simp [ch2] at hj
  exact (Kd.R_reads' hR).2.2
theorem pts_R {wx : World} {g : Nat} (l : List S89) (cur : Array Value) (hc : cur.toList = l.flatMap fun p => [.int .i64 p.f0, .int .i64 p.f1]) (hn : cur.size = l.length * 2) (hm : l.length ≤ maxLen) (h : wx.heap[g]? = some (.cells cur 89)) (hr : Reps (k89.M wx 0 (fun k => True ∧ some k ≠ (Value.slice (some ⟨g, 0, none⟩) l.length l.length).ownBlock)) 2 l cur.toList) :
    Kd.R k89 89 wx 0 (fun _ => True) (.slice (some ⟨g, 0, none⟩) l.length l.length) l :=
  ⟨fun _ _ => trivial, cur.toList, ⟨by rw [Array.length_toList, hn]; rfl, Or.inr ⟨g, l.length, cur, rfl, Nat.zero_le _, h, Nat.le_refl _, hm, by rw [hn]; rfl, by rw [show k89.sz = 2 from rfl, ← hn]; exact List.take_of_length_le (Nat.le_of_eq Array.length_toList)⟩⟩, hr⟩
theorem made_templates {w wx : World} {l : List B2} {A' : Option Addr} {c' T : Nat} (h : MadeIn w wx l A' c' T) : Kd.C k33 wx (some ⟨T, 0, none⟩) 2 tpl2 := by
  obtain ⟨_, _, _, _, P1, P2, _, hT, _, h1, _, h2⟩ := h
  have r1 : Kd.C k89 wx (some ⟨P1, 0, none⟩) 2 [⟨0, 0⟩, ⟨20, 20⟩] := (Kd.R_reads' (pts_R [⟨0, 0⟩, ⟨20, 20⟩] _ rfl rfl (by decide) h1 ⟨rfl, fun j r hj => by
    rcases j with _ | _ | j
    · simp at hj; subst hj; exact k89_mkM _ _ _ _
    · simp at hj; subst hj; exact k89_mkM _ _ _ _
    · simp at hj⟩)).2.2
  have r2 : Kd.C k89 wx (some ⟨P2, 0, none⟩) 3 [⟨20, 0⟩, ⟨0, 20⟩, ⟨20, 40⟩] := (Kd.R_reads' (pts_R [⟨20, 0⟩, ⟨0, 20⟩, ⟨20, 40⟩] _ rfl rfl (by decide) h2 ⟨rfl, fun j r hj => by
    rcases j with _ | _ | _ | j
    · simp at hj; subst hj; exact k89_mkM _ _ _ _
    · simp at hj; subst hj; exact k89_mkM _ _ _ _
    · simp at hj; subst hj; exact k89_mkM _ _ _ _
    · simp at hj⟩)).2.2
  refine ⟨rfl, by decide, fun _ => ⟨_, rfl, fun j p hj => ?_⟩⟩
  rcases j with _ | _ | j
  · simp [tpl2] at hj
    subst hj
    refine ⟨[.int .u8 97, .slice (some ⟨P1, 0, none⟩) 2 2], rfl, k33_mk wx ⟨97, [⟨0, 0⟩, ⟨20, 20⟩]⟩ (Nat.le_refl _) r1, fun i u hu => ?_⟩
    rw [add_plain, show (0 : Nat) * k33.sz + i = i by omega]
    try simp only [Nat.zero_add]
    rw [blk_cell hT i]
    rcases i with _ | _ | i
    · simpa using hu
    · simpa using hu
    · simp at hu
  · simp [tpl2] at hj
    subst hj
    refine ⟨[.int .u8 98, .slice (some ⟨P2, 0, none⟩) 3 3], rfl, k33_mk wx ⟨98, [⟨20, 0⟩, ⟨0, 20⟩, ⟨20, 40⟩]⟩ (Nat.le_refl _) r2, fun i u hu => ?_⟩
    rw [add_plain, show (0 + 1 : Nat) * k33.sz + i = 2 + i from rfl]
    try simp only [Nat.zero_add]
    rw [blk_cell hT (2 + i)]
    rcases i with _ | _ | i
    · simpa using hu
    · simpa using hu
    · simp at hu
  · simp [tpl2] at hj
end Go.Proofs.Ytplhilglokbplaa
