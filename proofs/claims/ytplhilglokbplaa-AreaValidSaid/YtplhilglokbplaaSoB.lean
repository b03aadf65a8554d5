/- slices.SortFunc of choices by key: the comparison, the contract. order: choices that rise by key stay as they are. -/
import Derived.Test.YtplhilglokbplaaArG
import Derived.Shelf.SlSortCmp.WholeK
import Derived.Ground.SlsfProg
import Derived.Test.YtplhilglokbplaaLyS
namespace Go.Proofs.Ytplhilglokbplaa
open Go.Shelf Go.RowKit Go.Lib Go.Sort Go.Proofs.YtplhilglokbplaaW.PrintWords Go.Proofs.YtplhilglokbplaaW.PrintLast Go.Proofs.YtplhilglokbplaaW.PrintMore PAll
set_option linter.unusedVariables false
set_option linter.unusedSimpArgs false
theorem compare82_same (x y : Int) (w : World) : Calls Try.prog 82 #[.int .u8 x, .int .u8 y] w fun e w' => e = .returned (.int .i64 (cmpI x y)) ∧ w' = w := by
  unfold cmpI
  have hx : (x != x) = false := by simp
  have hy : (y != y) = false := by simp
  by_cases h : x < y
  · rw [if_pos h]
    have hd : decide (x < y) = true := decide_eq_true h
    go_enter Try.func82, Try.ntmps82
    go_wp2
    go_ret
    exact ⟨rfl, rfl⟩
  · rw [if_neg h]
    have hd : decide (x < y) = false := decide_eq_false h
    by_cases h2 : y < x
    · rw [if_pos h2]
      have hd2 : decide (y < x) = true := decide_eq_true h2
      go_enter Try.func82, Try.ntmps82
      go_wp2
      go_ret
      exact ⟨rfl, rfl⟩
    · rw [if_neg h2]
      have hd2 : decide (y < x) = false := decide_eq_false h2
      go_enter Try.func82, Try.ntmps82
      go_wp2
      go_ret
      exact ⟨rfl, rfl⟩

/-- A choice's two cells. -/
def cH (x : S84) : List Value := [.int .u8 x.f0, .int .i64 x.f1]
theorem cmp88 (x y : S84) (W : World) : Calls Try.prog 88 #[.agg (cH x).toArray, .agg (cH y).toArray] W fun e w' => e = .returned (.int .i64 (cmpI x.f0 y.f0)) ∧ w' = (W.alloc (.cells #[.int .u8 x.f0, .int .i64 x.f1] 84)).alloc (.cells #[.int .u8 y.f0, .int .i64 y.f1] 84) := by
  obtain ⟨k, c⟩ := x
  obtain ⟨k', c'⟩ := y
  unfold cH
  dsimp only
  go_enter Try.func88, Try.ntmps88
  go_wp2_with fail
  refine (compare82_same k k' _).mono ?_
  rintro e w' ⟨rfl, rfl⟩
  go_wp2
  go_ret
  exact ⟨rfl, rfl⟩
set_option maxHeartbeats 1000000 in
theorem cmp158 (x y : S84) (W : World) (b g : Nat) (hb : W.heap[b]? = some (.cells #[.slice (some ⟨g, 0, none⟩) 1 1] 238)) (hg : W.heap[g]? = some (.cells #[.func (.func 88) #[] #[]] 165)) :
    Calls Try.prog 158 #[.agg (cH x).toArray, .agg (cH y).toArray, .pointer (some ⟨b, 0, none⟩)] W fun e w' => e = .returned (.int .i64 (cmpI x.f0 y.f0)) ∧ ∃ q os', w' = grow (W.drewN q) os' := by
  have hcon := fun W' => cmp88 x y W'
  generalize hz : cmpI x.f0 y.f0 = z at hcon ⊢
  obtain ⟨k, c⟩ := x
  obtain ⟨k', c'⟩ := y
  unfold cH at hcon ⊢
  dsimp only at hcon ⊢
  have hW : ∃ W2, W2 = (W.alloc (.cells #[.int .u8 k, .int .i64 c] 84)).alloc (.cells #[.int .u8 k', .int .i64 c'] 84) := ⟨_, rfl⟩
  obtain ⟨W2, hW2⟩ := hW
  have hb2 := blk_alloc (blk_alloc hb (.cells #[.int .u8 k, .int .i64 c] 84)) (.cells #[.int .u8 k', .int .i64 c'] 84)
  have hg2 := blk_alloc (blk_alloc hg (.cells #[.int .u8 k, .int .i64 c] 84)) (.cells #[.int .u8 k', .int .i64 c'] 84)
  have hx2 := blk_alloc (heap_alloc_new W (.cells #[.int .u8 k, .int .i64 c] 84)) (.cells #[.int .u8 k', .int .i64 c'] 84)
  have hy2 := heap_alloc_new (W.alloc (.cells #[.int .u8 k, .int .i64 c] 84)) (.cells #[.int .u8 k', .int .i64 c'] 84)
  rw [show (W.alloc (Obj.cells #[Value.int .u8 k, Value.int .i64 c] 84)).heap.size = W.heap.size + 1 by simp] at hy2
  rw [← hW2] at hb2 hg2 hx2 hy2
  have c0 := blk_cell hb2 0
  have c1 := blk_cell hg2 0
  have c2 := blk_cell hx2 0
  have c3 := blk_cell hx2 1
  have c4 := blk_cell hy2 0
  have c5 := blk_cell hy2 1
  have HCON := Aside0.mk hcon
  have HW2 := Aside0.mk hW2
  clear hcon hz hx2 hy2 hb2 hg2 hb hg
  simp at c0 c1 c2 c3 c4 c5
  go_enter Try.func158, Try.ntmps158
  go_upto_region 1 with fail
  rw [← HW2.out]
  clear hW2
  go_wp2
  go_loopg [11] 1 (fun gg v wr => (v = .int .i64 0 ∧ wr = W2 ∧ Aside0 (1 ≤ gg)) ∨ (v = .int .i64 1 ∧ Aside0 (z = 0) ∧ Aside0 (∃ os', wr = grow W2 os')))
  case atStart => exact Or.inl ⟨rfl, rfl, ⟨Nat.le_refl _⟩⟩
  case round =>
    rcases hrel with ⟨rfl, rfl, HG⟩ | ⟨rfl, HZ, HQ⟩
    · cases hz : (z == 0)
      · have hz2 : (z != 0) = !(z == 0) := rfl
        rw [hz] at hz2
        go_wp2_with fail
        refine (HCON.out _).mono ?_
        rintro e w' ⟨rfl, rfl⟩
        go_wp2
        go_ret
        exact ⟨rfl, 0, _, by rw [HW2.out, alloc_eq_grow, alloc_eq_grow, alloc_eq_grow, alloc_eq_grow, grow_grow, grow_grow, grow_grow]; rfl⟩
      · have hz2 : (z != 0) = !(z == 0) := rfl
        rw [hz] at hz2
        go_wp2_with fail
        refine (HCON.out _).mono ?_
        rintro e w' ⟨rfl, rfl⟩
        go_wp2
        go_roundg 0
        case measure => have := HG.out; omega
        case rel => exact Or.inr ⟨rfl, ⟨by simpa using hz⟩, ⟨_, by rw [alloc_eq_grow, alloc_eq_grow, grow_grow]⟩⟩
    · go_wp2
      go_ret
      obtain ⟨os', hos⟩ := HQ.out
      exact ⟨by rw [HZ.out]; rfl, 0, _, by rw [hos, HW2.out, alloc_eq_grow, alloc_eq_grow, grow_grow, grow_grow]; rfl⟩
end Go.Proofs.Ytplhilglokbplaa
namespace Go.Proofs.Ytplhilglokbplaa
open Go.Shelf Go.RowKit Go.Lib Go.Proofs.YtplhilglokbplaaW.PrintWords Go.Proofs.YtplhilglokbplaaW.PrintLast Go.Proofs.YtplhilglokbplaaW.PrintMore PAll
open Go.Sort hiding Below
set_option linter.unusedVariables false
set_option linter.unusedSimpArgs false

theorem cmpI_lt0 (x y : Int) : cmpI x y < 0 ↔ x < y := by
  unfold cmpI
  by_cases h : x < y
  · rw [if_pos h]; simp [h]
  · rw [if_neg h]
    by_cases h2 : y < x
    · rw [if_pos h2]; simp [h]
    · rw [if_neg h2]; simp [h]
theorem cmpI_flip (x y : Int) : decide (cmpI x y < 0) = decide (x < y) := decide_eq_decide.2 (cmpI_lt0 x y)
def byK (x y : S84) : Int := cmpI x.f0 y.f0
theorem byK_lt (x y : S84) : ltOf byK x y = decide (x.f0 < y.f0) := cmpI_flip _ _
theorem byK_swo : SWO (ltOf byK) where
  irrefl x := by rw [byK_lt]; simp
  trans x y z h1 h2 := by rw [byK_lt] at *; simp at *; omega
  ntrans x y z h1 h2 := by rw [byK_lt] at *; simp at *; omega
instance : Inhabited S84 := ⟨z84⟩
/-- Rising by key. -/
def Rises (l : List S84) : Prop := l.Pairwise fun a b => a.f0 < b.f0
theorem sorted_same {d d' : Array S84} (hp : PermIn 0 d.size d d') (hs : SortedIn (ltOf byK) 0 d.size d') (hr : Rises d.toList) : d' = d := by
  obtain ⟨hsz, _, hp⟩ := hp
  have e1 : d'.extract 0 d.size = d' := by rw [← hsz]; simp
  have e2 : d.extract 0 d.size = d := by simp
  rw [e1, e2] at hp
  apply Array.toList_inj.1
  refine List.Perm.eq_of_pairwise (le := fun a b : S84 => a.f0 ≤ b.f0) ?_ ?_ (hr.imp fun h => Int.le_of_lt h) hp
  · intro a b ha hb h1 h2
    have ha' := hp.mem_iff.1 ha
    obtain ⟨i, hi, rfl⟩ := List.getElem_of_mem ha'
    obtain ⟨j, hj, rfl⟩ := List.getElem_of_mem hb
    rcases Nat.lt_trichotomy i j with h | h | h
    · have := List.pairwise_iff_getElem.1 hr i j hi hj h
      omega
    · subst h; rfl
    · have := List.pairwise_iff_getElem.1 hr j i hj hi h
      omega
  · rw [List.pairwise_iff_getElem]
    intro i j hi hj hij
    have := hs i j (Nat.zero_le _) hij (by rw [← hsz]; simpa using hj)
    rw [byK_lt] at this
    simp at this
    rw [Array.getElem!_eq_getD, Array.getElem!_eq_getD] at this
    simp at hi hj
    simp [Array.getD, hi, hj] at this
    simpa using this
theorem sortWorld_other {α : Type} [Inhabited α] (enc : α → List Value) (w : World) (blk m : Nat) (d : Array α) (os : Array Obj) (k : Nat) (hk : k ≠ blk) (hlt : k < w.heap.size) : (sortWorldK enc 2 w blk 0 m d os).heap[k]? = w.heap[k]? := by
  unfold sortWorldK grow putRowK putRow mapBlock Sort.ahead
  simp only
  rw [Array.getElem?_append_left (by simpa using hlt)]
  simp [Array.getElem?_modify, Ne.symm hk]
theorem below_grow {B : Nat} {w W : World} (h : Below B w W) (hB : B ≤ W.heap.size) (n : Nat) (os : Array Obj) : Below B w (grow (Sort.ahead W n) os) := by
  refine ⟨h.os, h.tape, h.output, ?_, fun k hk => ?_⟩
  · have := h.size
    simp [grow, Sort.ahead]
    omega
  · show (W.heap ++ os)[k]? = _
    rw [Array.getElem?_append_left (by omega)]
    exact h.block k hk
set_option maxHeartbeats 1000000 in
theorem order91_any (w : World) (blk g cap : Nat) (d : Array S84) (hH : HoldsK cH 2 w blk 0 d) (hblk : blk < w.heap.size) (hsz : d.size < 4611686018427387904) (hg : w.heap[g]? = some (.cells #[.func (.func 88) #[] #[]] 165)) (hgb : g ≠ blk) (hr : Rises d.toList) :
    Calls Try.prog 91 #[.slice (some ⟨blk, 0, none⟩) d.size cap, .slice (some ⟨g, 0, none⟩) 1 1] w fun e w' => e = .returned (.tuple #[]) ∧ Below w.heap.size w w' := by
  have eg : ∀ args w, (callFunc 158 args).run Try.prog w = .ok (.enter 158 args) w := enters_of Try.func158 (by kernel_rfl) rfl
  have hw1 : ∃ w1, w1 = w.alloc (.cells #[.slice (some ⟨g, 0, none⟩) 1 1] 238) := ⟨_, rfl⟩
  obtain ⟨w1, hw1⟩ := hw1
  have hb1 := heap_alloc_new w (.cells #[.slice (some ⟨g, 0, none⟩) 1 1] 238)
  have hg1 := blk_alloc hg (.cells #[.slice (some ⟨g, 0, none⟩) 1 1] 238)
  have hB1 : Below w.heap.size w w1 := by rw [hw1]; exact below_alloc (Below.refl _ _) _
  have hs1 : w1.heap.size = w.heap.size + 1 := by rw [hw1]; simp
  rw [← hw1] at hb1 hg1
  have hH1 : HoldsK cH 2 w1 blk 0 d := by rw [hw1, alloc_eq_grow]; exact holdsK_grow _ _ _ _ _ _ _ hblk hH
  have hcon := AnyQ.slices_SortFunc sort157 2 (by intro w; kernel_rfl) (by intro w; kernel_rfl) cH (fun _ => rfl) (fun x v hv => by simp [cH] at hv; rcases hv with rfl | rfl <;> rfl) byK byK_swo 158 #[.pointer (some ⟨w.heap.size, 0, none⟩)] blk 0 cap d w1 eg
    (fun m os dk hs x y => cmp158 x y _ w.heap.size g (by rw [sortWorld_other _ _ _ _ _ _ _ (by omega) (by omega)]; exact hb1) (by rw [sortWorld_other _ _ _ _ _ _ _ hgb (by rw [hs1]; have := blk_lt hg; omega)]; exact hg1)) hH1 (by omega) hsz
  change Calls Try.prog 157 _ _ _ at hcon
  have HCON := Aside0.mk hcon
  have HW := Aside0.mk hw1
  have HH := Aside0.mk hH1
  have HR := Aside0.mk hr
  have HB := Aside0.mk hB1
  have HS := Aside0.mk hs1
  have HK := Aside0.mk hblk
  clear hcon hH hH1 hr hb1 hg1 hg hgb hB1 hs1 hblk eg
  go_enter Try.func91, Try.ntmps91
  go_upto_region 1 with fail
  rw [← HW.out]
  clear hw1
  go_wp2_with fail
  refine HCON.out.mono ?_
  rintro e w' ⟨rfl, d', n, os, hp, hs, rfl⟩
  obtain rfl := sorted_same hp hs HR.out
  have hself : putRowK cH 2 (Sort.ahead w1 n) blk 0 d' = Sort.ahead w1 n := putRowK_self _ _ _ _ _ _ (holdsK_ahead _ _ _ _ _ _ _ HH.out)
  have hB : Below w.heap.size w (sortWorldK cH 2 w1 blk 0 n d' os) := by
    unfold sortWorldK
    rw [hself]
    exact below_grow HB.out (by have := HS.out; omega) n os
  have HB2 := Aside0.mk hB
  clear hB hself hp hs
  go_wp2
  go_end0
  exact ⟨rfl, HB2.out⟩
end Go.Proofs.Ytplhilglokbplaa
