/- law21.AreaValid: a board in a variable of the law's own. -/
import Derived.Test.YtplhilglokbplaaSaC
import Derived.Test.YtplhilglokbplaaMaC
namespace Go.Proofs.Ytplhilglokbplaa
open Go.Shelf Go.RowKit Go.Lib Go.Proofs.YtplhilglokbplaaW.PrintWords Go.Proofs.YtplhilglokbplaaW.PrintLast Go.Proofs.YtplhilglokbplaaW.PrintMore PAll
set_option linter.unusedVariables false
set_option linter.unusedSimpArgs false
/-- The made templates and chords. -/
def TplIn (W : World) (T P1 P2 ch : Nat) : Prop :=
  W.heap[T]? = some (.cells #[.int .u8 97, .slice (some ⟨P1, 0, none⟩) 2 2, .int .u8 98, .slice (some ⟨P2, 0, none⟩) 3 3] 33) ∧ W.heap[P1]? = some (.cells #[.int .i64 0, .int .i64 0, .int .i64 20, .int .i64 20] 89) ∧
  W.heap[P2]? = some (.cells #[.int .i64 20, .int .i64 0, .int .i64 0, .int .i64 20, .int .i64 20, .int .i64 40] 89) ∧ W.heap[ch]? = some (.cells #[.string ⟨#[97, 98]⟩, .int .u8 99, .string ⟨#[97, 98, 99]⟩, .int .u8 97] 39)
theorem tpl_chords {wx : World} {T P1 P2 ch : Nat} (h : TplIn wx T P1 P2 ch) : Kd.C k39 wx (some ⟨ch, 0, none⟩) 2 ch2 := by
  have hR : Kd.R k39 39 wx 0 (fun _ => True) (.slice (some ⟨ch, 0, none⟩) 2 2) ch2 := by
    refine ⟨fun _ _ => trivial, [.string ⟨#[97, 98]⟩, .int .u8 99, .string ⟨#[97, 98, 99]⟩, .int .u8 97], ⟨rfl, Or.inr ⟨ch, 2, _, rfl, Nat.zero_le _, h.2.2.2, Nat.le_refl _, by decide, rfl, rfl⟩⟩, rfl, fun j r hj => ?_⟩
    rcases j with _ | _ | j
    · simp [ch2] at hj; subst hj; exact k39_mkM _ _ _ _
    · simp [ch2] at hj; subst hj; exact k39_mkM _ _ _ _
    · simp [ch2] at hj
  exact (Kd.R_reads' hR).2.2
theorem tpl_templates {wx : World} {T P1 P2 ch : Nat} (h : TplIn wx T P1 P2 ch) : Kd.C k33 wx (some ⟨T, 0, none⟩) 2 tpl2 := by
  obtain ⟨hT, h1, h2, _⟩ := h
  have r1 : Kd.C k89 wx (some ⟨P1, 0, none⟩) 2 [⟨0, 0⟩, ⟨20, 20⟩] := (Kd.R_reads' (pts_R [⟨0, 0⟩, ⟨20, 20⟩] _ rfl rfl (by decide) h1 ⟨rfl, fun j r hj => by
    rcases j with _ | _ | j
    · simp at hj; subst hj; exact k89_mkM _ _ _ _
    · simp at hj; subst hj; exact k89_mkM _ _ _ _
    · simp at hj⟩)).2.2
  have r2 : Kd.C k89 wx (some ⟨P2, 0, none⟩) 3 [⟨20, 0⟩, ⟨0, 20⟩, ⟨20, 40⟩] := (Kd.R_reads' (pts_R [⟨20, 0⟩, ⟨0, 20⟩, ⟨20, 40⟩] _ rfl rfl (by decide) h2 ⟨rfl, fun j r hj => by
    rcases j with _ | _ | _ | j
    · simp at hj; subst hj; exact k89_mkM _ _ _ _
    · simp at hj; subst hj; exact k89_mkM _ _ _ _
    · simp at hj; subst hj; exact k89_mkM _ _ _ _
    · simp at hj⟩)).2.2
  refine ⟨rfl, by decide, fun _ => ⟨_, rfl, fun j p hj => ?_⟩⟩
  rcases j with _ | _ | j
  · simp [tpl2] at hj
    subst hj
    refine ⟨[.int .u8 97, .slice (some ⟨P1, 0, none⟩) 2 2], rfl, k33_mk wx ⟨97, [⟨0, 0⟩, ⟨20, 20⟩]⟩ (Nat.le_refl _) r1, fun i u hu => ?_⟩
    rw [add_plain, show (0 : Nat) * k33.sz + i = i by omega]
    try simp only [Nat.zero_add]
    rw [blk_cell hT i]
    rcases i with _ | _ | i
    · simpa using hu
    · simpa using hu
    · simp at hu
  · simp [tpl2] at hj
    subst hj
    refine ⟨[.int .u8 98, .slice (some ⟨P2, 0, none⟩) 3 3], rfl, k33_mk wx ⟨98, [⟨20, 0⟩, ⟨0, 20⟩, ⟨20, 40⟩]⟩ (Nat.le_refl _) r2, fun i u hu => ?_⟩
    rw [add_plain, show (0 + 1 : Nat) * k33.sz + i = 2 + i from rfl]
    try simp only [Nat.zero_add]
    rw [blk_cell hT (2 + i)]
    rcases i with _ | _ | i
    · simpa using hu
    · simpa using hu
    · simp at hu
  · simp [tpl2] at hj
theorem tpl_below {W W' : World} {T P1 P2 ch : Nat} (h : TplIn W T P1 P2 ch) (hb : Below W.heap.size W W') : TplIn W' T P1 P2 ch :=
  ⟨blk_below h.1 hb, blk_below h.2.1 hb, blk_below h.2.2.1 hb, blk_below h.2.2.2 hb⟩
theorem ty_ne {t u : Nat} (ht : t = 26 ∨ t = 36) (hu : u = 33 ∨ u = 89 ∨ u = 39) : u ≠ t := by omega
theorem tpl_set {W : World} {T P1 P2 ch g t : Nat} {cs : Array Value} (h : TplIn W T P1 P2 ch) (hg : W.heap[g]? = some (.cells cs t (0, 0))) (ht : t = 26 ∨ t = 36) (i : Nat) (u : Value) : TplIn (W.setCell ⟨g, i, none⟩ u) T P1 P2 ch :=
  ⟨blk_far h.1 (blk_ne h.1 hg (ty_ne ht (.inl rfl))) u, blk_far h.2.1 (blk_ne h.2.1 hg (ty_ne ht (.inr (.inl rfl)))) u, blk_far h.2.2.1 (blk_ne h.2.2.1 hg (ty_ne ht (.inr (.inl rfl)))) u, blk_far h.2.2.2 (blk_ne h.2.2.2 hg (ty_ne ht (.inr (.inr rfl)))) u⟩
/-- A board's variable in block g: areas la, the made templates and chords. -/
def BoardIn (W : World) (g : Nat) (A : Option Addr) (c T ch : Nat) (la : List S36) : Prop :=
  W.heap[g]? = some (.cells #[.slice A la.length c, .slice (some ⟨T, 0, none⟩) 2 2, .slice (some ⟨ch, 0, none⟩) 2 2] 26) ∧ Kd.C k36 W A la.length la ∧ la.length ≤ c ∧ ∃ P1 P2, TplIn W T P1 P2 ch
theorem board_made {w W : World} {l : List B2} {A : Option Addr} {c T : Nat} (h : MadeIn w W l A c T) :
    BoardIn (W.alloc (.cells #[.slice A (made l).length c, .slice (some ⟨T, 0, none⟩) 2 2, .slice (some ⟨w.heap.size + 1, 0, none⟩) 2 2] 26)) W.heap.size A c T (w.heap.size + 1) (made l) := by
  obtain ⟨_, hch, _, h3, P1, P2, _, hT, _, h1, _, h2⟩ := h
  have hl := made_length l
  obtain ⟨A2, c2, e, hc, hC⟩ := Kd.R_reads h3
  rw [hl] at e
  cases e
  exact ⟨heap_alloc_new _ _, Kd.C_below hC (below1 _), hc, P1, P2, tpl_below ⟨hT, h1, h2, hch⟩ (below1 _)⟩
theorem board_below {W W' : World} {g : Nat} {A : Option Addr} {c T ch : Nat} {la : List S36} (h : BoardIn W g A c T ch la) (hb : Below W.heap.size W W') : BoardIn W' g A c T ch la := by
  obtain ⟨h1, h2, h3, P1, P2, h4⟩ := h
  exact ⟨blk_below h1 hb, Kd.C_below h2 hb, h3, P1, P2, tpl_below h4 hb⟩
theorem iC_ch2 : ∀ i, iC (rd_T39 ch2 i) := by
  intro i
  unfold iC rd_T39
  have : ch2.getD i.toNat z39 = z39 ∨ ch2.getD i.toNat z39 ∈ ch2 := by
    rw [List.getD_eq_getElem?_getD]
    rcases h : ch2[i.toNat]? with _ | x
    · exact Or.inl rfl
    · exact Or.inr (List.mem_of_getElem? h)
  rcases this with h | h
  · rw [h]; decide
  · generalize ch2.getD i.toNat z39 = x at h ⊢
    simp only [ch2, List.mem_cons, List.not_mem_nil, or_false] at h
    rcases h with rfl | rfl <;> decide
theorem k36_KM {w w1 : World} {base : Nat} {ok : Nat → Prop} (x : S36) (cs : List Value) (h : k36.K w x cs) : k36.M w1 base ok x cs := by
  rw [k36_open h]
  exact k36_mkM _ _ _ x
theorem R_empty36 (w : World) : Kd.R k36 36 (w.alloc (.cells #[] 36)) w.heap.size (fun _ => True) (.slice (some ⟨w.heap.size, 0, none⟩) 0 0) [] := by
  refine ⟨fun _ _ => trivial, [], ⟨by simp, Or.inr ⟨w.heap.size, 0, #[], rfl, Nat.le_refl _, heap_alloc_new _ _, Nat.le_refl _, by decide, by simp, by simp⟩⟩, Reps.none _ _⟩
/-- The call's own row of areas, laid open. -/
theorem row36_open {W : World} {base : Nat} {ok : Nat → Prop} {v : Value} {xs : List S36} (h : Kd.R k36 36 W base ok v xs) (hn : 0 < xs.length) :
    ∃ g cap cur, v = .slice (some ⟨g, 0, none⟩) xs.length cap ∧ base ≤ g ∧ W.heap[g]? = some (.cells cur 36 (0, 0)) ∧ xs.length ≤ cap ∧ cur.size = cap * 5 ∧ xs.length ≤ maxLen ∧
      ∀ (K : Nat) (x : S36), xs[K]? = some x → cur[K * 5]? = some (.int .u8 x.f0) ∧ cur[K * 5 + 1]? = some (.int .i64 x.f1) ∧ cur[K * 5 + 2]? = some (.int .i64 x.f2) ∧ cur[K * 5 + 3]? = some (.int .i64 x.f3) ∧ cur[K * 5 + 4]? = some (.int .i64 x.f4) := by
  obtain ⟨h0, inner, ⟨hl, hv⟩, hr⟩ := h
  rcases hv with ⟨_, hz⟩ | ⟨g, cap, cur, rfl, hb, hh, hnc, hcm, hcs, ht⟩
  · omega
  have hsz : k36.sz = 5 := rfl
  rw [hsz] at ht hcs hl
  refine ⟨g, cap, cur, rfl, hb, hh, hnc, hcs, Nat.le_trans hnc hcm, fun K x hx => ?_⟩
  have hK := (List.getElem?_eq_some_iff.1 hx).1
  have h1 := k36_openM (hr.2 K x hx)
  rw [hsz] at h1
  have e : ∀ j, j < 5 → cur[K * 5 + j]? = ([Value.int .u8 x.f0, .int .i64 x.f1, .int .i64 x.f2, .int .i64 x.f3, .int .i64 x.f4])[j]? := fun j hj => by
    rw [← h1, List.getElem?_take, if_pos hj, List.getElem?_drop, ← ht, List.getElem?_take, if_pos (by omega)]
    simp
  exact ⟨e 0 (by omega), e 1 (by omega), e 2 (by omega), e 3 (by omega), e 4 (by omega)⟩
theorem row36_set {W' : World} {g : Nat} {cur : Array Value} {xs : List S36} (hc : ∀ (K : Nat) (x : S36), xs[K]? = some x → cur[K * 5]? = some (.int .u8 x.f0) ∧ cur[K * 5 + 1]? = some (.int .i64 x.f1) ∧ cur[K * 5 + 2]? = some (.int .i64 x.f2) ∧ cur[K * 5 + 3]? = some (.int .i64 x.f3) ∧ cur[K * 5 + 4]? = some (.int .i64 x.f4))
    (hm : xs.length ≤ maxLen) {K : Nat} (hK : K < xs.length) {a b c : Int} (h : W'.heap[g]? = some (.cells (((cur.setIfInBounds (K * 5 + 1) (.int .i64 a)).setIfInBounds (K * 5 + 3) (.int .i64 b)).setIfInBounds (K * 5) (.int .u8 c)) 36 (0, 0))) :
    ∃ l2 : List S36, l2.length = xs.length ∧ Kd.C k36 W' (some ⟨g, 0, none⟩) l2.length l2 := by
  have hs : ∀ (i : Nat) (u : Value), cur[i]? = some u → i < cur.size := fun i u hi => (Array.getElem?_eq_some_iff.1 hi).1
  refine ⟨xs.set K ⟨c, a, xs[K].f2, b, xs[K].f4⟩, by simp, rfl, by rw [List.length_set]; unfold maxLen at hm; omega, fun _ => ⟨_, rfl, fun j p hj => ?_⟩⟩
  refine ⟨[.int .u8 p.f0, .int .i64 p.f1, .int .i64 p.f2, .int .i64 p.f3, .int .i64 p.f4], rfl, k36_mk W' p, fun i u hu => ?_⟩
  rw [add_plain]
  try simp only [Nat.zero_add]
  rw [show k36.sz = 5 from rfl, blk_cell h]
  obtain ⟨c0, c1, c2, c3, c4⟩ := hc K xs[K] (List.getElem?_eq_getElem hK)
  have hi : i < 5 := by
    have := (List.getElem?_eq_some_iff.1 hu).1
    simpa using this
  rw [List.getElem?_set] at hj
  by_cases e : K = j
  · subst e
    rw [if_pos rfl, if_pos hK] at hj
    cases hj
    have s0 := hs _ _ c0
    have s1 := hs _ _ c1
    have s3 := hs _ _ c3
    rcases i with _ | _ | _ | _ | _ | i
    · simp at hu; subst hu; simp [Array.getElem?_setIfInBounds, s0]
    · simp at hu; subst hu; simp [Array.getElem?_setIfInBounds, s1]
    · simp at hu; subst hu; simpa [Array.getElem?_setIfInBounds] using c2
    · simp at hu; subst hu; simp [Array.getElem?_setIfInBounds, s3]
    · simp at hu; subst hu; simpa [Array.getElem?_setIfInBounds] using c4
    · omega
  · rw [if_neg e] at hj
    obtain ⟨d0, d1, d2, d3, d4⟩ := hc j p hj
    have n0 : ¬ K * 5 = j * 5 + i := by omega
    have n1 : ¬ K * 5 + 1 = j * 5 + i := by omega
    have n3 : ¬ K * 5 + 3 = j * 5 + i := by omega
    rw [Array.getElem?_setIfInBounds, if_neg n0, Array.getElem?_setIfInBounds, if_neg n3, Array.getElem?_setIfInBounds, if_neg n1]
    rcases i with _ | _ | _ | _ | _ | i
    · simp at hu; subst hu; exact d0
    · simp at hu; subst hu; exact d1
    · simp at hu; subst hu; exact d2
    · simp at hu; subst hu; exact d3
    · simp at hu; subst hu; exact d4
    · omega
/-- Behind the three stores into the copied areas. -/
theorem board_after {W wr : World} {g5 g c2 T ch P1 P2 : Nat} {cur : Array Value} {l0 : List S36} (hG : W.heap[g5]? = some (.cells #[.slice (some ⟨g, 0, none⟩) l0.length c2, .slice (some ⟨T, 0, none⟩) 2 2, .slice (some ⟨ch, 0, none⟩) 2 2] 26))
    (hh : W.heap[g]? = some (.cells cur 36 (0, 0))) (hc : ∀ (K : Nat) (x : S36), l0[K]? = some x → cur[K * 5]? = some (.int .u8 x.f0) ∧ cur[K * 5 + 1]? = some (.int .i64 x.f1) ∧ cur[K * 5 + 2]? = some (.int .i64 x.f2) ∧ cur[K * 5 + 3]? = some (.int .i64 x.f3) ∧ cur[K * 5 + 4]? = some (.int .i64 x.f4))
    (hm : l0.length ≤ maxLen) (hcap : l0.length ≤ c2) {K : Nat} (hK : K < l0.length) (ht : TplIn W T P1 P2 ch) (hB : Below wr.heap.size wr W) (hg : wr.heap.size ≤ g) (a b c : Int) :
    (∃ l2, BoardIn (((W.setCell ⟨g, K * 5 + 1, none⟩ (.int .i64 a)).setCell ⟨g, K * 5 + 3, none⟩ (.int .i64 b)).setCell ⟨g, K * 5, none⟩ (.int .u8 c)).drew g5 (some ⟨g, 0, none⟩) c2 T ch l2) ∧
      Below wr.heap.size wr (((W.setCell ⟨g, K * 5 + 1, none⟩ (.int .i64 a)).setCell ⟨g, K * 5 + 3, none⟩ (.int .i64 b)).setCell ⟨g, K * 5, none⟩ (.int .u8 c)).drew := by
  have hne : g5 ≠ g := blk_ne hG hh (by decide)
  have s1 := blk_set hh (K * 5 + 1) (.int .i64 a)
  have s2 := blk_set s1 (K * 5 + 3) (.int .i64 b)
  have s3 := blk_set s2 (K * 5) (.int .u8 c)
  obtain ⟨l2, hl2, hC⟩ := row36_set hc hm hK (blk_drew s3)
  refine ⟨⟨l2, ?_, hC, by omega, P1, P2, tpl_below (tpl_set (tpl_set (tpl_set ht hh (Or.inr rfl) _ _) s1 (Or.inr rfl) _ _) s2 (Or.inr rfl) _ _) (below_drew (Below.refl _ _))⟩, (((hB.setCell (by exact hg) _).setCell (by exact hg) _).setCell (by exact hg) _).drew⟩
  rw [hl2]
  exact blk_drew (blk_far (blk_far (blk_far hG hne _) hne _) hne _)
theorem cell_of_below {W W' : World} {b : Nat} {o : Nat} {v : Value} (hB : Below W.heap.size W W') (h : W.cell? ⟨b, o, none⟩ = some v) : W'.cell? ⟨b, o, none⟩ = some v :=
  (hB.cell (World.block_lt_of_cell? _ _ h)).trans h
theorem cell_of_far {W : World} {b g o i : Nat} {u v : Value} (hne : b ≠ g) (h : W.cell? ⟨b, o, none⟩ = some v) : (W.setCell ⟨g, i, none⟩ u).cell? ⟨b, o, none⟩ = some v :=
  (World.cell?_of_block (Below.heap_setCell _ _ _ _ hne)).trans h
/-- One of six texts. -/
def six : Array Value := #[.string ⟨#[97, 98, 99]⟩, .string ⟨#[97, 98, 99, 100, 101]⟩, .string ⟨#[99, 98]⟩, .string ⟨#[97, 97, 98]⟩, .string ⟨#[97]⟩, .string ⟨#[97, 98]⟩]
theorem six_get (D : Int) (h0 : 0 ≤ D) (h1 : D < 6) : ∃ s : ByteArray, s.size ≤ 5 ∧ six[D.toNat]? = some (.string s) := by
  obtain ⟨n, rfl⟩ := Int.eq_ofNat_of_zero_le h0
  have hn : n < 6 := by omega
  rw [Int.toNat_natCast]
  rcases n with _ | _ | _ | _ | _ | _ | n
  · exact ⟨_, by decide, rfl⟩
  · exact ⟨_, by decide, rfl⟩
  · exact ⟨_, by decide, rfl⟩
  · exact ⟨_, by decide, rfl⟩
  · exact ⟨_, by decide, rfl⟩
  · exact ⟨_, by decide, rfl⟩
  · omega
theorem u8_tmod (x m : Int) (hm : 0 < m) : 0 ≤ (IntKind.u8.wrap x).tmod m ∧ (IntKind.u8.wrap x).tmod m < m := by
  have h : 0 ≤ IntKind.u8.wrap x := by simp [IntKind.wrap, IntKind.signed, IntKind.bits]; omega
  rw [Int.tmod_eq_emod_of_nonneg h]
  exact ⟨Int.emod_nonneg _ (by omega), Int.emod_lt_of_pos _ hm⟩
/-- The second board: its areas, templates and chords, of which one template's points (vP) and one chord's letters (s) are written. -/
def DIn (W : World) (g : Nat) (A : Option Addr) (c T P1 P2 ch : Nat) (la : List S36) (vP : Value) (s : ByteArray) : Prop :=
  W.heap[g]? = some (.cells #[.slice A la.length c, .slice (some ⟨T, 0, none⟩) 2 2, .slice (some ⟨ch, 0, none⟩) 2 2] 26) ∧ (∃ base ok, Kd.R k36 36 W base ok (.slice A la.length c) la) ∧
  W.heap[T]? = some (.cells #[.int .u8 97, vP, .int .u8 98, .slice (some ⟨P2, 0, none⟩) 3 3] 33) ∧ W.heap[P1]? = some (.cells #[.int .i64 0, .int .i64 0, .int .i64 20, .int .i64 20] 89) ∧
  W.heap[P2]? = some (.cells #[.int .i64 20, .int .i64 0, .int .i64 0, .int .i64 20, .int .i64 20, .int .i64 40] 89) ∧ W.heap[ch]? = some (.cells #[.string ⟨#[97, 98]⟩, .int .u8 99, .string s, .int .u8 97] 39)
theorem din_made {w W : World} {l : List B2} {A : Option Addr} {c T : Nat} (h : MadeIn w W l A c T) :
    ∃ P1 P2, DIn (W.alloc (.cells #[.slice A (made l).length c, .slice (some ⟨T, 0, none⟩) 2 2, .slice (some ⟨w.heap.size + 1, 0, none⟩) 2 2] 26)) W.heap.size A c T P1 P2 (w.heap.size + 1) (made l) (.slice (some ⟨P1, 0, none⟩) 2 2) ⟨#[97, 98, 99]⟩ := by
  obtain ⟨_, hch, _, h3, P1, P2, _, hT, _, h1, _, h2⟩ := h
  have hl := made_length l
  refine ⟨P1, P2, heap_alloc_new _ _, ⟨_, _, Kd.R_below (by rw [hl]; exact h3) (below1 _)⟩, blk_alloc hT _, blk_alloc h1 _, blk_alloc h2 _, blk_alloc hch _⟩
theorem din_below {W W' : World} {g : Nat} {A : Option Addr} {c T P1 P2 ch : Nat} {la : List S36} {vP : Value} {s : ByteArray} (h : DIn W g A c T P1 P2 ch la vP s) (hb : Below W.heap.size W W') : DIn W' g A c T P1 P2 ch la vP s := by
  obtain ⟨h1, ⟨b, ok, h2⟩, h3, h4, h5, h6⟩ := h
  exact ⟨blk_below h1 hb, ⟨b, ok, Kd.R_below h2 hb⟩, blk_below h3 hb, blk_below h4 hb, blk_below h5 hb, blk_below h6 hb⟩
theorem din_str {W : World} {g : Nat} {A : Option Addr} {c T P1 P2 ch : Nat} {la : List S36} {vP : Value} {s : ByteArray} (h : DIn W g A c T P1 P2 ch la vP s) (s' : ByteArray) : DIn (W.setCell ⟨ch, 2, none⟩ (.string s')) g A c T P1 P2 ch la vP s' := by
  obtain ⟨h1, ⟨b, ok, h2⟩, h3, h4, h5, h6⟩ := h
  exact ⟨blk_far h1 (blk_ne h1 h6 (by decide)) _, ⟨b, ok, Kd.R_set h2 h6 (by decide) _ _⟩, blk_far h3 (blk_ne h3 h6 (by decide)) _, blk_far h4 (blk_ne h4 h6 (by decide)) _, blk_far h5 (blk_ne h5 h6 (by decide)) _, blk_set h6 _ _⟩
theorem din_pts {W : World} {g : Nat} {A : Option Addr} {c T P1 P2 ch : Nat} {la : List S36} {vP : Value} {s : ByteArray} (h : DIn W g A c T P1 P2 ch la vP s) (v' : Value) : DIn (W.setCell ⟨T, 1, none⟩ v') g A c T P1 P2 ch la v' s := by
  obtain ⟨h1, ⟨b, ok, h2⟩, h3, h4, h5, h6⟩ := h
  exact ⟨blk_far h1 (blk_ne h1 h3 (by decide)) _, ⟨b, ok, Kd.R_set h2 h3 (by decide) _ _⟩, blk_set h3 _ _, blk_far h4 (blk_ne h4 h3 (by decide)) _, blk_far h5 (blk_ne h5 h3 (by decide)) _, blk_far h6 (blk_ne h6 h3 (by decide)) _⟩
def chD (s : ByteArray) : List S39 := [⟨⟨#[97, 98]⟩, 99⟩, ⟨s, 97⟩]
def tplD (n : Nat) : List S33 := [⟨97, ([⟨0, 0⟩, ⟨20, 20⟩] : List S89).take n⟩, ⟨98, [⟨20, 0⟩, ⟨0, 20⟩, ⟨20, 40⟩]⟩]
theorem iC_chD (s : ByteArray) (h : s.size ≤ 5) : ∀ i, iC (rd_T39 (chD s) i) := by
  intro i
  unfold iC rd_T39
  have : (chD s).getD i.toNat z39 = z39 ∨ (chD s).getD i.toNat z39 ∈ chD s := by
    rw [List.getD_eq_getElem?_getD]
    rcases h : (chD s)[i.toNat]? with _ | x
    · exact Or.inl rfl
    · exact Or.inr (List.mem_of_getElem? h)
  rcases this with h1 | h1
  · rw [h1]; decide
  · generalize (chD s).getD i.toNat z39 = x at h1 ⊢
    simp only [chD, List.mem_cons, List.not_mem_nil, or_false] at h1
    rcases h1 with rfl | rfl
    · decide
    · exact Nat.le_trans h (by decide)
theorem din_chords {W : World} {g : Nat} {A : Option Addr} {c T P1 P2 ch : Nat} {la : List S36} {vP : Value} {s : ByteArray} (h : DIn W g A c T P1 P2 ch la vP s) : Kd.C k39 W (some ⟨ch, 0, none⟩) (chD s).length (chD s) := by
  have hR : Kd.R k39 39 W 0 (fun _ => True) (.slice (some ⟨ch, 0, none⟩) 2 2) (chD s) := by
    refine ⟨fun _ _ => trivial, [.string ⟨#[97, 98]⟩, .int .u8 99, .string s, .int .u8 97], ⟨rfl, Or.inr ⟨ch, 2, _, rfl, Nat.zero_le _, h.2.2.2.2.2, Nat.le_refl _, by decide, rfl, rfl⟩⟩, rfl, fun j r hj => ?_⟩
    rcases j with _ | _ | j
    · simp [chD] at hj; subst hj; exact k39_mkM _ _ _ _
    · simp [chD] at hj; subst hj; exact k39_mkM _ _ _ _
    · simp [chD] at hj
  exact (Kd.R_reads' hR).2.2
theorem C_take {W : World} {A : Option Addr} {n : Nat} {xs : List S89} (h : Kd.C k89 W A n xs) (m : Nat) (hm : m ≤ n) : Kd.C k89 W A m (xs.take m) := by
  obtain ⟨h1, h2, h3⟩ := h
  refine ⟨by rw [List.length_take]; omega, by omega, fun hp => ?_⟩
  obtain ⟨ad, e, hc⟩ := h3 (by omega)
  refine ⟨ad, e, fun j p hj => hc j p ?_⟩
  rw [List.getElem?_take] at hj
  split at hj
  · exact hj
  · cases hj
theorem din_templates {W : World} {g : Nat} {A : Option Addr} {c T P1 P2 ch n : Nat} {la : List S36} {s : ByteArray} (h : DIn W g A c T P1 P2 ch la (.slice (some ⟨P1, 0, none⟩) n 2) s) (hn : n ≤ 2) : Kd.C k33 W (some ⟨T, 0, none⟩) (tplD n).length (tplD n) := by
  obtain ⟨_, _, hT, h1, h2, _⟩ := h
  have r1 : Kd.C k89 W (some ⟨P1, 0, none⟩) 2 [⟨0, 0⟩, ⟨20, 20⟩] := (Kd.R_reads' (pts_R [⟨0, 0⟩, ⟨20, 20⟩] _ rfl rfl (by decide) h1 ⟨rfl, fun j r hj => by
    rcases j with _ | _ | j
    · simp at hj; subst hj; exact k89_mkM _ _ _ _
    · simp at hj; subst hj; exact k89_mkM _ _ _ _
    · simp at hj⟩)).2.2
  have r2 : Kd.C k89 W (some ⟨P2, 0, none⟩) 3 [⟨20, 0⟩, ⟨0, 20⟩, ⟨20, 40⟩] := (Kd.R_reads' (pts_R [⟨20, 0⟩, ⟨0, 20⟩, ⟨20, 40⟩] _ rfl rfl (by decide) h2 ⟨rfl, fun j r hj => by
    rcases j with _ | _ | _ | j
    · simp at hj; subst hj; exact k89_mkM _ _ _ _
    · simp at hj; subst hj; exact k89_mkM _ _ _ _
    · simp at hj; subst hj; exact k89_mkM _ _ _ _
    · simp at hj⟩)).2.2
  have r3 := C_take r1 n hn
  have hl : (([⟨0, 0⟩, ⟨20, 20⟩] : List S89).take n).length = n := by rw [List.length_take]; simp; omega
  refine ⟨rfl, by simp [tplD], fun _ => ⟨_, rfl, fun j p hj => ?_⟩⟩
  rcases j with _ | _ | j
  · simp [tplD] at hj
    subst hj
    have hk := k33_mk W ⟨97, ([⟨0, 0⟩, ⟨20, 20⟩] : List S89).take n⟩ (A1 := some ⟨P1, 0, none⟩) (c1 := 2) (by rw [hl]; exact hn) (by rw [hl]; exact r3)
    rw [hl] at hk
    refine ⟨_, rfl, hk, fun i u hu => ?_⟩
    rw [add_plain, show (0 : Nat) * k33.sz + i = i by omega]
    try simp only [Nat.zero_add]
    rw [blk_cell hT i]
    rcases i with _ | _ | i
    · simpa using hu
    · simpa using hu
    · simp at hu
  · simp [tplD] at hj
    subst hj
    refine ⟨[.int .u8 98, .slice (some ⟨P2, 0, none⟩) 3 3], rfl, k33_mk W ⟨98, [⟨20, 0⟩, ⟨0, 20⟩, ⟨20, 40⟩]⟩ (Nat.le_refl _) r2, fun i u hu => ?_⟩
    rw [add_plain, show (0 + 1 : Nat) * k33.sz + i = 2 + i from rfl]
    try simp only [Nat.zero_add]
    rw [blk_cell hT (2 + i)]
    rcases i with _ | _ | i
    · simpa using hu
    · simpa using hu
    · simp at hu
  · simp [tplD] at hj
/-- Valid and the reference answer alike at a board, in every later world. -/
def Both (W : World) (v : Bool) (b : Value) : Prop :=
  ∀ W', Below W.heap.size W W' → (Calls Try.prog 12 #[b] W' fun e w' => e = .returned (.bool v) ∧ Below W'.heap.size W' w') ∧ (Calls Try.prog 13 #[b] W' fun e w' => e = .returned (.bool v) ∧ Below W'.heap.size W' w')
theorem both_any (W : World) (A B C : Option Addr) (a b c : Nat) (la : List S36) (lt : List S33) (lc : List S39) (ha : Kd.C k36 W A la.length la) (hca : la.length ≤ a) (ht : Kd.C k33 W B lt.length lt) (hct : lt.length ≤ b) (hc : Kd.C k39 W C lc.length lc) (hcc : lc.length ≤ c) (hs : ∀ i, iC (rd_T39 lc i)) :
    Both W (areasB la && templatesB lt && chordsB lc) (.agg #[.slice A la.length a, .slice B lt.length b, .slice C lc.length c]) := fun W' hB =>
  ⟨valid_any W' A B C a b c la lt lc (Kd.C_below ha hB) hca (Kd.C_below ht hB) (Kd.C_below hc hB) hs, reference_any W' A B C a b c la lt lc (Kd.C_below ha hB) hca (Kd.C_below ht hB) hct (Kd.C_below hc hB) hcc hs⟩
theorem both_board {W : World} {g : Nat} {A : Option Addr} {c T ch : Nat} {la : List S36} (h : BoardIn W g A c T ch la) :
    Both W (areasB la && templatesB tpl2 && chordsB ch2) (.agg #[.slice A la.length c, .slice (some ⟨T, 0, none⟩) 2 2, .slice (some ⟨ch, 0, none⟩) 2 2]) := by
  obtain ⟨_, h2, h3, P1, P2, h4⟩ := h
  exact both_any W A (some ⟨T, 0, none⟩) (some ⟨ch, 0, none⟩) c 2 2 la tpl2 ch2 h2 h3 (tpl_templates h4) (by decide) (tpl_chords h4) (by decide) iC_ch2
theorem both_din {W : World} {g : Nat} {A : Option Addr} {c T P1 P2 ch n : Nat} {la : List S36} {s : ByteArray} (h : DIn W g A c T P1 P2 ch la (.slice (some ⟨P1, 0, none⟩) n 2) s) (hn : n ≤ 2) (hs : s.size ≤ 5) :
    Both W (areasB la && templatesB (tplD n) && chordsB (chD s)) (.agg #[.slice A la.length c, .slice (some ⟨T, 0, none⟩) 2 2, .slice (some ⟨ch, 0, none⟩) 2 2]) := by
  obtain ⟨b, ok, hR⟩ := h.2.1
  obtain ⟨A2, c2, e, hc, hC⟩ := Kd.R_reads hR
  cases e
  exact both_any W A (some ⟨T, 0, none⟩) (some ⟨ch, 0, none⟩) c 2 2 la (tplD n) (chD s) hC hc (din_templates h hn) (by simp [tplD]) (din_chords h) (by simp [chD]) (iC_chD s hs)
theorem valid_made {w W : World} {l : List B2} {A : Option Addr} {c T : Nat} (h : MadeIn w W l A c T) (hB : IsB l) :
    Calls Try.prog 12 #[.agg #[.slice A (made l).length c, .slice (some ⟨T, 0, none⟩) 2 2, .slice (some ⟨w.heap.size + 1, 0, none⟩) 2 2]] W fun e w' => e = .returned (.bool true) ∧ Below W.heap.size W w' := by
  have h3 := h.2.2.2.1
  have hl := made_length l
  obtain ⟨A2, c2, e, hc, hC⟩ := Kd.R_reads h3
  rw [hl] at e
  cases e
  have := valid_any W A (some ⟨T, 0, none⟩) (some ⟨w.heap.size + 1, 0, none⟩) c 2 2 (made l) tpl2 ch2 hC hc (made_templates h) (made_chords h) iC_ch2
  rw [made_areas l hB, tpl2_valid, ch2_valid] at this
  exact this
end Go.Proofs.Ytplhilglokbplaa
