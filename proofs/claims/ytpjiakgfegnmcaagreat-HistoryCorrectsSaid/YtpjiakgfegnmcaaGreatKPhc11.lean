/- Parts of the proof, in this order: The reference's wellFormed and CheckNote; The plain law of a register, third part: the register of a set is right, its events are in order, its passes have their heaps; The plain law of corrections: a further judge, known last of all, turns no event but that of its note; The note that HistoryCorrects adds; What Fold and AsOf give back, as one predicate; registers of one value are the same. -/
import Derived.Test.YtpjiakgfegnmcaaGreatKPhc10
set_option linter.unusedSimpArgs false
set_option linter.unusedVariables false
namespace Go.Proofs.YtpjiakgfegnmcaaGreat
open Go.RowKit

/-- A frame and a note, boxed one behind the other. -/
structure LocF (w W : World) (p0 p1 : Nat) (f : FrV) (n : NoteV) (sa : Option Addr) (sc : Nat) : Prop where
  e0 : W.heap[p0]? = some (.cells #[.int .i64 f.rings, .int .i64 f.sectors, .int .i64 f.wide] 23 (0, 0))
  e1 : W.heap[p1]? = some (.cells (noteA n sa sc) 51 (0, 0))
  b : Below p0 w W
  lt : p0 < p1
theorem LocF.below {w W W' : World} {p0 p1 : Nat} {f : FrV} {n : NoteV} {sa : Option Addr} {sc : Nat} (h : LocF w W p0 p1 f n sa sc) (hb : Below W.heap.size W W') : LocF w W' p0 p1 f n sa sc := by
  have g : ∀ {k : Nat} {o : Obj}, W.heap[k]? = some o → W'.heap[k]? = some o := fun {k o} hk => (hb.block k (Array.getElem?_eq_some_iff.1 hk).1).trans hk
  have h0 := (Array.getElem?_eq_some_iff.1 h.e0).1
  exact ⟨g h.e0, g h.e1, h.b.trans (hb.mono (by omega)), h.lt⟩
section
attribute [local go_sem] noteA_0 noteA_1 noteA_2 noteA_3 noteA_4 noteA_5 noteA_6 noteA_7 noteA_8 noteA_9 noteA_10 noteA_11 noteA_12 noteA_13 noteA_14 noteA_15 noteA_16 noteA_17 noteA_18
variable (f : FrV) (n : NoteV) (sa : Option Addr) (sc : Nat) (w : World)
end
end Go.Proofs.YtpjiakgfegnmcaaGreat
namespace Go.Proofs.YtpjiakgfegnmcaaGreat
set_option linter.unusedSimpArgs false
set_option linter.unusedVariables false

theorem judgeP_mem {l : List NoteV} {r j : NoteV} (h : judgeP l r = some j) : j ∈ l ∧ candP r j = true := by
  have hg : ∀ (l : List NoteV) (b : Option NoteV), l.foldl (betterP r) b = some j → (j ∈ l ∧ candP r j = true) ∨ b = some j := by
    intro l
    induction l with
    | nil => intro b h; exact .inr h
    | cons x l ih =>
      intro b h
      rcases ih _ h with h1 | h1
      · exact .inl ⟨List.mem_cons_of_mem _ h1.1, h1.2⟩
      · unfold betterP at h1
        split at h1
        · rename_i hc
          split at h1
          · cases h1; exact .inl ⟨List.mem_cons_self .., hc⟩
          · split at h1
            · cases h1; exact .inl ⟨List.mem_cons_self .., hc⟩
            · exact .inr h1
        · exact .inr h1
  rcases hg l none h with h1 | h1
  · exact h1
  · cases h1
theorem mem_events {l : List NoteV} {e : NoteV} (h : e ∈ eventsP l) : ∃ r ∈ l, countP l r = some e := List.mem_filterMap.1 ((sortP_perm _).subset h)
end Go.Proofs.YtpjiakgfegnmcaaGreat
namespace Go.Proofs.YtpjiakgfegnmcaaGreat
set_option linter.unusedSimpArgs false
set_option linter.unusedVariables false

theorem judgeP_snoc (l : List NoteV) (x r : NoteV) : judgeP (l ++ [x]) r = betterP r (judgeP l r) x := by
  unfold judgeP
  rw [List.foldl_append]
  rfl
theorem count_other {l : List NoteV} {x r : NoteV} (h : refOf x ≠ nmOf r) : countP (l ++ [x]) r = countP l r := by
  have hc : candP r x = false := by
    unfold candP
    simp [h]
  have hb : betterP r (judgeP l r) x = judgeP l r := by
    unfold betterP
    rw [if_neg (by rw [hc]; decide)]
  unfold countP
  rw [judgeP_snoc, hb]
theorem count_filter {l : List NoteV} {x : NoteV} (r : NoteV) : (countP (l ++ [x]) r).filter (fun e => decide (nmOf e ≠ refOf x)) = (countP l r).filter (fun e => decide (nmOf e ≠ refOf x)) := by
  by_cases h : refOf x = nmOf r
  · have hg : ∀ m : List NoteV, (countP m r).filter (fun e => decide (nmOf e ≠ refOf x)) = none := by
      intro m
      cases hc : countP m r with
      | none => rfl
      | some e =>
        have := countP_nm hc
        simp [Option.filter, this, h]
    rw [hg, hg]
  · rw [count_other h]
theorem filter_count {l m : List NoteV} (p : NoteV → Bool) : (m.filterMap (countP l)).filter p = m.filterMap (fun r => (countP l r).filter p) := by
  induction m with
  | nil => rfl
  | cons a m ih =>
    cases hc : countP l a with
    | none => rw [List.filterMap_cons_none hc, List.filterMap_cons_none (by rw [hc]; rfl), ih]
    | some e =>
      rw [List.filterMap_cons_some hc]
      cases hp : p e with
      | true => rw [List.filter_cons_of_pos hp, List.filterMap_cons_some (b := e) (by rw [hc]; simp [Option.filter, hp]), ih]
      | false => rw [List.filter_cons_of_neg (by rw [hp]; decide), List.filterMap_cons_none (by rw [hc]; simp [Option.filter, hp]), ih]
theorem sort_filter {x y : List NoteV} (p : NoteV → Bool) (h : x.filter p = y.filter p) (hn : ((x.filter p).map nmOf).Nodup) : (sortP x).filter p = (sortP y).filter p := by
  have h1 : ((sortP x).filter p).Perm (x.filter p) := (sortP_perm x).filter p
  have h2 : ((sortP y).filter p).Perm (x.filter p) := by rw [h]; exact (sortP_perm y).filter p
  refine sorted_unique (lt := fun x y => decide (whenC x y < 0)) (fun a ha b hb k1 k2 => ?_) (h1.trans h2.symm) (((sortP_sorted x).sublist List.filter_sublist).imp (by simp)) (((sortP_sorted y).sublist List.filter_sublist).imp (by simp))
  have hn' := ((h1.map nmOf).nodup_iff).2 hn
  exact nodup_inj hn' ha hb (whenC_eq (by simpa using k1) (by simpa using k2))
/-- No event but that of its note turns. -/
theorem events_other {l : List NoteV} {x : NoteV} (hd : (l.map nmOf).Nodup) (hx : doneB x = false) : (eventsP (l ++ [x])).filter (fun e => decide (nmOf e ≠ refOf x)) = (eventsP l).filter (fun e => decide (nmOf e ≠ refOf x)) := by
  have hnone : countP (l ++ [x]) x = none := by unfold countP; rw [if_neg (by rw [hx]; decide)]
  have hf : ((l ++ [x]).filterMap (countP (l ++ [x]))).filter (fun e => decide (nmOf e ≠ refOf x)) = (l.filterMap (countP l)).filter (fun e => decide (nmOf e ≠ refOf x)) := by
    rw [List.filterMap_append, List.filterMap_cons_none hnone, List.filterMap_nil, List.append_nil, filter_count, filter_count]
    congr 1
    funext r
    exact count_filter r
  refine sort_filter _ hf ?_
  rw [hf]
  exact (count_nodup l l hd).sublist (List.filter_sublist.map _)
/-- A note that was withdrawn last counts in no event. -/
theorem late_gone {l : List NoteV} {x : NoteV} (hk : x.kind = 6) (hc : ∀ y ∈ l, y.clock < x.clock) : ∀ e ∈ eventsP (l ++ [x]), nmOf e ≠ refOf x := by
  intro e he hn
  obtain ⟨r, hr, h1⟩ := mem_events he
  have hrn := countP_nm h1
  have hdn : doneB r = true := by
    unfold countP at h1
    split at h1
    · assumption
    · cases h1
  have hdx : doneB x = false := by rw [doneB, inB_false, hk]; omega
  have hcand : candP r x = true := by
    unfold candP
    rw [hdx, hdn, ← hn, hrn]
    simp [judgesB, hk]
  unfold countP at h1
  rw [if_pos hdn, judgeP_snoc] at h1
  have hb : betterP r (judgeP l r) x = some x := by
    unfold betterP
    rw [if_pos hcand]
    cases hj : judgeP l r with
    | none => rfl
    | some y =>
      have := hc y (judgeP_mem hj).1
      simp only
      rw [if_pos ((knownC_neg y x).2 (.inl this))]
  rw [hb] at h1
  simp only at h1
  rw [if_pos hk] at h1
  cases h1
end Go.Proofs.YtpjiakgfegnmcaaGreat
namespace Go.Proofs.YtpjiakgfegnmcaaGreat
set_option linter.unusedSimpArgs false

def maxI (x y : Int) : Int := if y > x then y else x
theorem maxI_ge (x y : Int) : x ≤ maxI x y ∧ y ≤ maxI x y := by unfold maxI; split <;> omega
def lateOf (n : NoteV) (c m : Int) : NoteV := { n with house := 8, num := m, clock := c }
def lateC (l : List NoteV) : Int := l.foldl (fun m x => maxI m (IntKind.i64.wrap (x.clock + 1))) 1
def lateM (l : List NoteV) : Int := l.foldl (fun m x => if x.house = 8 then maxI m (IntKind.i64.wrap (x.num + 1)) else m) 1
theorem lateC_snoc (l : List NoteV) (x : NoteV) : lateC (l ++ [x]) = maxI (lateC l) (IntKind.i64.wrap (x.clock + 1)) := by simp [lateC, List.foldl_append]
theorem lateM_snoc (l : List NoteV) (x : NoteV) : lateM (l ++ [x]) = if x.house = 8 then maxI (lateM l) (IntKind.i64.wrap (x.num + 1)) else lateM l := by simp [lateM, List.foldl_append]
theorem wrap_range (z : Int) : -9223372036854775808 ≤ IntKind.i64.wrap z ∧ IntKind.i64.wrap z ≤ 9223372036854775807 := by
  rw [IntKind.wrap_i64]
  omega
theorem wrap_id {z : Int} (h1 : -9223372036854775808 ≤ z) (h2 : z ≤ 9223372036854775807) : IntKind.i64.wrap z = z := by
  rw [IntKind.wrap_i64]
  omega
theorem lateC_all (l : List NoteV) : (1 ≤ lateC l ∧ lateC l ≤ 9223372036854775807) ∧ ∀ y ∈ l, IntKind.i64.wrap (y.clock + 1) ≤ lateC l := by
  have h : ∀ (l : List NoteV) (m : Int), 1 ≤ m → m ≤ 9223372036854775807 → (m ≤ l.foldl (fun m x => maxI m (IntKind.i64.wrap (x.clock + 1))) m ∧ l.foldl (fun m x => maxI m (IntKind.i64.wrap (x.clock + 1))) m ≤ 9223372036854775807) ∧ ∀ y ∈ l, IntKind.i64.wrap (y.clock + 1) ≤ l.foldl (fun m x => maxI m (IntKind.i64.wrap (x.clock + 1))) m := by
    intro l
    induction l with
    | nil => intro m h1 h2; exact ⟨⟨Int.le_refl _, h2⟩, fun y hy => by cases hy⟩
    | cons x l ih =>
      intro m h1 h2
      have h3 := maxI_ge m (IntKind.i64.wrap (x.clock + 1))
      have h4 := wrap_range (x.clock + 1)
      have h5 : maxI m (IntKind.i64.wrap (x.clock + 1)) ≤ 9223372036854775807 := by unfold maxI; split <;> omega
      obtain ⟨⟨i1, i2⟩, i3⟩ := ih (maxI m (IntKind.i64.wrap (x.clock + 1))) (by omega) h5
      rw [List.foldl_cons]
      refine ⟨⟨by omega, i2⟩, fun y hy => ?_⟩
      rcases List.mem_cons.1 hy with rfl | hy
      · omega
      · exact i3 y hy
  have := h l 1 (by omega) (by omega)
  exact ⟨⟨this.1.1, this.1.2⟩, this.2⟩
theorem lateM_all (l : List NoteV) : 1 ≤ lateM l ∧ lateM l ≤ 9223372036854775807 := by
  have h : ∀ (l : List NoteV) (m : Int), 1 ≤ m → m ≤ 9223372036854775807 → 1 ≤ l.foldl (fun m x => if x.house = 8 then maxI m (IntKind.i64.wrap (x.num + 1)) else m) m ∧ l.foldl (fun m x => if x.house = 8 then maxI m (IntKind.i64.wrap (x.num + 1)) else m) m ≤ 9223372036854775807 := by
    intro l
    induction l with
    | nil => intro m h1 h2; exact ⟨h1, h2⟩
    | cons x l ih =>
      intro m h1 h2
      rw [List.foldl_cons]
      have h3 := maxI_ge m (IntKind.i64.wrap (x.num + 1))
      have h4 := wrap_range (x.num + 1)
      have h5 : maxI m (IntKind.i64.wrap (x.num + 1)) ≤ 9223372036854775807 := by unfold maxI; split <;> omega
      by_cases hh : x.house = 8
      · rw [if_pos hh]; exact ih _ (by omega) h5
      · rw [if_neg hh]; exact ih _ h1 h2
  exact h l 1 (by omega) (by omega)
theorem late_last {f : FrV} {l : List NoteV} (h : (checkSetP f l).1 = 0) : ∀ y ∈ l, y.clock < lateC l := by
  intro y hy
  have h1 := formed_clock ((set_ok h).2.2.1 y hy)
  have h2 := (lateC_all l).2 y hy
  rw [wrap_id (by omega) (by omega)] at h2
  omega
end Go.Proofs.YtpjiakgfegnmcaaGreat
namespace Go.Proofs.YtpjiakgfegnmcaaGreat
set_option linter.unusedSimpArgs false
open Go.RowKit

abbrev RegT := List NoteV × List NoteV × List Nm
def evP (n : NoteV) : Nm × NoteV := (nmOf n, n)
/-- A register in memory that has a value. -/
def RegOut (W : World) (v : Value) (T : RegT) : Prop :=
  ∃ (ha : Option Addr) (hn hc : Nat) (ea : Option Addr) (en ec : Nat) (ca : Option Addr) (cn cc : Nat) (hs es : List EvV), v = .agg #[.slice ha hn hc, .slice ea en ec, .slice ca cn cc] ∧
    RdEs W ha hn hc hs ∧ RdEs W ea en ec es ∧ RdA W 2 ca cn cc (nmCells T.2.2) ∧ (∀ e ∈ hs ++ es, e.x.ok W) ∧ hs.map evC = T.1.map evP ∧ es.map evC = T.2.1.map evP
theorem RegOut.below {W W' : World} {v : Value} {T : RegT} (h : RegOut W v T) (hb : Below W.heap.size W W') : RegOut W' v T := by
  obtain ⟨ha, hn, hc, ea, en, ec, ca, cn, cc, hs, es, rfl, h1, h2, h3, h4, h5, h6⟩ := h
  exact ⟨ha, hn, hc, ea, en, ec, ca, cn, cc, hs, es, rfl, h1.below hb, h2.below hb, h3.below hb, fun e he => (h4 e he).below hb, h5, h6⟩
theorem RegOut.empty (W : World) : RegOut W (.agg #[.slice none 0 0, .slice none 0 0, .slice none 0 0]) ([], [], []) :=
  ⟨none, 0, 0, none, 0, 0, none, 0, 0, [], [], rfl, ⟨rfl, Nat.le_refl _, Nat.zero_le _, .inl rfl⟩, ⟨rfl, Nat.le_refl _, Nat.zero_le _, .inl rfl⟩, RdA.nil _ _, fun e he => by simp at he, rfl, rfl⟩
/-- A list of notes in memory of its own. -/
structure NlAt (V W : World) (a : Option Addr) (c n : Nat) (ys : List LN) : Prop where
  bel : Below V.heap.size V W
  own : W.ownsRow V.heap.size 51 19 (.slice a n c) n (lnCells ys)
theorem NlAt.start (V : World) : NlAt V V none 0 0 [] := ⟨Below.refl _ _, World.ownsRow_nil _ _ _ _⟩
theorem NlAt.below {V W W' : World} {a : Option Addr} {c n : Nat} {ys : List LN} (h : NlAt V W a c n ys) (hb : Below W.heap.size W W') : NlAt V W' a c n ys := ⟨h.bel.trans (hb.mono h.bel.size), own_below h.own hb⟩
theorem NlAt.add {V W W' : World} {a a' : Option Addr} {c c' n : Nat} {ys : List LN} {x : LN} (h : NlAt V W a c n ys) (ho : W'.ownsRow V.heap.size 51 19 (.slice a' (n + 1) c') (n + 1) (lnCells ys ++ x.n.cells x.sa x.sc)) (hg : (W.alloc (.cells (noteA x.n x.sa x.sc) 51)).grownBy W' (Value.ownBlock (.slice a n c))) : NlAt V W' a' c' (n + 1) (ys ++ [x]) := by
  have bn : Below W.heap.size W (W.alloc (.cells (noteA x.n x.sa x.sc) 51)) := (Below.refl _ _).alloc (Nat.le_refl _) _
  have h2 := h.below bn
  exact ⟨h2.bel.grown hg h2.bel.size (fun k hk => (h2.own.lt k hk).1), by rw [lnCells_snoc]; exact ho⟩
theorem ls_ok {W : World} {a : Option Addr} {n c : Nat} {xs : List LN} (h : RdLs W a n c xs) {x : LN} (hx : x ∈ xs) : x.ok W := by
  have h0 : 0 < n := by have := List.length_pos_of_mem hx; have := h.1; omega
  obtain ⟨b, off, rfl, hat⟩ := h.at h0
  obtain ⟨i, hi⟩ := List.getElem?_of_mem hx
  exact (hat i x hi).2
theorem lnCells_one (xs : List LN) : ∀ u ∈ lnCells xs, u.oneCell' = true := by
  intro u hu
  rw [lnCells, List.mem_flatten] at hu
  obtain ⟨r, hr, h⟩ := hu
  obtain ⟨e, _, rfl⟩ := List.mem_map.1 hr
  exact e.n.cells_one _ _ u h
theorem rdA_ls {W : World} {a : Option Addr} {n c : Nat} {xs : List LN} (h : RdLs W a n c xs) : RdA W 19 a n c (lnCells xs) := by
  obtain ⟨h1, h2, h3, h4⟩ := h
  refine ⟨by rw [lnCells_len, h1], h2, h3, h4.imp id ?_⟩
  rintro ⟨b, off, rfl, hat⟩
  refine ⟨b, off, rfl, fun j v hv => ?_⟩
  have hl := (List.getElem?_eq_some_iff.1 hv).1
  rw [lnCells_len] at hl
  obtain ⟨x, hx⟩ : ∃ x, xs[j / 19]? = some x := ⟨_, List.getElem?_eq_getElem (by omega)⟩
  have h5 := flat_at 19 (xs.map fun x => x.n.cells x.sa x.sc) (by intro r hr; obtain ⟨y, _, rfl⟩ := List.mem_map.1 hr; rfl) (j / 19) (x.n.cells x.sa x.sc) (by rw [List.getElem?_map, hx]; rfl) (j % 19) (by omega)
  have h6 := (hat (j / 19) x hx).1 (j % 19) v (by rw [← h5, show j / 19 * 19 + j % 19 = j by omega]; exact hv)
  rwa [show off + j / 19 * 19 + j % 19 = off + j by omega] at h6
theorem blk_rd {W : World} {q : Nat} {n : NoteV} {sa : Option Addr} {sc : Nat} (h : W.heap[q]? = some (.cells (noteA n sa sc) 51 (0, 0))) : RdA W 19 (some ⟨q, 0, none⟩) 1 1 (n.cells sa sc) :=
  ⟨rfl, Nat.le_refl _, by unfold maxLen; omega, .inr ⟨q, 0, rfl, fun j v hv => by rw [Nat.zero_add]; exact cell_of h j v (by simpa [noteA] using hv)⟩⟩
theorem size21 (x : EvV) : (Tryz.prog.info? 53).map (·.size) = some x.cells.length := by kernel_rfl
/-- One goal for several orders. -/
theorem cut_rest {A1 A2 A3 A4 A5 A6 A7 A8 A9 A10 A11 : Type} {P T : A1 → A2 → A3 → A4 → A5 → A6 → A7 → A8 → A9 → A10 → A11 → Prop} {G : Prop}
    (h1 : (∀ x1 x2 x3 x4 x5 x6 x7 x8 x9 x10 x11, P x1 x2 x3 x4 x5 x6 x7 x8 x9 x10 x11 → T x1 x2 x3 x4 x5 x6 x7 x8 x9 x10 x11) → G) (h2 : ∀ x1 x2 x3 x4 x5 x6 x7 x8 x9 x10 x11, P x1 x2 x3 x4 x5 x6 x7 x8 x9 x10 x11 → T x1 x2 x3 x4 x5 x6 x7 x8 x9 x10 x11) : G := h1 h2
end Go.Proofs.YtpjiakgfegnmcaaGreat
