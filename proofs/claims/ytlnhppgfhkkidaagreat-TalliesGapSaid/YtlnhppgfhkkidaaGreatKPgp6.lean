/- Parts of the proof, in this order: Orders of names and notes, with the count of draws: what the library's sort asks of a comparison; slices.SortFunc of names and of notes, however many: the library's contract in this proof's words; Events in memory; the program's slices.IndexFunc over them, and HeapOf; slices.IndexFunc and ContainsFunc of notes; The program's HeapOf; A note in memory of its own: the program's copied; A note as its judge says: the program's counts; What the program's events yields: the plain law, and the state of its loop; The program's events: what counts, in the order in which it takes effect; The register in memory; the closures of the program's effects; The table of the program's effects; The plain law of a register, and its state in memory; From a walk that knows of no fence to one under the wide fence, in a round or not; a range over a function whose assignments make memory; One effect on a register; the state of a register within a range over events; The iterator of the program's events, in the range that makes a register; The program's register of a bench; AppendSeq and Collect of the program's events; The plain lemmas of AsOf: the sizes of what it finds; The plain law of a register: what AsOf of the program gives is told by plain functions on a list of notes; The plain law of a register, second part: the order of events, what they do, and the conflicts; AsOf of the program; Fold of the program, of a small set; The plain law of sets: a part of a set is a set; The reference's SameNote; The plain law of the union of two sets, and of where they fork. -/
import Derived.Shelf.SlSortCmp.NoneTotal
import Derived.Laws.EntriesVeiled
import Derived.Deep.Cut
import Derived.Test.YtlnhppgfhkkidaaGreatKPgp5
set_option linter.unusedSimpArgs false
set_option linter.unusedVariables false
open List renaming getElem_toArray → lq0, getElem_cons_succ → lq1, getElem_cons_zero → lq2, setIfInBounds_toArray → lq3, set_cons_zero → lq4, set_cons_succ → lq5
namespace Go.Proofs.YtlnhppgfhkkidaaGreat
set_option linter.unusedSimpArgs false
open Go.RowKit

structure Gro (B : Nat) (w w' : World) : Prop where
  bel : Below B w w'
  drawn : w.drawn ≤ w'.drawn
theorem Gro.refl (B : Nat) (w : World) : Gro B w w := ⟨Below.refl _ _, Nat.le_refl _⟩
theorem Gro.trans {B : Nat} {a b c : World} (h : Gro B a b) (k : Gro B b c) : Gro B a c := ⟨h.bel.trans k.bel, Nat.le_trans h.drawn k.drawn⟩
theorem Gro.mono {B B' : Nat} {w w' : World} (h : Gro B w w') (hB : B' ≤ B) : Gro B' w w' := ⟨h.bel.mono hB, h.drawn⟩
theorem Gro.drew {B : Nat} {a w : World} (h : Gro B a w) : Gro B a w.drew := ⟨h.bel.drew, by have := h.drawn; simp only [World.drew]; omega⟩
theorem Gro.alloc {B : Nat} {a w : World} (h : Gro B a w) (hB : B ≤ w.heap.size) (o : Obj) : Gro B a (w.alloc o) := ⟨h.bel.alloc hB o, h.drawn⟩
theorem Gro.size {B : Nat} {w w' : World} (h : Gro B w w') : w.heap.size ≤ w'.heap.size := h.bel.size
theorem Gro.block {B : Nat} {w w' : World} (h : Gro B w w') : ∀ k, k < B → w'.heap[k]? = w.heap[k]? := h.bel.block
section
attribute [local go_sem] noteA_0 noteA_1
end
structure TwoG (w W : World) (p q : Nat) (A B : Array Value) (t : TypeId) : Prop where
  e1 : W.heap[p]? = some (.cells A t (0, 0))
  e2 : W.heap[q]? = some (.cells B t (0, 0))
  b : Gro p w W
  lt : p < q
theorem TwoG.below {w W W' : World} {p q : Nat} {A B : Array Value} {t : TypeId} (h : TwoG w W p q A B t) (hb : Gro W.heap.size W W') : TwoG w W' p q A B t := by
  have g : ∀ {k : Nat} {o : Obj}, W.heap[k]? = some o → W'.heap[k]? = some o := fun {k o} hk => (hb.block k (Array.getElem?_eq_some_iff.1 hk).1).trans hk
  have h0 := (Array.getElem?_eq_some_iff.1 h.e1).1
  exact ⟨g h.e1, g h.e2, h.b.trans (hb.mono (by omega)), h.lt⟩
set_option maxHeartbeats 4000000 in
set_option maxRecDepth 100000 in
theorem compareNames_gro (x m y k : Int) (w : World) : Calls Tryz.prog 124 #[.agg #[.int .i64 x, .int .i64 m], .agg #[.int .i64 y, .int .i64 k]] w fun e w' => e = .returned (.int .i64 (namesC x m y k)) ∧ Gro w.heap.size w w' := by
  have g1 := heap_before _ (.cells (#[.int .i64 y, .int .i64 k]) 45) _ _ (heap_last w (.cells (#[.int .i64 x, .int .i64 m]) 45))
  have g2 := heap_at (w.alloc (.cells (#[.int .i64 x, .int .i64 m]) 45)) (.cells (#[.int .i64 y, .int .i64 k]) 45) (w.heap.size + 1) (by simp)
  have bb : Gro w.heap.size w ((w.alloc (.cells (#[.int .i64 x, .int .i64 m]) 45)).alloc (.cells (#[.int .i64 y, .int .i64 k]) 45)) := ((Gro.refl _ _).alloc (Nat.le_refl _) _).alloc (by simp) _
  have T0 : Hid (TwoG w ((w.alloc (.cells (#[.int .i64 x, .int .i64 m]) 45)).alloc (.cells (#[.int .i64 y, .int .i64 k]) 45)) w.heap.size (w.heap.size + 1) (#[.int .i64 x, .int .i64 m]) (#[.int .i64 y, .int .i64 k]) 45) := Lib.hid ⟨g1, g2, bb, by omega⟩
  clear g1 g2 bb
  go_enter Tryz.func124, Tryz.ntmps124
  go_upto_region 1 with fail
  generalize (w.alloc (.cells (#[.int .i64 x, .int .i64 m]) 45)).alloc (.cells (#[.int .i64 y, .int .i64 k]) 45) = W0 at *
  obtain ⟨p, hp⟩ : ∃ p, Hid (w.heap.size = p) := ⟨_, Lib.hid rfl⟩
  obtain ⟨q, hq⟩ : ∃ q, Hid (w.heap.size + 1 = q) := ⟨_, Lib.hid rfl⟩
  rw [hq.out, hp.out] at T0
  rw [hq.out, hp.out]
  have T1 := Lib.hid (T0.out.below (Gro.refl W0.heap.size W0).drew)
  refine wp_region_noPanic ?_
  refine wp_region_held_drew (S := fun w' => TwoG w w' p q (#[.int .i64 x, .int .i64 m]) (#[.int .i64 y, .int .i64 k]) 45) (by kernel_rfl) T1.out (fun hHeld => ?_)
  refine wpAnyH_take (i := 0) (v := .pointer (some ⟨p, 0, none⟩)) rfl (by kernel_rfl) (by kernel_rfl) (by kernel_rfl) (fun _ _ _ h => h) (Or.inl ⟨by rfl, by intro W _; go_simp⟩) (by assumption) ?_
  try simp only [Act.put, lq3, lq4, lq5]
  refine wpAnyH_take (i := 1) (v := .int .i64 x) rfl (by kernel_rfl) (by kernel_rfl) (by kernel_rfl) (fun _ _ _ h => h) (Or.inl ⟨by rfl, by intro W h; have hc := cell_of h.e1 0 (.int .i64 x) rfl; go_simp⟩) (by assumption) ?_
  try simp only [Act.put, lq3, lq4, lq5]
  refine wpAnyH_take (i := 2) (v := .pointer (some ⟨q, 0, none⟩)) rfl (by kernel_rfl) (by kernel_rfl) (by kernel_rfl) (fun _ _ _ h => h) (Or.inl ⟨by rfl, by intro W _; go_simp⟩) (by assumption) ?_
  try simp only [Act.put, lq3, lq4, lq5]
  refine wpAnyH_take (i := 3) (v := .int .i64 y) rfl (by kernel_rfl) (by kernel_rfl) (by kernel_rfl) (fun _ _ _ h => h) (Or.inl ⟨by rfl, by intro W h; have hc := cell_of h.e2 0 (.int .i64 y) rfl; go_simp⟩) (by assumption) ?_
  try simp only [Act.put, lq3, lq4, lq5]
  refine wpAnyH_take (i := 5) (v := .pointer (some ⟨p, 1, none⟩)) rfl (by kernel_rfl) (by kernel_rfl) (by kernel_rfl) (fun _ _ _ h => h) (Or.inl ⟨by rfl, by intro W _; go_simp⟩) (by assumption) ?_
  try simp only [Act.put, lq3, lq4, lq5]
  refine wpAnyH_take (i := 6) (v := .int .i64 m) rfl (by kernel_rfl) (by kernel_rfl) (by kernel_rfl) (fun _ _ _ h => h) (Or.inl ⟨by rfl, by intro W h; have hc := cell_of h.e1 1 (.int .i64 m) rfl; go_simp⟩) (by assumption) ?_
  try simp only [Act.put, lq3, lq4, lq5]
  refine wpAnyH_take (i := 7) (v := .pointer (some ⟨q, 1, none⟩)) rfl (by kernel_rfl) (by kernel_rfl) (by kernel_rfl) (fun _ _ _ h => h) (Or.inl ⟨by rfl, by intro W _; go_simp⟩) (by assumption) ?_
  try simp only [Act.put, lq3, lq4, lq5]
  refine wpAnyH_take (i := 8) (v := .int .i64 k) rfl (by kernel_rfl) (by kernel_rfl) (by kernel_rfl) (fun _ _ _ h => h) (Or.inl ⟨by rfl, by intro W h; have hc := cell_of h.e2 1 (.int .i64 k) rfl; go_simp⟩) (by assumption) ?_
  try simp only [Act.put, lq3, lq4, lq5]
  refine wpAnyH_ready (rs := [4]) (by kernel_rfl) (by simp) ?_
  refine AllReadyH.cons rfl (fun K hK => ?_) AllReadyH.nil
  go_simp
  go_at_call 173
  refine (compare_any x y _).mono ?_
  rintro e w1 ⟨rfl, rfl⟩
  dsimp only
  refine hK.out _ _ T1.out (fun hHeld => ?_)
  clear hK K
  try simp only [Act.put, lq3, lq4, lq5]
  refine wpAnyH_ready (rs := [9]) (by kernel_rfl) (by simp) ?_
  refine AllReadyH.cons rfl (fun K hK => ?_) AllReadyH.nil
  go_simp
  go_at_call 173
  refine (compare_any m k _).mono ?_
  rintro e w1 ⟨rfl, rfl⟩
  dsimp only
  refine hK.out _ _ T1.out (fun hHeld => ?_)
  clear hK K
  try simp only [Act.put, lq3, lq4, lq5]
  refine wpAnyH_ready (rs := [10]) (by kernel_rfl) (by simp) ?_
  refine AllReadyH.cons rfl (fun K hK => ?_) AllReadyH.nil
  go_simp
  have TB := Lib.hid (T1.out.below ((Gro.refl W0.drew.heap.size W0.drew).alloc (Nat.le_refl _) (.cells #[.int .i64 (cmpI x y), .int .i64 (cmpI m k)] 3)))
  refine hK.out _ _ TB.out (fun hHeld => ?_)
  clear hK K
  try simp only [Act.put, lq3, lq4, lq5]
  refine wpAnyH_ready (rs := [11]) (by kernel_rfl) (by simp) ?_
  refine AllReadyH.cons rfl (fun K hK => ?_) AllReadyH.nil
  go_simp
  go_at_call 172
  refine (or_two W0.drew.heap.size (cmpI x y) (cmpI m k) _ (heap_last W0.drew _)).mono ?_
  rintro e w1 ⟨rfl, rfl⟩
  dsimp only
  refine hK.out _ _ TB.out (fun hHeld => ?_)
  clear hK K
  try simp only [Act.put, lq3, lq4, lq5]
  refine wpAnyH_take (i := 12) (v := .int .i64 (orI (cmpI x y) (cmpI m k))) rfl (by kernel_rfl) (by kernel_rfl) (by kernel_rfl) (fun _ _ _ h => h) (Or.inl ⟨by rfl, by intro W _; go_simp⟩) (by assumption) ?_
  try simp only [Act.put, lq3, lq4, lq5]
  have TE := TB
  refine wpAnyH_done (by kernel_rfl) ?_ _
  refine NoPanic.normal ?_
  change Exit.then _ _ Exit.normal { tmps := #[.agg #[.int .i64 x, .int .i64 m], .agg #[.int .i64 y, .int .i64 k], .pointer (some ⟨p, 0, none⟩), .pointer (some ⟨q, 0, none⟩), .int .i64 (orI (cmpI x y) (cmpI m k)), .pointer (some ⟨p, 0, none⟩), .int .i64 x, .pointer (some ⟨q, 0, none⟩), .int .i64 y, .int .i64 (cmpI x y), .pointer (some ⟨p, 1, none⟩), .int .i64 m, .pointer (some ⟨q, 1, none⟩), .int .i64 k, .int .i64 (cmpI m k), .slice (some ⟨W0.drew.heap.size, 0, none⟩) 2 2, .int .i64 (orI (cmpI x y) (cmpI m k))], defers := [] } _
  go_wp2_with fail
  go_ret
  exact ⟨rfl, by rw [hp.out]; exact TE.out.b⟩
section
attribute [local go_sem] noteA_0
end
end Go.Proofs.YtlnhppgfhkkidaaGreat
namespace Go.Proofs.YtlnhppgfhkkidaaGreat
set_option linter.unusedSimpArgs false
open Go.RowKit Go.Sort Go.Shelf

theorem swo_of {V : Type} {lt : V → V → Bool} (ho : Ord lt) : SWO lt where
  irrefl x := by
    cases h : lt x x with
    | false => rfl
    | true => have := ho.1 x x h; rw [h] at this; cases this
  trans x y z h1 h2 := by
    cases h3 : lt x z with
    | true => rfl
    | false =>
      have h4 := ho.1 y z h2
      have h5 := ho.2 y z x h4 h3
      rw [h1] at h5; cases h5
  ntrans x y z h1 h2 := ho.2 z y x h2 h1
theorem grown_of {w w' : World} (h : Gro w.heap.size w w') : ∃ q os, w' = grow (w.drewN q) os := by
  refine ⟨w'.drawn - w.drawn, w'.heap.extract w.heap.size w'.heap.size, ?_⟩
  have hd := h.drawn
  obtain ⟨heap', tape', drawn', os', output'⟩ := w'
  have e1 : os' = w.os := h.bel.os
  have e2 : tape' = w.tape := h.bel.tape
  have e3 : output' = w.output := h.bel.output
  have hs : w.heap.size ≤ heap'.size := h.bel.size
  have hb : ∀ k, k < w.heap.size → heap'[k]? = w.heap[k]? := h.bel.block
  subst e1 e2 e3
  have eh : heap' = w.heap ++ heap'.extract w.heap.size heap'.size := by
    apply Array.ext_getElem?
    intro k
    by_cases hk : k < w.heap.size
    · rw [Array.getElem?_append_left hk]; exact hb k hk
    · rw [Array.getElem?_append_right (by omega), Array.getElem?_extract]
      by_cases hk2 : k < heap'.size
      · rw [if_pos (by omega)]; congr 1; omega
      · rw [if_neg (by omega), Array.getElem?_eq_none (by omega)]
  have ed : drawn' = w.drawn + (drawn' - w.drawn) := by simp only at hd; omega
  simp only [grow, World.drewN]
  congr 1
theorem flat_len (k : Nat) : ∀ (rows : List (List Value)), (∀ r ∈ rows, r.length = k) → rows.flatten.length = rows.length * k
  | [], _ => by simp
  | r :: rows, h => by
    rw [List.flatten_cons, List.length_append, flat_len k rows (fun x hx => h x (List.mem_cons_of_mem _ hx)), h r (List.mem_cons_self ..), List.length_cons, Nat.add_mul]
    omega
theorem flat_at (k : Nat) : ∀ (rows : List (List Value)), (∀ r ∈ rows, r.length = k) → ∀ (i : Nat) (r : List Value), rows[i]? = some r → ∀ (j : Nat), j < k → rows.flatten[i * k + j]? = r[j]?
  | [], _, i, r, hi, _, _ => by simp at hi
  | x :: rows, h, 0, r, hi, j, hj => by
    have : x = r := by simpa using hi
    subst this
    rw [List.flatten_cons, Nat.zero_mul, Nat.zero_add, List.getElem?_append_left (by rw [h x (List.mem_cons_self ..)]; exact hj)]
  | x :: rows, h, i + 1, r, hi, j, hj => by
    have hi' : rows[i]? = some r := by simpa using hi
    rw [List.flatten_cons, List.getElem?_append_right (by rw [h x (List.mem_cons_self ..), Nat.add_mul]; omega), h x (List.mem_cons_self ..),
      show (i + 1) * k + j - k = i * k + j by rw [Nat.add_mul]; omega]
    exact flat_at k rows (fun y hy => h y (List.mem_cons_of_mem _ hy)) i r hi' j hj
theorem flatK_at {V : Type} [Inhabited V] (row : V → List Value) (k : Nat) (hlen : ∀ x, (row x).length = k) (ys : List V) (t : Nat) (ht : t < ys.length * k) : (ys.map row).flatten[t]? = some (flatK row k ys.toArray)[t]! := by
  have hk : 0 < k := Nat.pos_of_ne_zero (fun e => by subst e; simp at ht)
  have hi : t / k < ys.length := by rw [Nat.div_lt_iff_lt_mul hk]; exact ht
  have hj := Nat.mod_lt t hk
  have e : t / k * k + t % k = t := by rw [Nat.mul_comm]; exact Nat.div_add_mod t k
  have h1 := flat_at k (ys.map row) (by intro r hr; obtain ⟨x, _, rfl⟩ := List.mem_map.1 hr; exact hlen x) (t / k) (row ys[t / k]) (by rw [List.getElem?_map, List.getElem?_eq_getElem hi]; rfl) (t % k) hj
  rw [e] at h1
  rw [h1, get_flatK row k ys.toArray t (by simpa using ht)]
  have h2 : (ys.toArray)[t / k]! = ys[t / k] := by
    rw [getElem!_pos ys.toArray (t / k) (by simpa using hi)]
    simp
  rw [h2, List.getElem?_eq_getElem (by rw [hlen]; exact hj)]
  rw [getElem!_pos (row ys[t / k]) (t % k) (by rw [hlen]; exact hj)]
theorem sort_all {V : Type} [Inhabited V] {lt : V → V → Bool} {ty : TypeId} {ρ : Ren} (L : SlLaysF0.n6 Tryz.prog ρ) (k : Nat) (aE : ∀ w, (isAgg (ρ.t 24)).run Tryz.prog w = .ok true w) (zE : ∀ w, (Go.sizeOf (ρ.t 24)).run Tryz.prog w = .ok k w)
    (ho : Ord lt) (row : V → List Value) (hlen : ∀ x, (row x).length = k) (hone : ∀ x, ∀ v ∈ row x, v.oneCell' = true) (cf : V → V → Int) (hlt : ∀ x y, lt x y = decide (cf x y < 0)) (fn : Nat)
    (hfn : ∀ (args : Array Value) (w : World), (callFunc fn args).run Tryz.prog w = .ok (.enter fn args) w)
    (hcmp : ∀ (x y : V) (w : World), Calls Tryz.prog fn #[.agg (row x).toArray, .agg (row y).toArray] w fun e w' => e = .returned (.int .i64 (cf x y)) ∧ Gro w.heap.size w w')
    (base n c : Nat) (a : Option Addr) (ys : List V) (w : World) (hR : w.ownsRow base ty k (.slice a n c) n (ys.map row).flatten) (hn : ys.length = n) (hsm : n ≤ 1000000) :
    Calls Tryz.prog (ρ.f 6) #[.slice a n c, .func (.func fn) #[] #[]] w fun e w' =>
      e = .returned (.tuple #[]) ∧ ∃ zs : List V, w'.ownsRow base ty k (.slice a n c) n (zs.map row).flatten ∧ zs.Perm ys ∧ zs.Pairwise (fun x y => lt y x = false) ∧ Same (fun k => Value.ownBlock (.slice a n c) = some k) w w' := by
  rcases hR.2 with ⟨h2, h3⟩ | ⟨g, cap, cur, h2, hbg, hg, hnc, hcm, hcs, htake⟩
  · simp only [Value.slice.injEq] at h2
    obtain ⟨rfl, rfl, rfl⟩ := h2
    have hy : ys = [] := List.eq_nil_of_length_eq_zero hn
    subst hy
    refine (AnyF.slices_SortFunc_none L none 0 _ w).mono ?_
    rintro e w' ⟨rfl, rfl⟩
    exact ⟨rfl, [], hR, List.Perm.refl _, List.Pairwise.nil, Same.refl _ _⟩
  · simp only [Value.slice.injEq] at h2
    obtain ⟨rfl, _, rfl⟩ := h2
    have hgl := blk_lt hg
    have hnk : n * k ≤ c * k := Nat.mul_le_mul_right _ hnc
    have hlt' : ltOf cf = lt := by funext x y; rw [hlt]; rfl
    have hH : HoldsK row k w g 0 ys.toArray := by
      intro t ht
      rw [size_flatK] at ht
      have ht' : t < ys.length * k := by simpa using ht
      have h5 := flatK_at row k hlen ys t ht'
      rw [← htake, List.getElem?_take, if_pos (by rw [← hn]; exact ht')] at h5
      refine ⟨?_, by simp [World.frozen?, hg]⟩
      simp only [World.cell?, hg, Nat.zero_add, id_eq]
      simpa using h5
    have hcL : CmpLays Tryz.prog fn #[] row k cf g 0 ys.toArray.size w := fun m os dk _ x y => by
      refine (hcmp x y _).mono ?_
      rintro e w' ⟨rfl, hgr⟩
      exact ⟨rfl, grown_of hgr⟩
    have hsz : ys.toArray.size = n := by simpa using hn
    have hcon := AnyQ.slices_SortFunc L k aE zE row hlen hone cf (by rw [hlt']; exact swo_of ho) fn #[] g 0 c ys.toArray w hfn hcL hH hgl (by rw [hsz]; omega)
    rw [hsz] at hcon
    refine hcon.mono ?_
    rintro e w' ⟨rfl, d', q, os, hp, hs, rfl⟩
    have hds : d'.size = n := by rw [hp.1, hsz]
    have hdl : d'.toList.length = n := by simpa using hds
    refine ⟨rfl, d'.toList, ⟨?_, .inr ⟨g, c, putCells id 0 (flatK row k d') cur, rfl, hbg, ?_, hnc, hcm, ?_, ?_⟩⟩, ?_, ?_, ?_⟩
    · rw [flat_len k _ (by intro r hr; obtain ⟨x, _, rfl⟩ := List.mem_map.1 hr; exact hlen x), List.length_map, hdl]
    · simp only [sortWorldK, grow, putRowK, putRow, mapBlock, Sort.ahead]
      rw [Array.getElem?_append_left (by simpa using hgl), Array.getElem?_modify, if_pos rfl, hg]
      rfl
    · rw [← hcs]; simp [putCells]
    · apply List.ext_getElem?
      intro t
      rw [List.getElem?_take]
      by_cases ht : t < n * k
      · rw [if_pos ht]
        have h5 := flatK_at row k hlen d'.toList t (by rw [hdl]; exact ht)
        rw [h5]
        have htc : t < cur.size := by rw [hcs]; omega
        simp only [putCells, Array.getElem?_toList, Array.getElem?_mapIdx, Array.getElem?_eq_getElem htc, Option.map_some]
        rw [if_pos ⟨Nat.zero_le _, by rw [size_flatK, hds, Nat.zero_add]; exact ht⟩]
        simp
      · rw [if_neg ht, List.getElem?_eq_none]
        rw [flat_len k _ (by intro r hr; obtain ⟨x, _, rfl⟩ := List.mem_map.1 hr; exact hlen x), List.length_map, hdl]
        omega
    · have h6 := hp.2.2
      have h7 : d'.extract 0 n = d' := by rw [← hds]; simp
      have h8 : ys.toArray.extract 0 n = ys.toArray := by rw [← hsz]; simp
      rw [h7, h8] at h6
      simpa using h6
    · rw [hlt'] at hs
      rw [List.pairwise_iff_getElem]
      intro i j hi hj hij
      have h9 := hs i j (Nat.zero_le _) hij (by rw [hdl] at hj; exact hj)
      rw [getElem!_pos d' j (by simpa using hj), getElem!_pos d' i (by simpa using hi)] at h9
      simpa using h9
    · refine ⟨rfl, rfl, rfl, by simp [sortWorldK, grow, putRowK, putRow, mapBlock, Sort.ahead], fun q' hq' hne => ?_⟩
      have hqg : g ≠ q' := fun e => hne (by rw [← e]; rfl)
      simp only [sortWorldK, grow, putRowK, putRow, mapBlock, Sort.ahead]
      rw [Array.getElem?_append_left (by simpa using hq'), Array.getElem?_modify, if_neg hqg]
theorem sortName_all {V : Type} [Inhabited V] {lt : V → V → Bool} (ho : Ord lt) (row : V → List Value) (hlen : ∀ x, (row x).length = 2) (hone : ∀ x, ∀ v ∈ row x, v.oneCell' = true) (cf : V → V → Int) (hlt : ∀ x y, lt x y = decide (cf x y < 0)) (fn : Nat)
    (hfn : ∀ (args : Array Value) (w : World), (callFunc fn args).run Tryz.prog w = .ok (.enter fn args) w)
    (hcmp : ∀ (x y : V) (w : World), Calls Tryz.prog fn #[.agg (row x).toArray, .agg (row y).toArray] w fun e w' => e = .returned (.int .i64 (cf x y)) ∧ Gro w.heap.size w w')
    (base n c : Nat) (a : Option Addr) (ys : List V) (w : World) (hR : w.ownsRow base 45 2 (.slice a n c) n (ys.map row).flatten) (hn : ys.length = n) (hsm : n ≤ 1000000) :
    Calls Tryz.prog 170 #[.slice a n c, .func (.func fn) #[] #[]] w fun e w' =>
      e = .returned (.tuple #[]) ∧ ∃ zs : List V, w'.ownsRow base 45 2 (.slice a n c) n (zs.map row).flatten ∧ zs.Perm ys ∧ zs.Pairwise (fun x y => lt y x = false) ∧ Same (fun k => Value.ownBlock (.slice a n c) = some k) w w' :=
  sort_all Tryz.sortName 2 Tryz.isAgg45 Tryz.sizeOf45 ho row hlen hone cf hlt fn hfn hcmp base n c a ys w hR hn hsm
end Go.Proofs.YtlnhppgfhkkidaaGreat
namespace Go.Proofs.YtlnhppgfhkkidaaGreat
set_option linter.unusedSimpArgs false
open Go.RowKit

structure EvV where
  nm : Nm
  x : LN
def EvV.cells (e : EvV) : List Value := [.int .i64 e.nm.1, .int .i64 e.nm.2] ++ e.x.n.cells e.x.sa e.x.sc
def RdEs (W : World) (a : Option Addr) (n c : Nat) (es : List EvV) : Prop :=
  es.length = n ∧ n ≤ c ∧ c ≤ maxLen ∧ (c = 0 ∨ ∃ b off, a = some ⟨b, off, none⟩ ∧ ∀ i x, es[i]? = some x → W.rangeAt b (off + i * 21) x.cells)
theorem RdEs.below {W W' : World} {a : Option Addr} {n c : Nat} {l : List EvV} (h : RdEs W a n c l) (hb : Below W.heap.size W W') : RdEs W' a n c l := by
  refine ⟨h.1, h.2.1, h.2.2.1, h.2.2.2.imp id ?_⟩
  rintro ⟨b, off, rfl, h4⟩
  exact ⟨b, off, rfl, fun i x hx => rangeAt_below (h4 i x hx) hb⟩
theorem RdEs.at {W : World} {a : Option Addr} {n c : Nat} {l : List EvV} (h : RdEs W a n c l) (h0 : 0 < n) : ∃ b off, a = some ⟨b, off, none⟩ ∧ ∀ i x, l[i]? = some x → W.rangeAt b (off + i * 21) x.cells := by
  rcases h.2.2.2 with h4 | h4
  · have := h.2.1; omega
  · exact h4
theorem RdEs.maxn {W : World} {a : Option Addr} {n c : Nat} {l : List EvV} (h : RdEs W a n c l) : n ≤ 9223372036854775807 := by
  have h1 := h.2.1; have h2 := h.2.2.1; unfold maxLen at h2; omega
theorem idx_off {t e : TypeId} {k b off n c j o : Nat} {W : World} (ht : Tryz.prog.underlying t = some (.slice e)) (hk : (Tryz.prog.info? e).map (·.size) = some k) (hj : j < n) (ho : off + j * k = o) :
    (Instr.indexAt t (.slice (some ⟨b, off, none⟩) n c) (.int .i64 (j : Int))).run Tryz.prog W = .ok (.pointer (some ⟨b, o, none⟩)) W := by
  subst ho
  cases hq : Tryz.prog.info? e with
  | none => simp [hq] at hk
  | some i =>
    simp only [hq, Option.map_some, Option.some.injEq] at hk
    simp [Instr.indexAt, run_underlying ht, Instr.sureAddr, asIntOf, sizeOf, typeInfo, hq, hk, Addr.add, hj]
def idxI (es : List EvV) (p : EvV → Bool) : Int := match es.findIdx? p with | some i => (i : Int) | none => -1
end Go.Proofs.YtlnhppgfhkkidaaGreat
namespace Go.Proofs.YtlnhppgfhkkidaaGreat
set_option linter.unusedSimpArgs false
open Go.RowKit

def idxL (es : List LN) (p : LN → Bool) : Int := match es.findIdx? p with | some i => (i : Int) | none => -1
theorem idxL_at {es : List LN} {p : LN → Bool} {k : Nat} {x : LN} (hx : es[k]? = some x) (hp : p x = true) (hb : ∀ j y, j < k → es[j]? = some y → p y = false) : idxL es p = k := by
  have : es.findIdx? p = some k := by
    rw [List.findIdx?_eq_some_iff_getElem]
    obtain ⟨h1, rfl⟩ := List.getElem?_eq_some_iff.1 hx
    exact ⟨h1, hp, fun j hj => by rw [hb j _ hj (List.getElem?_eq_getElem (by omega))]; decide⟩
  simp [idxL, this]
theorem idxL_none {es : List LN} {p : LN → Bool} (hb : ∀ j y, j < es.length → es[j]? = some y → p y = false) : idxL es p = -1 := by
  have : es.findIdx? p = none := by
    rw [List.findIdx?_eq_none_iff]
    intro x hx
    obtain ⟨j, h1, h2⟩ := List.getElem_of_mem hx
    exact hb j x h1 (by rw [List.getElem?_eq_getElem h1, h2])
  simp [idxL, this]
set_option maxHeartbeats 4000000 in
set_option maxRecDepth 100000 in
theorem indexL_any (es : List LN) (pred : LN → Bool) (fn : Nat) (cv : Value) (hfn : ∀ (args : Array Value) (w : World), (callFunc fn args).run Tryz.prog w = .ok (.enter fn args) w)
    (a : Option Addr) (n c : Nat) (w : World) (hr : RdLs w a n c es)
    (hp : ∀ e ∈ es, ∀ W, Below w.heap.size w W → Calls Tryz.prog fn #[.agg (noteA e.n e.sa e.sc), cv] W fun r W' => r = .returned (.bool (pred e)) ∧ Below W.heap.size W W') :
    Calls Tryz.prog 112 #[.slice a n c, .func (.func fn) #[] #[cv]] w fun e w' => e = .returned (.int .i64 (idxL es pred)) ∧ Below w.heap.size w w' := by
  have I19 : (Tryz.prog.info? 47).map (·.size) = some 19 := by kernel_rfl
  have hn63 : n ≤ 9223372036854775807 := by have h1 := hr.2.1; have h2 := hr.2.2.1; unfold maxLen at h2; omega
  have HN := Lib.hid hr.1
  have RE := Lib.hid (show ∀ W, Below w.heap.size w W → RdLs W a n c es from fun W h => hr.below h)
  have HPD := Lib.hid hp
  clear hr hp
  go_enter Tryz.func112, Tryz.ntmps112
  go_wp2_with fail
  go_loopw [5, 8] (fun _ i wr => ∃ k : Nat, i = .int .i64 k ∧ k ≤ n ∧ Hid (∀ j y, j < k → es[j]? = some y → pred y = false) ∧ Hid (Below w.heap.size w wr)) (fun _ i _ => n - (intOf i).toNat)
  case atStart => exact ⟨0, rfl, Nat.zero_le _, Lib.hid (fun j y h => by omega), Lib.hid (Below.refl _ _)⟩
  case round =>
    obtain ⟨k, rfl, hk, HB, B1⟩ := hrel
    by_cases hkn : k < n
    · have t0 : decide ((k : Int) < (n : Int)) = true := by simp; omega
      obtain ⟨b, off, rfl, hat⟩ := (RE.out _ B1.out).at (show 0 < n by omega)
      obtain ⟨x, Hx⟩ : ∃ x, es[k]? = some x := ⟨es[k]'(by rw [HN.out]; exact hkn), List.getElem?_eq_getElem (by rw [HN.out]; exact hkn)⟩
      have HR := Lib.hid (hat k x Hx).1
      obtain ⟨o, ho⟩ : ∃ o, Hid (off + k * 19 = o) := ⟨_, Lib.hid rfl⟩
      rw [ho.out] at HR
      have hi := fun W => idx_off (W := W) (c := c) (b := b) Tryz.underlying24 I19 hkn ho.out
      have hk64 : (k : Int) + 1 ≤ 9223372036854775807 := by omega
      clear hat
      go_wp2_with (refine wpList_load_mid rfl 47 _ rfl b o rfl (x.n.cells x.sa x.sc) _ HR.out Tryz.underlying47 rfl (by exact I19) ?_)
      refine (HPD.out x (List.mem_of_getElem? Hx) _ B1.out).mono ?_
      rintro e w2 ⟨rfl, b2⟩
      have B2 := Lib.hid (B1.out.trans (b2.mono B1.out.size))
      clear b2 hi t0
      cases hpx : pred x with
      | true =>
        go_wp2_with fail
        go_ret
        exact ⟨by rw [idxL_at Hx hpx HB.out]; rfl, B2.out⟩
      | false =>
        have HPX := Lib.hid hpx; clear hpx
        go_wp2_with fail
        go_roundw
        case rel => exact ⟨k + 1, by simp, by omega, Lib.hid (fun j y hj hy => by
          rcases Nat.lt_or_ge j k with h | h
          · exact HB.out j y h hy
          · have e : j = k := by omega
            subst e
            rw [Hx] at hy
            cases hy
            exact HPX.out), B2⟩
        case measure => simp [intOf]; omega
    · have t0 : decide ((k : Int) < (n : Int)) = false := by simp; omega
      go_wp2_with fail
      go_ret
      exact ⟨by rw [idxL_none (fun j y hj hy => HB.out j y (by have := HN.out; omega) hy)]; rfl, B1.out⟩
theorem idxL_any {es : List LN} {p : LN → Bool} : decide (0 ≤ idxL es p) = es.any p := by
  unfold idxL
  cases h : es.findIdx? p with
  | none =>
    rw [List.findIdx?_eq_none_iff] at h
    have h2 : es.any p = false := by
      rw [List.any_eq_false]
      intro x hx
      rw [h x hx]
      decide
    rw [h2]
    rfl
  | some i =>
    obtain ⟨h1, h2, _⟩ := List.findIdx?_eq_some_iff_getElem.1 h
    have h3 : es.any p = true := List.any_eq_true.2 ⟨_, List.getElem_mem h1, h2⟩
    rw [h3]
    simp
set_option maxHeartbeats 4000000 in
set_option maxRecDepth 100000 in
theorem containsL_any (es : List LN) (pred : LN → Bool) (fn : Nat) (cv : Value) (hfn : ∀ (args : Array Value) (w : World), (callFunc fn args).run Tryz.prog w = .ok (.enter fn args) w)
    (a : Option Addr) (n c : Nat) (w : World) (hr : RdLs w a n c es)
    (hp : ∀ e ∈ es, ∀ W, Below w.heap.size w W → Calls Tryz.prog fn #[.agg (noteA e.n e.sa e.sc), cv] W fun r W' => r = .returned (.bool (pred e)) ∧ Below W.heap.size W W') :
    Calls Tryz.prog 54 #[.slice a n c, .func (.func fn) #[] #[cv]] w fun e w' => e = .returned (.bool (es.any pred)) ∧ Below w.heap.size w w' := by
  have HX := Lib.hid (indexL_any es pred fn cv hfn a n c w hr hp)
  clear hr hp hfn
  go_enter Tryz.func54, Tryz.ntmps54
  go_wp2_with fail
  refine HX.out.mono ?_
  rintro e w1 ⟨rfl, b1⟩
  have B1 := Lib.hid b1
  clear b1
  have hq := @idxL_any es pred
  go_wp2_with fail
  go_ret
  exact ⟨by first | rfl | (rw [← hq]; rfl), B1.out⟩
end Go.Proofs.YtlnhppgfhkkidaaGreat
namespace Go.Proofs.YtlnhppgfhkkidaaGreat
set_option linter.unusedSimpArgs false
open Go.RowKit

def isNm (h m : Int) (e : EvV) : Bool := decide (e.nm.1 = h ∧ e.nm.2 = m)
end Go.Proofs.YtlnhppgfhkkidaaGreat
namespace Go.Proofs.YtlnhppgfhkkidaaGreat
open Go.RowKit

theorem noteA_15s (n : NoteV) (sa ta : Option Addr) (sc tc : Nat) : (noteA n sa sc).setIfInBounds 15 (.slice ta n.strokes.length tc) = noteA n ta tc := rfl
section
attribute [local go_sem] noteA_15
set_option maxHeartbeats 4000000 in
set_option maxRecDepth 100000 in
theorem copied_any (n : NoteV) (sa : Option Addr) (sc : Nat) (w : World) (hs : RdI w sa n.strokes.length sc n.strokes) (hl : n.strokes.length ≤ 1000000000) :
    Calls Tryz.prog 66 #[.agg (noteA n sa sc)] w fun e w' => ∃ ta tc, e = .returned (.agg (noteA n ta tc)) ∧ w'.ownsRow w.heap.size 3 1 (.slice ta n.strokes.length tc) n.strokes.length (n.strokes.map intV) ∧ Below w.heap.size w w' := by
  have I43 := Lib.hid (show ∀ (m : NoteV) (a : Option Addr) (c : Nat), (Tryz.prog.info? 47).map (·.size) = some (noteA m a c).size from fun m a c => by kernel_rfl)
  go_enter Tryz.func66, Tryz.ntmps66
  go_upto_region 1 with fail
  rw [← noteA_zero]
  have g0 := heap_before _ (.cells (noteA zeroN none 0) 47) _ _ (heap_last w (.cells (noteA n sa sc) 47))
  have g1 := heap_at (w.alloc (.cells (noteA n sa sc) 47)) (.cells (noteA zeroN none 0) 47) (w.heap.size + 1) (by simp)
  have bb : Below w.heap.size w ((w.alloc (.cells (noteA n sa sc) 47)).alloc (.cells (noteA zeroN none 0) 47)) := ((Below.refl _ _).alloc (Nat.le_refl _) _).alloc (by simp) _
  have L0 : Hid (TwoC w ((w.alloc (.cells (noteA n sa sc) 47)).alloc (.cells (noteA zeroN none 0) 47)) w.heap.size (w.heap.size + 1) (noteA n sa sc) (noteA zeroN none 0) 47) := Lib.hid ⟨g0, g1, bb, by omega⟩
  have RI := Lib.hid (hs.below bb)
  clear g0 g1 bb hs
  generalize (w.alloc (.cells (noteA n sa sc) 47)).alloc (.cells (noteA zeroN none 0) 47) = W2 at *
  generalize hp0 : w.heap.size = p0 at *
  generalize hp1 : p0 + 1 = p1 at *
  have HP0 := Lib.hid hp0; clear hp0 hp1
  obtain ⟨m, hm⟩ : ∃ m, Hid (n.strokes.length = m) := ⟨_, Lib.hid rfl⟩
  have c15 : W2.cell? ⟨p0, 15, none⟩ = some (.slice sa m sc) := by rw [← hm.out]; exact cell_of L0.out.e1 15 _ rfl
  rw [hm.out] at RI hl
  go_wp2_with fail
  refine (cloneI_any sa m sc n.strokes W2 (by omega) RI.out).mono ?_
  rintro e W3 ⟨ta, tc, rfl, ho, b3⟩
  have L3 := Lib.hid (L0.out.below b3)
  have O3 := Lib.hid (own_mono ho (show p0 ≤ W2.heap.size by have := blk_lt L0.out.e1; omega))
  clear ho b3 c15
  have c15 := cell_of L3.out.e1 15 _ rfl
  have f15 := frozen_of L3.out.e1 15
  have T3 := Lib.hid (own_no O3.out L3.out.e1 (fun cur h => by simp at h))
  have G3 := setCell_grown W3 p0 15 (.slice ta m tc)
  have E3 : Hid ((W3.setCell ⟨p0, 15, none⟩ (.slice ta m tc)).heap[p0]? = some (.cells (noteA n ta tc) 47 (0, 0))) := Lib.hid (by
    have := setCell_at L3.out.e1 15 (.slice ta m tc)
    rw [← hm.out, noteA_15s] at this
    rw [← hm.out]; exact this)
  have E4 : Hid ((W3.setCell ⟨p0, 15, none⟩ (.slice ta m tc)).heap[p1]? = some (.cells (noteA zeroN none 0) 47 (0, 0))) := Lib.hid (grown_blk G3 L3.out.e2 (fun e => by have := L3.out.lt; have e2 := Option.some.inj e; omega))
  go_upto_region 2 with fail
  have B3 : Hid (Below p0 w (W3.setCell ⟨p0, 15, none⟩ (.slice ta m tc))) := Lib.hid (L3.out.b.grown G3 (by have := blk_lt L3.out.e1; omega) (fun q hq => by cases hq; exact Nat.le_refl _))
  have U3 := Lib.hid (own_no O3.out L3.out.e2 (fun cur h => by simp at h))
  have O4 := Lib.hid (own_keep (S := fun k => k = p0) O3.out (Same.of_grown G3 (fun k e => by cases e; rfl)) (fun b hb e => T3.out (by rw [hb, e])))
  have hlt := L3.out.lt
  clear c15 f15 G3
  generalize W3.setCell ⟨p0, 15, none⟩ (.slice ta m tc) = W4 at *
  have oneN := noteA_one n ta tc
  go_wp2_with (first
    | (refine wpList_load_row rfl 47 _ rfl p0 rfl 47 (noteA n ta tc) (0, 0) _ E3.out Tryz.underlying47 rfl (I43.out _ _ _) ?_)
    | (refine wpList_store_rowN rfl 47 _ _ rfl p1 (noteA zeroN none 0) (noteA n ta tc) 47 rfl rfl E4.out (I43.out _ _ _) rfl oneN ?_))
  go_wp2_with fail
  have hr := setRow_at W4 p1 _ (noteA n ta tc) _ _ E4.out
  refine bodyPost_ret (results_cell_row rfl _ _ p1 47 (noteA n ta tc) (0, 0) _ rfl hr Tryz.underlying47 rfl (I43.out _ _ _)) rfl ?_
  have G4 := setRow_grown W4 p1 (noteA n ta tc)
  have hp1 : p1 < W4.heap.size := blk_lt E4.out
  refine ⟨ta, tc, rfl, ?_, ?_⟩
  · rw [HP0.out, hm.out]
    exact own_keep (S := fun k => k = p1) O4.out (Same.of_grown G4 (fun k e => by cases e; rfl)) (fun b hb e => U3.out (by rw [hb, e]))
  · rw [HP0.out]
    exact B3.out.grown G4 (by omega) (fun q hq => by cases hq; omega)
end
end Go.Proofs.YtlnhppgfhkkidaaGreat
namespace Go.Proofs.YtlnhppgfhkkidaaGreat
set_option linter.unusedSimpArgs false
open Go.RowKit

def countN (r j : NoteV) : NoteV := { j with house := r.house, num := r.num, clock := r.clock, kind := j.fix, fix := 0, refH := if j.fix = 2 then r.refH else 0, refN := if j.fix = 2 then r.refN else 0 }
structure Loc4 (w W : World) (p0 p1 p2 p3 : Nat) (A B C D : Array Value) : Prop where
  e0 : W.heap[p0]? = some (.cells A 47 (0, 0))
  e1 : W.heap[p1]? = some (.cells B 47 (0, 0))
  e2 : W.heap[p2]? = some (.cells C 47 (0, 0))
  e3 : W.heap[p3]? = some (.cells D 47 (0, 0))
  b : Below p0 w W
  lt : p0 < p1 ∧ p1 < p2 ∧ p2 < p3
theorem Loc4.below {w W W' : World} {p0 p1 p2 p3 : Nat} {A B C D : Array Value} (h : Loc4 w W p0 p1 p2 p3 A B C D) (hb : Below W.heap.size W W') : Loc4 w W' p0 p1 p2 p3 A B C D :=
  ⟨below_blk hb h.e0, below_blk hb h.e1, below_blk hb h.e2, below_blk hb h.e3, h.b.trans (hb.mono (by have := blk_lt h.e0; omega)), h.lt⟩
theorem Loc4.put {w W : World} {p0 p1 p2 p3 : Nat} {A B C D : Array Value} (h : Loc4 w W p0 p1 p2 p3 A B C D) (j : Nat) (v : Value) : Loc4 w (W.setCell ⟨p3, j, none⟩ v) p0 p1 p2 p3 A B C (D.setIfInBounds j v) := by
  have g := setCell_grown W p3 j v
  have hl := h.lt
  have hz := blk_lt h.e0
  exact ⟨grown_blk g h.e0 (fun e => by have := Option.some.inj e; omega), grown_blk g h.e1 (fun e => by have := Option.some.inj e; omega), grown_blk g h.e2 (fun e => by have := Option.some.inj e; omega), setCell_at h.e3 j v,
    h.b.grown g (by omega) (fun q hq => by cases hq; omega), h.lt⟩
section
attribute [local go_sem] noteA_0 noteA_1 noteA_2 noteA_4 noteA_16 noteA_17 noteA_18
end
end Go.Proofs.YtlnhppgfhkkidaaGreat
namespace Go.Proofs.YtlnhppgfhkkidaaGreat
open Go.RowKit

def evN (f J : Nm → Option LN) (k : Nm) : Option NoteV := match f k with
  | none => none
  | some x => if doneB x.n = true then (match J k with | none => some x.n | some j => if j.n.kind = 6 then none else some (countN x.n j.n)) else none
def lnCells (es : List LN) : List Value := (es.map fun x => x.n.cells x.sa x.sc).flatten
theorem lnCells_snoc (es : List LN) (x : LN) : lnCells (es ++ [x]) = lnCells es ++ x.n.cells x.sa x.sc := by simp [lnCells]
def EvOwn (W : World) (base : Nat) (es : List LN) : Prop := ∀ x ∈ es, W.ownsRow base 3 1 (.slice x.sa x.n.strokes.length x.sc) x.n.strokes.length (x.n.strokes.map intV)
theorem EvOwn.below {W W' : World} {base : Nat} {es : List LN} (h : EvOwn W base es) (hb : Below W.heap.size W W') : EvOwn W' base es := fun x hx => own_below (h x hx) hb
theorem own_apart {W : World} {b1 b2 e1 e2 k1 k2 n1 n2 : Nat} {v1 v2 : Value} {x1 x2 : List Value} (h1 : W.ownsRow b1 e1 k1 v1 n1 x1) (h2 : W.ownsRow b2 e2 k2 v2 n2 x2) (hne : e1 ≠ e2) : v1.ownBlock = none ∨ v1.ownBlock ≠ v2.ownBlock := by
  rcases h1.2 with ⟨rfl, _⟩ | ⟨g, cap, cur, rfl, _, hg, _⟩
  · exact .inl rfl
  · rcases h2.2 with ⟨rfl, _⟩ | ⟨g', cap', cur', rfl, _, hg', _⟩
    · exact .inr (by simp [Value.ownBlock])
    · refine .inr (fun e => ?_)
      simp only [Value.ownBlock, Option.some.injEq] at e
      subst e
      rw [hg] at hg'
      cases hg'
      exact hne rfl
theorem run_build_note1 (w : World) (a0 a1 a2 a3 a4 a5 a6 a7 a8 a9 a10 a11 a12 a13 a14 a15 a16 a17 a18 : Value) :
    (Instr.buildSlice 24 1 #[(0, .agg #[a0, a1, a2, a3, a4, a5, a6, a7, a8, a9, a10, a11, a12, a13, a14, a15, a16, a17, a18])]).run Tryz.prog w = .ok (.slice (some ⟨w.heap.size, 0, none⟩) 1 1) (w.alloc (.cells #[a0, a1, a2, a3, a4, a5, a6, a7, a8, a9, a10, a11, a12, a13, a14, a15, a16, a17, a18] 47)) := by
  kernel_rfl
theorem run_build_note (w : World) (n : NoteV) (sa : Option Addr) (sc : Nat) :
    (Instr.buildSlice 24 1 #[(0, .agg (noteA n sa sc))]).run Tryz.prog w = .ok (.slice (some ⟨w.heap.size, 0, none⟩) 1 1) (w.alloc (.cells (noteA n sa sc) 47)) := run_build_note1 w ..
theorem infoNote : (Tryz.prog.info? 47).map (fun i => (i.zero, i.size, i.bytes)) = some (some (.agg (noteA zeroN none 0)), 19, 168) := by kernel_rfl
theorem run_app_nt (w : World) (base : Nat) (sa : Option Addr) (sn sc : Nat) (xs : List Value) (hown : w.ownsRow base 47 19 (.slice sa sn sc) sn xs) (xa : Option Addr) (m xc : Nat) (ys : List Value) (hrd : RdA w 19 xa m xc ys) (h1 : ∀ u ∈ ys, u.oneCell' = true)
    (hbytes : (sn + m) * 168 ≤ 140737488355328) (hbase : base ≤ w.heap.size) :
    ∃ a' c' w', (Builtin.append_ #[24, 24] 24 #[.slice sa sn sc, .slice xa m xc]).run Tryz.prog w = .ok (.slice a' (sn + m) c') w' ∧ w'.ownsRow base 47 19 (.slice a' (sn + m) c') (sn + m) (xs ++ ys) ∧ w.grownBy w' (Value.ownBlock (.slice sa sn sc)) := by
  obtain ⟨i, hi, hz0, hz1, hz2⟩ := info_parts infoNote
  exact run_append_rd w base 24 24 47 i _ 19 168 Tryz.underlying24 hi hz0 hz1 hz2 rfl (by decide) sa sn sc xs hown xa m xc ys hrd h1 (by unfold maxLen; omega) hbytes hbase
theorem lit_note (W : World) (n : NoteV) (sa : Option Addr) (sc : Nat) : RdA (W.alloc (.cells (noteA n sa sc) 47)) 19 (some ⟨W.heap.size, 0, none⟩) 1 1 (n.cells sa sc) :=
  RdA.of_own (World.ownsRow_lit (base := W.heap.size) (e := 47) (size := 19) W (noteA n sa sc) 1 (Nat.le_refl _) (by unfold maxLen; omega) rfl)

structure EvAt (w wr : World) (bS pL r n : Nat) (f J : Nm → Option LN) (kr ks : List Nm) (cnt : Nat) (a : Option Addr) (c : Nat) (es : List LN) : Prop where
  rng : RangeF LN.val wr bS r n f kr cnt
  bel : Below w.heap.size w wr
  lst : wr.heap[pL]? = some (.cells #[.slice a es.length c] 24 (0, 0))
  own : wr.ownsRow w.heap.size 47 19 (.slice a es.length c) es.length (lnCells es)
  str : EvOwn wr w.heap.size es
  evs : es.map LN.n = ks.filterMap (evN f J)
  pL_ge : w.heap.size ≤ pL
  r_ge : w.heap.size ≤ r
section
variable {w wr W' : World} {bS pL r n : Nat} {f J : Nm → Option LN} {kr ks : List Nm} {cnt : Nat} {a : Option Addr} {c : Nat} {es : List LN}
theorem EvAt.below (h : EvAt w wr bS pL r n f J kr ks cnt a c es) (hb : Below wr.heap.size wr W') : EvAt w W' bS pL r n f J kr ks cnt a c es :=
  ⟨h.rng.below hb, h.bel.trans (hb.mono h.bel.size), below_blk hb h.lst, own_below h.own hb, h.str.below hb, h.evs, h.pL_ge, h.r_ge⟩
theorem EvAt.came (h : EvAt w wr bS pL r n f J kr ks cnt a c es) {kh km : Int} {y : LN} {cnt' : Nat} (hN : NextF LN.val wr bS r n cnt f kr kh km y W' cnt') : EvAt w W' bS pL r n f J (kr ++ [(kh, km)]) ks cnt' a c es := by
  obtain ⟨bb, since, seen, c0, hr⟩ := h.rng.blk
  have hb1 := h.lst
  refine ⟨hN.range, h.bel.grown hN.grown h.bel.size (fun q hq => by cases hq; exact h.r_ge), grown_blk hN.grown hb1 ?_, h.own.kept hN.grown (.inr (own_no h.own hr (by simp)).symm), fun x hx => (h.str x hx).kept hN.grown (.inr (own_no (h.str x hx) hr (by simp)).symm), h.evs, h.pL_ge, h.r_ge⟩
  intro e
  have e := Option.some.inj e
  subst e
  rw [hr] at hb1; cases hb1
theorem EvAt.skip {k : Nm} (h : EvAt w wr bS pL r n f J (ks ++ [k]) ks cnt a c es) (hk : evN f J k = none) : EvAt w wr bS pL r n f J (ks ++ [k]) (ks ++ [k]) cnt a c es :=
  ⟨h.rng, h.bel, h.lst, h.own, h.str, by rw [List.filterMap_append, h.evs]; simp [hk], h.pL_ge, h.r_ge⟩
end
def whenLt (x y : LN) : Bool := decide (whenC x.n y.n < 0)
end Go.Proofs.YtlnhppgfhkkidaaGreat
namespace Go.Proofs.YtlnhppgfhkkidaaGreat
set_option linter.unusedSimpArgs false
open Go.RowKit

theorem whenC_neg (a b : NoteV) : whenC a b < 0 ↔ a.day < b.day ∨ a.day = b.day ∧ (a.clock < b.clock ∨ a.clock = b.clock ∧ (a.house < b.house ∨ a.house = b.house ∧ a.num < b.num)) := by
  rw [whenC, orI_neg, cmpI_neg, cmpI_zero, knownC_neg]
def lnRow (x : LN) : List Value := x.n.cells x.sa x.sc
theorem lnRow_len (x : LN) : (lnRow x).length = 19 := rfl
theorem lnRow_one (x : LN) : ∀ v ∈ lnRow x, v.oneCell' = true := x.n.cells_one x.sa x.sc
instance : Inhabited LN := ⟨⟨zeroN, none, 0⟩⟩
theorem oper_build_note {op : Oper} {a : Act} {w : World} {K : Act → World → Prop} {Q : Exit → Act → World → Prop} (x : Operand) (ho : op.op = .buildSlice 24 1 #[(0, x)]) (n : NoteV) (sa : Option Addr) (sc : Nat) (hx : a.eval x = .agg (noteA n sa sc))
    (h : K (a.put op.dst (.slice (some ⟨w.heap.size, 0, none⟩) 1 1)) (w.alloc (.cells (noteA n sa sc) 47))) : op.wp Tryz.prog a w K Q := by
  have e := run_build_note w n sa sc
  unfold Oper.wp execOp
  simp [ho, hx, e, Result.andThen]
  exact h
section
attribute [local go_sem] noteA_0 noteA_4
end
end Go.Proofs.YtlnhppgfhkkidaaGreat
namespace Go.Proofs.YtlnhppgfhkkidaaGreat
set_option linter.unusedSimpArgs false
open Go.RowKit

def evCells (l : List EvV) : List Value := (l.map EvV.cells).flatten
theorem evCells_snoc (l : List EvV) (e : EvV) : evCells (l ++ [e]) = evCells l ++ e.cells := by simp [evCells]
structure RegAt (base : Nat) (W : World) (p : Nat) (ha : Option Addr) (hc : Nat) (ea : Option Addr) (ec : Nat) (ca : Option Addr) (cc : Nat) (hs es : List EvV) (cs : List Nm) : Prop where
  blk : W.heap[p]? = some (.cells #[.slice ha hs.length hc, .slice ea es.length ec, .slice ca cs.length cc] 77 (0, 0))
  hown : W.ownsRow base 210 21 (.slice ha hs.length hc) hs.length (evCells hs)
  eown : W.ownsRow base 210 21 (.slice ea es.length ec) es.length (evCells es)
  cown : W.ownsRow base 45 2 (.slice ca cs.length cc) cs.length (nmCells cs)
  dis : Value.ownBlock (.slice ha hs.length hc) = none ∨ Value.ownBlock (.slice ha hs.length hc) ≠ Value.ownBlock (.slice ea es.length ec)
section
variable {base : Nat} {W W' : World} {p : Nat} {ha : Option Addr} {hc : Nat} {ea : Option Addr} {ec : Nat} {ca : Option Addr} {cc : Nat} {hs es : List EvV} {cs : List Nm}
theorem RegAt.below (h : RegAt base W p ha hc ea ec ca cc hs es cs) (hb : Below W.heap.size W W') : RegAt base W' p ha hc ea ec ca cc hs es cs :=
  ⟨below_blk hb h.blk, own_below h.hown hb, own_below h.eown hb, own_below h.cown hb, h.dis⟩
theorem RegAt.lt (h : RegAt base W p ha hc ea ec ca cc hs es cs) : p < W.heap.size := blk_lt h.blk
end
end Go.Proofs.YtlnhppgfhkkidaaGreat
namespace Go.Proofs.YtlnhppgfhkkidaaGreat
set_option linter.unusedSimpArgs false
open Go.RowKit
open Go.Maps (Keyed)

def fAdd : Value := .func (.func 216) #[] #[]
def fHeap : Value := .func (.func 217) #[] #[]
def fPass (q : Nat) : Value := .func (.func 218) #[] #[.pointer (some ⟨q, 0, none⟩)]
def tableD (q : Nat) : DataW Value := ((((DataW.map []).put (.int .i64 1) (.held fHeap)).put (.int .i64 2) (.held (fPass q))).put (.int .i64 3) (.held fAdd)).put (.int .i64 4) (.held fAdd)
def TableAt (W : World) (bT q : Nat) : Prop := W.heap[q]? = some (.cells #[fAdd] 250 (0, 0)) ∧ W.ownsMap Tryz.prog 3 heldR bT 4 (tableD q)
theorem TableAt.of_blocks {W W' : World} {bT q : Nat} (h : TableAt W bT q) (h1 : W'.heap[q]? = W.heap[q]?) (h2 : W'.heap[bT]? = W.heap[bT]?) : TableAt W' bT q := by
  obtain ⟨h3, es, clock, h4, h5⟩ := h
  exact ⟨h1.trans h3, es, clock, h2.trans h4, h5⟩
theorem TableAt.lt {W : World} {bT q : Nat} (h : TableAt W bT q) : q < W.heap.size ∧ bT < W.heap.size := ⟨blk_lt h.1, h.2.lt⟩
theorem TableAt.below {W W' : World} {bT q : Nat} (h : TableAt W bT q) (hb : Below W.heap.size W W') : TableAt W' bT q := h.of_blocks (hb.block q h.lt.1) (hb.block bT h.lt.2)
end Go.Proofs.YtlnhppgfhkkidaaGreat
namespace Go.Proofs.YtlnhppgfhkkidaaGreat
set_option linter.unusedSimpArgs false
open Go.RowKit

structure RegV where
  hs : List EvV
  es : List EvV
  cs : List Nm
def effB (R : RegV) (e : EvV) : Bool := if e.x.n.kind = 1 then decide (R.hs.length ≠ 8) else if e.x.n.kind = 2 then decide (¬ idxI R.hs (isNm e.x.n.refH e.x.n.refN) < 0) else true
def effR (R : RegV) (e : EvV) : RegV := if effB R e = true then (if e.x.n.kind = 1 then { R with hs := R.hs ++ [e] } else { R with es := R.es ++ [e] }) else R
def regStep (day : Int) (R : RegV) (e : EvV) : RegV := if e.x.n.day ≤ day then (if effB R e = true then effR R e else { R with cs := R.cs ++ [e.nm] }) else R
def regOf (day : Int) (l : List EvV) : RegV := l.foldl (regStep day) ⟨[], [], []⟩
def RegSt (base : Nat) (W : World) (p : Nat) (R : RegV) : Prop := ∃ ha hc ea ec ca cc, RegAt base W p ha hc ea ec ca cc R.hs R.es R.cs
theorem RegSt.below {base p : Nat} {W W' : World} {R : RegV} (h : RegSt base W p R) (hb : Below W.heap.size W W') : RegSt base W' p R := by
  obtain ⟨ha, hc, ea, ec, ca, cc, h⟩ := h
  exact ⟨ha, hc, ea, ec, ca, cc, h.below hb⟩
abbrev RegW (base p : Nat) : Nat → Prop := fun k => k = p ∨ base ≤ k
theorem RdEs.of_own {W : World} {base : Nat} {a : Option Addr} {c : Nat} {l : List EvV} (h : W.ownsRow base 210 21 (.slice a l.length c) l.length (evCells l)) : RdEs W a l.length c l := by
  have h := RdA.of_own h
  refine ⟨rfl, h.le, h.max, h.2.2.2.imp id ?_⟩
  rintro ⟨b, off, rfl, h4⟩
  refine ⟨b, off, rfl, fun i x hx j v hv => ?_⟩
  have hj : j < 21 := (List.getElem?_eq_some_iff.1 hv).1
  have h5 := flat_at 21 (l.map EvV.cells) (by intro r hr; obtain ⟨y, _, rfl⟩ := List.mem_map.1 hr; rfl) i x.cells (by rw [List.getElem?_map, hx]; rfl) j hj
  have h6 := h4 (i * 21 + j) v (h5.trans hv)
  rwa [← Nat.add_assoc] at h6
end Go.Proofs.YtlnhppgfhkkidaaGreat
namespace Go.Proofs.YtlnhppgfhkkidaaGreat
open Go.RowKit

def Wide (F : Fence) : Prop := F = Fence.wide ∨ ∃ l, F = Fence.wide.inRound l
theorem Wide.fn {F : Fence} (h : Wide F) (f : FuncId) : F.fn f := by
  rcases h with rfl | ⟨l, rfl⟩ <;> trivial
theorem Wide.depth {F : Fence} (h : Wide F) : F.depth.isSome = true → ∀ {p : Prop}, p := by
  rcases h with rfl | ⟨l, rfl⟩ <;> intro h' <;> simp [Fence.wide] at h'
theorem Wide.calls {F : Fence} (h : Wide F) {n : Nat} {P : Program} {f : FuncId} {args : Array Value} {w : World} {R : Ending → World → Prop} (hc : Calls P f args w R) : CallsIn F n P f args w R := by
  rcases h with rfl | ⟨l, rfl⟩
  · exact callsIn_wide.2 hc
  · exact CallsIn.inRound l (callsIn_wide.2 hc)
theorem Wide.rows {F : Fence} (h : Wide F) {n : Nat} {P : Program} {row : String} {args : Array Value} {w : World} {R : Value → World → Prop} (hc : Rows P row args w R) : RowsIn F n P row args w R := by
  rcases h with rfl | ⟨l, rfl⟩ <;> exact fun c cs _ => let ⟨v, w', r, s⟩ := hc c cs; ⟨v, w', r, stepsIn_wide.2 s⟩
theorem wpIn_of_wp {F : Fence} (hF : Wide F) {n : Nat} {P : Program} {o : Oper} {a : Act} {w : World} {K : Act → World → Prop} {Q : Exit → Act → World → Prop} (hnd : ∀ c, o.op ≠ .defer c) (h : o.wp P a w K Q) : o.wpIn F n P a w K Q := by
  refine ⟨fun f _ => hF.fn f, ?_⟩
  rw [Oper.semAt_plain F _ _ hnd]
  unfold Oper.wp at h
  generalize (execOp a.eval o).run P w = r at h
  unfold Oper.upon at h
  unfold Oper.uponIn
  cases r with
  | ok v w' =>
    cases v with
    | enter f args => exact ⟨fun h' => hF.depth h', hF.calls h⟩
    | row r args => exact ⟨fun h' => hF.depth h', hF.rows h⟩
    | round _ _ _ _ _ => exact (show False from h).elim
    | _ => exact h
  | halt s w' => cases s <;> exact h
def noDefer (l : List Oper) : Bool := l.all fun o => match o.op with | .defer _ => false | _ => true
theorem noDefer_at {l : List Oper} (h : noDefer l = true) {o : Oper} (ho : o ∈ l) : ∀ c, o.op ≠ .defer c := fun c e => by
  have := List.all_eq_true.1 h o ho
  rw [e] at this
  cases this
theorem wpListIn_of_wpList {F : Fence} (hF : Wide F) {n : Nat} {P : Program} {ops : Array Oper} {Q : Exit → Act → World → Prop} (hQ : ¬ LetsOut Q) : ∀ (l : List Oper) (a : Act) (w : World), noDefer l = true → wpList P ops Q l a w → wpListIn F n P ops Q l a w
  | [], a, w, _, h => h
  | o :: l, a, w, hnd, h => by
    have h1 : ∀ c, o.op ≠ .defer c := noDefer_at hnd (List.mem_cons_self ..)
    have h2 : noDefer l = true := (Bool.and_eq_true_iff.1 hnd).2
    unfold wpList at h
    unfold wpListIn
    split at h
    · rename_i hw
      rw [if_pos hw]
      rcases h with h | h
      · exact wpIn_of_wp hF h1 (Oper.wp_mono (fun a w hk => wpListIn_of_wpList hF hQ l a w h2 hk) h)
      · exact (hQ h.2).elim
    · rename_i hw
      rw [if_neg hw]
      exact ⟨fun f _ => hF.fn f, wpListIn_of_wpList hF hQ l _ w h2 h⟩
theorem wpIn_region_plain {F : Fence} (hF : Wide F) {n : Nat} {P : Program} {id : Nat} {l : List Oper} {a : Act} {w : World} {Q : Exit → Act → World → Prop} (hQ : ¬ LetsOut Q) (hnd : noDefer l = true) (h : wpList P l.toArray Q l a w) : (Code.region id l.toArray false).wpIn F n P Q a w :=
  wpIn_region_lit (wpListIn_of_wpList hF hQ l a w hnd h)
section
variable {P : Program} {σ : Type} {n : Nat} {g : Operand} {ps : Array Tmp} {assign body : Code} {Q : Exit → Act → World → Prop} {a : Act} {w : World}
theorem wp_range_own2
    {gf : Nat} {lb : Array Value} (hg : a.eval g = .func (.func gf) #[] lb) (eg : ∀ args w, (callFunc gf args).run P w = .ok (.enter gf args) w)
    (encs : σ → Array Value) (hps : ∀ x, (encs x).size = ps.size)
    (A B : σ → World → Prop) (A' : σ → Act → World → Prop) (Done : World → Prop)
    (hA' : ∀ s a W o, A' s a W → (∃ r, W.heap[w.heap.size + 1]? = some (.loop r)) → A' s a (W.putObj (w.heap.size + 1) (.loop o)))
    (hB : ∀ s W o, B s W → (∃ r, W.heap[w.heap.size + 1]? = some (.loop r)) → B s (W.putObj (w.heap.size + 1) (.loop o)))
    (hDone : ∀ W o, Done W → (∃ r, W.heap[w.heap.size + 1]? = some (.loop r)) → Done (W.putObj (w.heap.size + 1) (.loop o)))
    (hassign : ∀ (s : σ) (W : World), A s W →
      assign.wpIn (Fence.wide.inRound (w.heap.size + 1)) (n - 1) P (Exit.then (fun a₁ W₁ => KeepsFrom w.heap.size W W₁ ∧ A' s a₁ W₁) (fun _ _ _ => False)) { tmps := (ps.zip (encs s)).foldl (fun t (p, v) => t.setIfInBounds p v) a.tmps, defers := [] } W)
    (hbody : ∀ (s : σ) (a₁ : Act) (W : World), A' s a₁ W → body.wpIn (Fence.wide.inRound (w.heap.size + 1)) (n - 1) P (roundEnd w.heap.size (B s) (fun _ _ => False) W) a₁ W)
    (hiter : ∀ (rec : LoopState → Option Code → Loop),
      LoopAt rec w.heap.size .ready none ((w.alloc (.deferred (some []))).alloc (.loop (rec .ready none))) →
      (∀ s W, A s W → LoopAt rec w.heap.size .ready none W → YieldAt Fence.wide (n - 1) P (w.heap.size + 1) (encs s) W fun e W' =>
        e = .returned (.bool true) ∧ B s W' ∧ LoopAt rec w.heap.size .ready none W') →
      CallsIn Fence.wide n P gf (#[.func (.yield (w.heap.size + 1)) #[] #[]] ++ lb) ((w.alloc (.deferred (some []))).alloc (.loop (rec .ready none))) fun e W' =>
        (∃ v, e = .returned v) ∧ Done W' ∧ LoopAt rec w.heap.size .ready none W')
    (hdone : ∀ (W : World), Done W → W.heap[w.heap.size]? = some (.deferred (some [])) → Q .normal { a with defers := { target := .collected w.heap.size, args := #[] } :: a.defers } W) :
    (Code.rangeFunc g ps assign body).wpIn Fence.wide (n + 1) P Q a w := by
  refine wpIn_rangeFunc ?_
  intro fn hfn
  obtain ⟨rec, hrec⟩ : ∃ rec : LoopState → Option Code → Loop, rec = fun st pe => { state := st, pending := pe, fn, tmps := a.tmps, params := ps, assign, body, defers := w.heap.size } := ⟨_, rfl⟩
  have hnew : LoopAt rec w.heap.size .ready none ((w.alloc (.deferred (some []))).alloc (.loop (rec .ready none))) := by
    refine ⟨?_, (Below.heap_alloc _ _ _ (by simp)).trans (World.alloc_heap_new w _)⟩
    have := World.alloc_heap_new (w.alloc (.deferred (some []))) (.loop (rec .ready none))
    rwa [World.size_alloc] at this
  have hput : ∀ (W : World) (st st' : LoopState) (pe pe' : Option Code), LoopAt rec w.heap.size st pe W → LoopAt rec w.heap.size st' pe' (W.putObj (w.heap.size + 1) (.loop (rec st' pe'))) :=
    fun W st st' pe pe' h => ⟨World.putObj_heap_same (Array.getElem?_eq_some_iff.1 h.1).1, (World.putObj_heap_other (by omega)).trans h.2⟩
  refine ⟨w.heap.size + 1, [{ target := .collected w.heap.size, args := #[] }], (w.alloc (.deferred (some []))).alloc (.loop (rec .ready none)), { target := .fn (.func gf) lb, args := #[.func (.yield (w.heap.size + 1)) #[] #[]] }, (w.alloc (.deferred (some []))).alloc (.loop (rec .ready none)), gf,
    #[.func (.yield (w.heap.size + 1)) #[] #[]] ++ lb, (w.alloc (.deferred (some []))).alloc (.loop (rec .ready none)), ?_, ?_, ?_, ?_, ?_, ?_⟩
  · rw [hrec]; exact run_enterLoop_outer _ _ _ _ _
  · simp only [resolve, hg]
    simp [go_sem]
  · intro f' _
    trivial
  · simp [invoke, go_sem, eg]
  · intro h
    simp [Fence.wide] at h
  · rw [Nat.add_sub_cancel]
    refine (hiter rec hnew ?_).mono ?_
    · intro s W hs hl
      have hy := run_yield (P := P) (args := encs s) hl.1 (by rw [hrec]; exact hps s)
      rw [hrec] at hy
      refine ⟨fn, _, assign, body, hy, roundIn_of_wpIn hfn (wpIn_mono (hassign s W hs) ?_)⟩
      rintro e a₁ W₁ hp
      cases e with
      | normal =>
        obtain ⟨hk1, hs1⟩ : KeepsFrom w.heap.size W W₁ ∧ A' s a₁ W₁ := hp
        have hl1 := hl.kept hk1
        refine ⟨_, run_beginRound hl1.1 (by rw [hrec]), ?_⟩
        have hbusy : ({ rec .ready none with state := .busy } : Loop) = rec .busy none := by rw [hrec]
        rw [hbusy]
        have hl2 := hput W₁ .ready .busy none none hl1
        refine wpIn_mono (hbody s a₁ _ (hA' s a₁ W₁ _ hs1 ⟨_, hl1.1⟩)) ?_
        have fin : ∀ (jump : Option Code) (W3 : World), KeepsFrom w.heap.size (W₁.putObj (w.heap.size + 1) (.loop (rec .busy none))) W3 →
            (Instr.endRound (w.heap.size + 1) jump).run P W3 = .ok (.bool jump.isNone) (W3.putObj (w.heap.size + 1) (.loop (rec (if jump.isNone then .ready else .done) jump))) ∧
            LoopAt rec w.heap.size .busy none W3 ∧ LoopAt rec w.heap.size (if jump.isNone then .ready else .done) jump (W3.putObj (w.heap.size + 1) (.loop (rec (if jump.isNone then .ready else .done) jump))) := fun jump W3 hk => by
          have h3 := hl2.kept hk
          have hr := run_endRound (P := P) jump h3.1
          rw [hrec] at hr ⊢
          exact ⟨hr, by rw [hrec] at h3; exact h3, by have := hput W3 .busy (if jump.isNone then .ready else .done) none jump h3; rw [hrec] at this; exact this⟩
        rintro e a3 W3 hp
        cases e with
        | normal =>
          obtain ⟨hk, hb⟩ := hp
          obtain ⟨hr, h3, h4⟩ := fin none W3 hk
          exact ⟨_, _, hr, rfl, hB s W3 _ hb ⟨_, h3.1⟩, h4⟩
        | ret => exact hp.2.elim
        | exit id => exact hp.2.elim
        | goto t => exact hp.2.elim
        | panic ch => exact hp.elim
        | outgrown => exact hp.elim
      | _ => exact hp.elim
    · rintro e W2 ⟨⟨v, rfl⟩, hd, hl⟩
      refine ⟨none, _, by have := run_endLoop (P := P) hl.1 (by rw [hrec]; simp); rw [hrec] at this; exact this, ?_⟩
      exact hdone _ (hDone W2 _ hd ⟨_, hl.1⟩) ((World.putObj_heap_other (by omega)).trans hl.2)
end
end Go.Proofs.YtlnhppgfhkkidaaGreat
namespace Go.Proofs.YtlnhppgfhkkidaaGreat
set_option linter.unusedSimpArgs false
open Go.RowKit

theorem Same.weaken {S T : Nat → Prop} {W W' : World} (h : Same S W W') (hs : ∀ k, S k → T k) : Same T W W' := ⟨h.os, h.tape, h.output, h.size, fun k hk ht => h.block k hk (fun e => ht (hs k e))⟩
theorem keeps_below {W W' : World} (h : Below W.heap.size W W') : KeepsOthers W W' := ⟨h.size, fun _ _ hk _ => below_blk h hk⟩
theorem own_cells {W : World} {base : Nat} {e : TypeId} {k : Nat} {v : Value} {n : Nat} {xs : List Value} (h : W.ownsRow base e k v n xs) {j : Nat} {o : Obj} (hj : Value.ownBlock v = some j) (ho : W.heap[j]? = some o) : o.isCells = true := by
  rcases h.2 with ⟨h2, _⟩ | ⟨g, cap, cur, h2, _, hg, _⟩
  · rw [h2] at hj; simp [Value.ownBlock] at hj
  · rw [h2] at hj
    simp only [Value.ownBlock, Option.some.injEq] at hj
    subst hj
    rw [hg] at ho
    cases ho
    rfl
section
variable {e : EvV} {base p : Nat} {R : RegV} {W : World} {ha : Option Addr} {hc : Nat} {ea : Option Addr} {ec : Nat} {ca : Option Addr} {cc : Nat}
end

structure RState (Wb : World) (p : Nat) (R : RegV) (W : World) : Prop where
  reg : RegSt Wb.heap.size W p R
  same : Same (fun k => k = p) Wb W
theorem RState.below {Wb W W' : World} {p : Nat} {R : RegV} (h : RState Wb p R W) (hb : Below W.heap.size W W') : RState Wb p R W' := ⟨h.reg.below hb, h.same.trans (Same.of_below hb)⟩
theorem RState.size {Wb W : World} {p : Nat} {R : RegV} (h : RState Wb p R W) : Wb.heap.size ≤ W.heap.size := h.same.size
theorem Same.reg {Wb W W' : World} {p : Nat} (h : Same (fun k => k = p) Wb W) (s : Same (RegW Wb.heap.size p) W W') : Same (fun k => k = p) Wb W' :=
  ⟨s.os.trans h.os, s.tape.trans h.tape, s.output.trans h.output, Nat.le_trans h.size s.size, fun k hk hp => (s.block k (Nat.lt_of_lt_of_le hk h.size) (by rintro (rfl | h2); exact hp rfl; omega)).trans (h.block k hk hp)⟩
theorem RState.putObj {Wb W : World} {p : Nat} {R : RegV} (h : RState Wb p R W) (o : Loop) (hl : ∃ r, W.heap[Wb.heap.size + 1]? = some (.loop r)) : RState Wb p R (W.putObj (Wb.heap.size + 1) (.loop o)) := by
  obtain ⟨r, hl⟩ := hl
  obtain ⟨ha, hc, ea, ec, ca, cc, h1, h2, h3, h4, h5⟩ := h.reg
  have hne : p ≠ Wb.heap.size + 1 := fun e => by rw [e, hl] at h1; cases h1
  refine ⟨⟨ha, hc, ea, ec, ca, cc, (World.putObj_heap_other hne).trans h1, ownsRow_putObj h2 _ hl rfl, ownsRow_putObj h3 _ hl rfl, ownsRow_putObj h4 _ hl rfl, h5⟩, ?_⟩
  exact h.same.reg (Same.of_grown (grownBy_putObj' W _ _) (fun k e => by cases e; exact .inr (by omega)))
theorem RState.blk {Wb W : World} {p : Nat} {R : RegV} (h : RState Wb p R W) {k : Nat} {o : Obj} (hk : Wb.heap[k]? = some o) (hne : k ≠ p) : W.heap[k]? = some o := (h.same.block k (Array.getElem?_eq_some_iff.1 hk).1 hne).trans hk
structure RStateB (Wb : World) (p : Nat) (R : RegV) (top : Nat) (W : World) : Prop where
  reg : ∃ ha hc ea ec ca cc, RegAt Wb.heap.size W p ha hc ea ec ca cc R.hs R.es R.cs ∧ ∀ k, k = p ∨ Value.ownBlock (.slice ha R.hs.length hc) = some k ∨ Value.ownBlock (.slice ea R.es.length ec) = some k → k < top
  same : Same (fun k => k = p) Wb W
theorem RStateB.st {Wb W : World} {p top : Nat} {R : RegV} (h : RStateB Wb p R top W) : RState Wb p R W := by
  obtain ⟨ha, hc, ea, ec, ca, cc, h1, _⟩ := h.reg
  exact ⟨⟨ha, hc, ea, ec, ca, cc, h1⟩, h.same⟩
theorem RStateB.putObj {Wb W : World} {p top : Nat} {R : RegV} (h : RStateB Wb p R top W) (o : Loop) (hl : ∃ r, W.heap[Wb.heap.size + 1]? = some (.loop r)) : RStateB Wb p R top (W.putObj (Wb.heap.size + 1) (.loop o)) := by
  have h9 := h.st.putObj o hl
  obtain ⟨ha, hc, ea, ec, ca, cc, h1, h2⟩ := h.reg
  obtain ⟨r, hl⟩ := hl
  obtain ⟨k1, k2, k3, k4, k5⟩ := h1
  have hne : p ≠ Wb.heap.size + 1 := fun e => by rw [e, hl] at k1; cases k1
  exact ⟨⟨ha, hc, ea, ec, ca, cc, ⟨(World.putObj_heap_other hne).trans k1, ownsRow_putObj k2 _ hl rfl, ownsRow_putObj k3 _ hl rfl, ownsRow_putObj k4 _ hl rfl, k5⟩, h2⟩, h9.same⟩
end Go.Proofs.YtlnhppgfhkkidaaGreat
namespace Go.Proofs.YtlnhppgfhkkidaaGreat
set_option linter.unusedSimpArgs false
open Go.RowKit
attribute [local go_sem] Oper.semAt_some

def evOf (x : LN) : EvV := ⟨x.nm, x⟩
theorem ln_at {W : World} {a : Option Addr} {n c : Nat} {xs : List LN} (h : RdA W 19 a n c (lnCells xs)) (h0 : 0 < n) : ∃ b off, a = some ⟨b, off, none⟩ ∧ ∀ i x, xs[i]? = some x → W.rangeAt b (off + i * 19) (x.n.cells x.sa x.sc) := by
  rcases h.2.2.2 with h5 | ⟨b, off, rfl, h4⟩
  · have := h.2.1; omega
  · refine ⟨b, off, rfl, fun i x hx j v hv => ?_⟩
    have hj : j < 19 := (List.getElem?_eq_some_iff.1 hv).1
    have h5 := flat_at 19 (xs.map fun x => x.n.cells x.sa x.sc) (by intro r hr; obtain ⟨y, _, rfl⟩ := List.mem_map.1 hr; rfl) i (x.n.cells x.sa x.sc) (by rw [List.getElem?_map, hx]; rfl) j hj
    have h6 := h4 (i * 19 + j) v (h5.trans hv)
    rwa [← Nat.add_assoc] at h6
structure EvEnv (Wb : World) (p pL : Nat) (base0 : Nat) (a : Option Addr) (c : Nat) (xs : List LN) : Prop where
  reg : Wb.heap[p]? = some (.cells #[.slice none 0 0, .slice none 0 0, .slice none 0 0] 77 (0, 0))
  lst : Wb.heap[pL]? = some (.cells #[.slice a xs.length c] 24 (0, 0))
  own : Wb.ownsRow base0 47 19 (.slice a xs.length c) xs.length (lnCells xs)
theorem EvEnv.ne {Wb : World} {p pL base0 : Nat} {a : Option Addr} {c : Nat} {xs : List LN} (h : EvEnv Wb p pL base0 a c xs) : pL ≠ p := fun e => by have h1 := h.lst; rw [e, h.reg] at h1; simp at h1
theorem LoopAt.of_below {rec : LoopState → Option Code → Loop} {D : Nat} {st : LoopState} {pe : Option Code} {W W' : World} (h : LoopAt rec D st pe W) (hb : Below W.heap.size W W') : LoopAt rec D st pe W' :=
  ⟨below_blk hb h.1, below_blk hb h.2⟩
theorem not_lets {Q : Exit → Act → World → Prop} (h : ∀ a w, ¬ Q .outgrown a w) : ¬ LetsOut Q := fun ⟨a, w, hq⟩ => h a w hq
section
variable {F : Fence} {n : Nat} {P : Program} {ops : Array Oper} {rest : List Oper} {op : Oper} {a : Act} {w : World} {Q : Exit → Act → World → Prop}
end
end Go.Proofs.YtlnhppgfhkkidaaGreat
namespace Go.Proofs.YtlnhppgfhkkidaaGreat
set_option linter.unusedSimpArgs false
open Go.RowKit
attribute [local go_sem] Oper.semAt_some

def nmRow (x : Nm) : List Value := [.int .i64 x.1, .int .i64 x.2]
theorem nmCells_eq (l : List Nm) : nmCells l = (l.map nmRow).flatten := by
  rw [nmCells, List.flatMap_def]
  rfl
def nmLt (x y : Nm) : Bool := decide (namesC x.1 x.2 y.1 y.2 < 0)
theorem nmLt_iff (x y : Nm) : nmLt x y = true ↔ x.1 < y.1 ∨ x.1 = y.1 ∧ x.2 < y.2 := by
  rw [nmLt, decide_eq_true_eq, namesC, orI_neg, cmpI_neg, cmpI_zero, cmpI_neg]
theorem ord_nm : Ord nmLt := by
  refine ⟨fun x y h => ?_, fun x y z h1 h2 => ?_⟩
  · rw [nmLt_iff] at h
    rw [← Bool.not_eq_true, nmLt_iff]
    omega
  · rw [← Bool.not_eq_true, nmLt_iff] at *
    omega
theorem nmCmp_fn (args : Array Value) (w : World) : (callFunc 124 args).run Tryz.prog w = .ok (.enter 124 args) w := by kernel_rfl
theorem nmCmp (x y : Nm) (w : World) : Calls Tryz.prog 124 #[.agg (nmRow x).toArray, .agg (nmRow y).toArray] w fun e w' => e = .returned (.int .i64 (namesC x.1 x.2 y.1 y.2)) ∧ Gro w.heap.size w w' :=
  compareNames_gro x.1 x.2 y.1 y.2 w

theorem wide_round (l : Nat) : Wide (Fence.wide.inRound l) := .inr ⟨l, rfl⟩
theorem wpList_append_eq {P : Program} {ops : Array Oper} {rest : List Oper} {op : Oper} {a : Act} {w w' : World} {Q : Exit → Act → World → Prop} (hgd : op.guard = none) (s x : Operand) (t : TypeId) (ho : op.op = .call { callee := .builtin .append, args := #[s, x], argTypes := #[t, t] }) (v1 v2 v : Value)
    (hs : a.eval s = v1) (hx : a.eval x = v2) (hr : (Builtin.append_ #[t, t] op.type #[v1, v2]).run P w = .ok v w') (h : wpList P ops Q rest (a.put op.dst v) w') : wpList P ops Q (op :: rest) a w :=
  wpList_plain hgd fun _ hK => oper_append s x t ho v1 v2 v hs hx hr (hK _ _ h)
theorem wpList_store_blkP {P : Program} {ops : Array Oper} {rest : List Oper} {op : Oper} {a : Act} {w : World} {Q : Exit → Act → World → Prop} (hgd : op.guard = none) (ty : TypeId) (x y : Operand) (ho : op.op = .store ty x y) (p : Nat) (c c' : Array Value) (t : TypeId) (hx : a.eval x = .pointer (some ⟨p, 0, none⟩)) (hy : a.eval y = .agg c') (hg : w.heap[p]? = some (.cells c t (0, 0)))
    (hi : (P.info? ty).map (·.size) = some c'.size) (hc : c.size = c'.size) (h1 : c'.all (·.oneCell') = true)
    (h : ∀ w', w'.heap[p]? = some (.cells c' t (0, 0)) → w.grownBy w' (some p) → w'.heap.size = w.heap.size → wpList P ops Q rest (a.put op.dst undef) w') : wpList P ops Q (op :: rest) a w :=
  wpList_plain hgd fun _ hK => oper_store_blk ty x y ho p c c' t hx hy hg hi hc h1 (fun w' h1 h2 h3 => hK _ _ (h w' h1 h2 h3))
def RegEnd (w : World) (day : Int) (f J : Nm → Option LN) (vs : List Nm) (e : Ending) (w' : World) : Prop :=
  ∃ (R : RegV) (ha : Option Addr) (hc : Nat) (ea : Option Addr) (ec : Nat) (ca : Option Addr) (cc : Nat) (xs : List LN) (ks : List Nm), e = .returned (.agg #[.slice ha R.hs.length hc, .slice ea R.es.length ec, .slice ca R.cs.length cc]) ∧
    w'.ownsRow w.heap.size 210 21 (.slice ha R.hs.length hc) R.hs.length (evCells R.hs) ∧ w'.ownsRow w.heap.size 210 21 (.slice ea R.es.length ec) R.es.length (evCells R.es) ∧ w'.ownsRow w.heap.size 45 2 (.slice ca R.cs.length cc) R.cs.length (nmCells R.cs) ∧
    EvOwn w' w.heap.size xs ∧ ks.Nodup ∧ AllIn f ks ∧ (xs.map LN.n).Perm (ks.filterMap (evN f J)) ∧ xs.Pairwise (fun x y => whenLt y x = false) ∧
    R.hs = (regOf day (xs.map evOf)).hs ∧ R.es = (regOf day (xs.map evOf)).es ∧ R.cs.Perm ((regOf day (xs.map evOf)).cs ++ vs) ∧ R.cs.Pairwise (fun x y => nmLt y x = false)
end Go.Proofs.YtlnhppgfhkkidaaGreat
namespace Go.Proofs.YtlnhppgfhkkidaaGreat
set_option linter.unusedSimpArgs false
open Go.RowKit
attribute [local go_sem] Oper.semAt_some

structure ApAt (Wb : World) (p : Nat) (es : List EvV) (W : World) : Prop where
  blk : ∃ a c, W.heap[p]? = some (.cells #[.slice a es.length c] 74 (0, 0)) ∧ W.ownsRow Wb.heap.size 210 21 (.slice a es.length c) es.length (evCells es)
  same : Same (fun k => k = p) Wb W
theorem ApAt.below {Wb W W' : World} {p : Nat} {es : List EvV} (h : ApAt Wb p es W) (hb : Below W.heap.size W W') : ApAt Wb p es W' := by
  obtain ⟨⟨a, c, h1, h2⟩, h3⟩ := h
  exact ⟨⟨a, c, below_blk hb h1, own_below h2 hb⟩, h3.trans (Same.of_below hb)⟩
theorem ApAt.putObj {Wb W : World} {p : Nat} {es : List EvV} (h : ApAt Wb p es W) (o : Loop) (hl : ∃ r, W.heap[Wb.heap.size + 1]? = some (.loop r)) : ApAt Wb p es (W.putObj (Wb.heap.size + 1) (.loop o)) := by
  obtain ⟨r, hl⟩ := hl
  obtain ⟨⟨a, c, h1, h2⟩, h3⟩ := h
  have hne : p ≠ Wb.heap.size + 1 := fun e => by rw [e, hl] at h1; cases h1
  exact ⟨⟨a, c, (World.putObj_heap_other hne).trans h1, ownsRow_putObj h2 _ hl rfl⟩, h3.reg (Same.of_grown (grownBy_putObj' W _ _) (fun k e => by cases e; exact .inr (by omega)))⟩
theorem ApAt.add {Wb W V : World} {p : Nat} {es : List EvV} {e : EvV} {a a' : Option Addr} {c c' : Nat} (hs : Same (fun k => k = p) Wb W) (hp : W.heap[p]? = some (.cells #[.slice a es.length c] 74 (0, 0))) (how : W.ownsRow Wb.heap.size 210 21 (.slice a es.length c) es.length (evCells es))
    (ho : V.ownsRow Wb.heap.size 210 21 (.slice a' (es.length + 1) c') (es.length + 1) (evCells es ++ e.cells)) (hg : W.grownBy V (Value.ownBlock (.slice a es.length c))) :
    ApAt Wb p (es ++ [e]) (V.setCell ⟨p, 0, none⟩ (.slice a' (es.length + 1) c')) ∧ V.heap[p]? = some (.cells #[.slice a es.length c] 74 (0, 0)) := by
  have hb2 := grown_blk hg hp (own_no how hp (by intro cur; simp))
  have G := setCell_grown V p 0 (.slice a' (es.length + 1) c')
  refine ⟨⟨⟨a', c', ?_, ?_⟩, hs.reg ((Same.of_grown hg (fun k e => .inr (how.lt k e).1)).trans (Same.of_grown G (fun k e => by cases e; exact .inl rfl)))⟩, hb2⟩
  · rw [setCell_at hb2 0 (.slice a' (es.length + 1) c'), List.length_append]; rfl
  · rw [evCells_snoc, List.length_append]
    exact ho.kept G (.inr (own_no ho hb2 (by intro cur; simp)).symm)
end Go.Proofs.YtlnhppgfhkkidaaGreat
namespace Go.Proofs.YtlnhppgfhkkidaaGreat
set_option linter.unusedSimpArgs false
open Go.RowKit

theorem setGo_foldl {k : Nm} {x : LN} : ∀ (xs : List LN) (g : Nm → Option LN), (xs.foldl (fun f x => updF f x.nm x) g) k = some x → (x ∈ xs ∧ x.nm = k) ∨ g k = some x
  | [], _, h => .inr h
  | y :: xs, g, h => by
    rcases setGo_foldl xs _ h with ⟨h1, h2⟩ | h1
    · exact .inl ⟨List.mem_cons_of_mem _ h1, h2⟩
    · simp only [updF] at h1
      split at h1
      · rename_i hk
        cases h1
        exact .inl ⟨List.mem_cons_self .., hk.symm⟩
      · exact .inr h1
theorem setF_some {xs : List LN} {k : Nm} {x : LN} (h : setF xs k = some x) : x ∈ xs ∧ x.nm = k := by
  rcases setGo_foldl xs _ h with h | h
  · exact h
  · cases h
theorem nodup_le {α : Type} [DecidableEq α] : ∀ (l m : List α), l.Nodup → (∀ a ∈ l, a ∈ m) → l.length ≤ m.length
  | [], _, _, _ => Nat.zero_le _
  | a :: l, m, hn, hs => by
    have ha := hs a (List.mem_cons_self ..)
    rw [List.nodup_cons] at hn
    have h1 := nodup_le l (m.erase a) hn.2 (fun b hb => (List.mem_erase_of_ne (fun e => hn.1 (by rw [← e]; exact hb))).2 (hs b (List.mem_cons_of_mem _ hb)))
    have h2 := List.length_erase_of_mem ha
    have h3 : 0 < m.length := List.length_pos_of_mem ha
    simp only [List.length_cons]
    omega
theorem RegEnd.mono {w w1 w' : World} {day : Int} {f J : Nm → Option LN} {vs : List Nm} {e : Ending} (h : RegEnd w1 day f J vs e w') (hw : w.heap.size ≤ w1.heap.size) : RegEnd w day f J vs e w' := by
  obtain ⟨R, ha, hc, ea, ec, ca, cc, xs, ks, h1, h2, h3, h4, h5, h6⟩ := h
  exact ⟨R, ha, hc, ea, ec, ca, cc, xs, ks, h1, own_mono h2 hw, own_mono h3 hw, own_mono h4 hw, fun x hx => own_mono (h5 x hx) hw, h6⟩
theorem RegEnd.kept {w w1 w' : World} {day : Int} {f J : Nm → Option LN} {vs : List Nm} {e : Ending} {p : Nat} {A : Array Value} (h : RegEnd w day f J vs e w1) (hp : w1.heap[p]? = some (.cells A 77 (0, 0))) (hg : w1.grownBy w' (some p)) : RegEnd w day f J vs e w' := by
  obtain ⟨R, ha, hc, ea, ec, ca, cc, xs, ks, h1, h2, h3, h4, h5, h6⟩ := h
  exact ⟨R, ha, hc, ea, ec, ca, cc, xs, ks, h1, h2.kept hg (.inr (own_no h2 hp (by intro cur; simp)).symm), h3.kept hg (.inr (own_no h3 hp (by intro cur; simp)).symm), h4.kept hg (.inr (own_no h4 hp (by intro cur; simp)).symm),
    fun x hx => (h5 x hx).kept hg (.inr (own_no (h5 x hx) hp (by intro cur; simp)).symm), h6⟩
def AsEnd (l : List NoteV) (day : Int) (w : World) (e : Ending) (w' : World) : Prop :=
  ∃ v xs ks J, e = .returned (.tuple #[v, .int .i64 0]) ∧ xs.map LN.n = l ∧ ks.Nodup ∧ AllIn (setF xs) ks ∧ JudgeOk (setF xs) ks J ∧ RegEnd w day (setF xs) J (vacs (setF xs) ks) (.returned v) w'
end Go.Proofs.YtlnhppgfhkkidaaGreat
namespace Go.Proofs.YtlnhppgfhkkidaaGreat
set_option linter.unusedSimpArgs false
set_option linter.unusedVariables false

def nmOf (n : NoteV) : Nm := (n.house, n.num)
def refOf (n : NoteV) : Nm := (n.refH, n.refN)
theorem ln_nm (x : LN) : x.nm = nmOf x.n := rfl
def candP (r x : NoteV) : Bool := !doneB x && (decide (refOf x = nmOf r) && (doneB r && judgesB x r))
def betterP (r : NoteV) (b : Option NoteV) (x : NoteV) : Option NoteV := if candP r x = true then (match b with | none => some x | some y => if knownC y x < 0 then some x else some y) else b
def judgeP (l : List NoteV) (r : NoteV) : Option NoteV := l.foldl (betterP r) none
def countP (l : List NoteV) (r : NoteV) : Option NoteV := if doneB r = true then (match judgeP l r with | none => some r | some j => if j.kind = 6 then none else some (countN r j)) else none
def insP (n : NoteV) : List NoteV → List NoteV
  | [] => [n]
  | y :: ys => if whenC y n < 0 then y :: insP n ys else n :: y :: ys
def sortP (l : List NoteV) : List NoteV := l.foldl (fun out n => insP n out) []
/-! ### Sets -/
theorem setGo_ok {f : FrV} {l : List NoteV} : ∀ (n k : Nat), (setGo f l n k).1 = 0 → ∀ i, k ≤ i → i < k + n → setAt f l i = none
  | 0, k, _, i, h1, h2 => by omega
  | n + 1, k, h, i, h1, h2 => by
    rw [setGo] at h
    cases he : setAt f l k with
    | some e =>
      rw [he] at h
      simp only at h
      subst h
      exfalso
      unfold setAt at he
      split at he
      · cases he
      · split at he
        · cases he
        · split at he
          · cases he
          · split at he
            · cases he
            · split at he <;> cases he
    | none =>
      rw [he] at h
      rcases Nat.eq_or_lt_of_le h1 with h3 | h3
      · rw [← h3]; exact he
      · exact setGo_ok n (k + 1) h i h3 (by omega)
theorem adj_pairwise {l : List NoteV} (h : ∀ i x y, l[i]? = some x → l[i + 1]? = some y → nmLt (nmOf x) (nmOf y) = true) : l.Pairwise (fun x y => nmLt (nmOf x) (nmOf y) = true) := by
  induction l with
  | nil => exact List.Pairwise.nil
  | cons a l ih =>
    have ih' := ih (fun i x y h1 h2 => h (i + 1) x y h1 h2)
    refine List.pairwise_cons.2 ⟨fun y hy => ?_, ih'⟩
    cases l with
    | nil => cases hy
    | cons b l =>
      have hab := h 0 a b rfl rfl
      rcases List.mem_cons.1 hy with rfl | hy
      · exact hab
      · have hby := (List.pairwise_cons.1 ih').1 y hy
        rw [nmLt_iff] at *
        omega
theorem set_ok {f : FrV} {l : List NoteV} (h : (checkSetP f l).1 = 0) : f.valid = true ∧ l.length ≤ 400 ∧ (∀ x ∈ l, formedB f x = true) ∧ l.Pairwise (fun x y => nmLt (nmOf x) (nmOf y) = true) := by
  unfold checkSetP at h
  split at h
  · cases h
  · rename_i hv
    split at h
    · cases h
    · rename_i hl
      have hg := setGo_ok l.length 0 h
      refine ⟨by simpa using hv, by omega, fun x hx => ?_, adj_pairwise (fun i x y hx hy => ?_)⟩
      · obtain ⟨i, hi⟩ := List.getElem?_of_mem hx
        have h1 := hg i (Nat.zero_le _) (by have := (List.getElem?_eq_some_iff.1 hi).1; omega)
        unfold setAt at h1
        rw [hi] at h1
        simp only at h1
        split at h1
        · cases h1
        · rename_i h2; simpa using h2
      · have h1 := hg (i + 1) (Nat.zero_le _) (by have := (List.getElem?_eq_some_iff.1 hy).1; omega)
        unfold setAt at h1
        rw [hy] at h1
        simp only [Nat.add_sub_cancel, hx] at h1
        split at h1
        · cases h1
        · rw [if_neg (by omega)] at h1
          simp only at h1
          split at h1
          · cases h1
          · rename_i h0
            split at h1
            · cases h1
            · rw [nmLt, decide_eq_true_eq]
              show namesC x.house x.num y.house y.num < 0
              omega
theorem set_nodup {l : List NoteV} (h : l.Pairwise (fun x y => nmLt (nmOf x) (nmOf y) = true)) : (l.map nmOf).Nodup := by
  rw [List.Nodup, List.pairwise_map]
  refine h.imp (fun {x y} hxy e => ?_)
  rw [e] at hxy
  have := (nmLt_iff (nmOf y) (nmOf y)).1 hxy
  omega
theorem nodup_inj {l : List NoteV} (h : (l.map nmOf).Nodup) {x y : NoteV} (hx : x ∈ l) (hy : y ∈ l) (e : nmOf x = nmOf y) : x = y := by
  induction l with
  | nil => cases hx
  | cons a l ih =>
    rw [List.map_cons, List.nodup_cons] at h
    rcases List.mem_cons.1 hx with h1 | h1
    · rcases List.mem_cons.1 hy with h2 | h2
      · rw [h1, h2]
      · exact absurd (by rw [← h1, e]; exact List.mem_map_of_mem h2) h.1
    · rcases List.mem_cons.1 hy with h2 | h2
      · exact absurd (by rw [← h2, ← e]; exact List.mem_map_of_mem h1) h.1
      · exact ih h.2 h1 h2

/-! ### Judges -/
theorem setF_mem {xs : List LN} (hd : ((xs.map LN.n).map nmOf).Nodup) {x : LN} (hx : x ∈ xs) : setF xs x.nm = some x := by
  have h : ∀ (xs : List LN) (g : Nm → Option LN), ((xs.map LN.n).map nmOf).Nodup → x ∈ xs → (xs.foldl (fun f x => updF f x.nm x) g) x.nm = some x := by
    intro xs
    induction xs with
    | nil => intro g _ h; cases h
    | cons a xs ih =>
      intro g hd hx
      rw [List.map_cons, List.map_cons, List.nodup_cons] at hd
      rw [List.foldl_cons]
      rcases List.mem_cons.1 hx with rfl | hx
      · have hk : ∀ (ys : List LN) (g : Nm → Option LN), nmOf x.n ∉ (ys.map LN.n).map nmOf → (ys.foldl (fun f x => updF f x.nm x) g) x.nm = g x.nm := by
          intro ys
          induction ys with
          | nil => intro g _; rfl
          | cons b ys ihy =>
            intro g hn
            rw [List.map_cons, List.map_cons, List.mem_cons, not_or] at hn
            rw [List.foldl_cons, ihy _ hn.2]
            simp [updF, ln_nm, hn.1]
        rw [hk xs _ hd.1]
        simp [updF]
      · exact ih _ hd.2 hx
  exact h xs _ hd hx
end Go.Proofs.YtlnhppgfhkkidaaGreat
namespace Go.Proofs.YtlnhppgfhkkidaaGreat
set_option linter.unusedSimpArgs false
set_option linter.unusedVariables false

theorem whenC_trans {a b c : NoteV} (h1 : ¬ whenC b a < 0) (h2 : ¬ whenC c b < 0) : ¬ whenC c a < 0 := by
  rw [whenC_neg] at *
  omega
theorem whenC_asymm {a b : NoteV} (h1 : whenC a b < 0) : ¬ whenC b a < 0 := by
  rw [whenC_neg] at *
  omega
theorem insP_perm (n : NoteV) : ∀ l : List NoteV, (insP n l).Perm (n :: l)
  | [] => List.Perm.refl _
  | y :: ys => by
    unfold insP
    split
    · exact ((insP_perm n ys).cons y).trans (List.Perm.swap ..)
    · exact List.Perm.refl _
theorem insP_sorted {n : NoteV} : ∀ {l : List NoteV}, l.Pairwise (fun x y => ¬ whenC y x < 0) → (insP n l).Pairwise (fun x y => ¬ whenC y x < 0)
  | [], _ => by simp [insP]
  | y :: ys, h => by
    rw [List.pairwise_cons] at h
    unfold insP
    split
    · rename_i hy
      refine List.pairwise_cons.2 ⟨fun z hz => ?_, insP_sorted h.2⟩
      rcases List.mem_cons.1 ((insP_perm n ys).subset hz) with rfl | hz
      · exact whenC_asymm hy
      · exact h.1 z hz
    · rename_i hy
      refine List.pairwise_cons.2 ⟨fun z hz => ?_, List.pairwise_cons.2 h⟩
      rcases List.mem_cons.1 hz with rfl | hz
      · exact hy
      · exact whenC_trans hy (h.1 z hz)
theorem sortGo (l : List NoteV) : ∀ out : List NoteV, (l.foldl (fun out n => insP n out) out).Perm (out ++ l) ∧ (out.Pairwise (fun x y => ¬ whenC y x < 0) → (l.foldl (fun out n => insP n out) out).Pairwise (fun x y => ¬ whenC y x < 0)) := by
  induction l with
  | nil => intro out; exact ⟨by simp, fun h => h⟩
  | cons n l ih =>
    intro out
    rw [List.foldl_cons]
    refine ⟨(ih (insP n out)).1.trans ?_, fun h => (ih (insP n out)).2 (insP_sorted h)⟩
    refine ((insP_perm n out).append_right l).trans ?_
    rw [List.cons_append]
    exact List.perm_middle.symm
theorem sortP_perm (l : List NoteV) : (sortP l).Perm l := (sortGo l []).1
/-! ### The register -/
/-! ### Conflicts -/
theorem nm_total {x y : Nm} (h1 : nmLt x y = false) (h2 : nmLt y x = false) : x = y := by
  rw [← Bool.not_eq_true, nmLt_iff] at h1 h2
  rw [Prod.ext_iff]
  omega
end Go.Proofs.YtlnhppgfhkkidaaGreat
namespace Go.Proofs.YtlnhppgfhkkidaaGreat
set_option linter.unusedSimpArgs false
open Go.RowKit

theorem formed_len {f : FrV} {n : NoteV} (hv : f.valid = true) (hf : formedB f n = true) : n.strokes.length ≤ 200 := by
  have hst : n.strokes = [] ∨ strokesB (f.sectors - f.wide) n.strokes = true := by
    rw [formed_well hv] at hf
    simp only [wellB, zero14, bareR, bare0, rightB] at hf
    grind
  rcases hst with e | e
  · rw [e]; simp
  · simp only [strokesB, strokesP, Bool.and_eq_true, decide_eq_true_eq, inB_true] at e
    omega
end Go.Proofs.YtlnhppgfhkkidaaGreat
namespace Go.Proofs.YtlnhppgfhkkidaaGreat
set_option linter.unusedSimpArgs false
open Go.RowKit

def FoldAny (f : FrV) (l : List NoteV) (w : World) (e : Ending) (w' : World) : Prop :=
  ((checkSetP f l).1 ≠ 0 ∧ e = .returned (.tuple #[.agg #[.slice none 0 0, .slice none 0 0, .slice none 0 0], .int .i64 1])) ∨ ((checkSetP f l).1 = 0 ∧ AsEnd l 99999 w e w')
theorem FoldAny.ok {f : FrV} {l : List NoteV} {w w' : World} {e : Ending} (h : FoldAny f l w e w') (hs : (checkSetP f l).1 = 0) : AsEnd l 99999 w e w' := by
  rcases h with ⟨h, _⟩ | ⟨_, h⟩
  · exact absurd hs h
  · exact h

end Go.Proofs.YtlnhppgfhkkidaaGreat
namespace Go.Proofs.YtlnhppgfhkkidaaGreat
set_option linter.unusedSimpArgs false

theorem setGo_all {f : FrV} {l : List NoteV} : ∀ (n k : Nat), (∀ i, k ≤ i → i < k + n → setAt f l i = none) → setGo f l n k = (0, 0)
  | 0, _, _ => rfl
  | n + 1, k, h => by
    rw [setGo, h k (Nat.le_refl _) (by omega)]
    exact setGo_all n (k + 1) (fun i h1 h2 => h i (by omega) (by omega))
theorem set_mk {f : FrV} {l : List NoteV} (hv : f.valid = true) (h4 : l.length ≤ 400) (hf : ∀ x ∈ l, formedB f x = true) (hp : l.Pairwise (fun x y => nmLt (nmOf x) (nmOf y) = true)) : (checkSetP f l).1 = 0 := by
  unfold checkSetP
  rw [if_neg (by rw [hv]; decide), if_neg (by omega), setGo_all]
  intro i _ hi
  rw [Nat.zero_add] at hi
  unfold setAt
  rw [List.getElem?_eq_getElem hi]
  simp only
  rw [if_neg (by rw [hf _ (List.getElem_mem hi)]; decide)]
  by_cases h0 : i = 0
  · rw [if_pos h0]
  · rw [if_neg h0, List.getElem?_eq_getElem (by omega : i - 1 < l.length)]
    simp only
    have h1 := List.pairwise_iff_getElem.1 hp (i - 1) i (by omega) hi (by omega)
    rw [nmLt, decide_eq_true_eq] at h1
    have h2 : namesC l[i - 1].house l[i - 1].num l[i].house l[i].num < 0 := h1
    rw [if_neg (by omega), if_neg (by omega)]
end Go.Proofs.YtlnhppgfhkkidaaGreat
namespace Go.Proofs.YtlnhppgfhkkidaaGreat
open Go.RowKit

theorem same_all {x y : NoteV} : sameB x y = true ↔ (x.house = y.house ∧ x.num = y.num) ∧ (x.clock = y.clock ∧ x.day = y.day ∧ x.kind = y.kind ∧ x.stone = y.stone ∧ x.heap = y.heap ∧ x.turns = y.turns) ∧
    (x.hardLo = y.hardLo ∧ x.hardHi = y.hardHi) ∧ (x.diffLo = y.diffLo ∧ x.diffHi = y.diffHi) ∧ (x.a = y.a ∧ x.b = y.b ∧ x.ring = y.ring) ∧ (x.refH = y.refH ∧ x.refN = y.refN) ∧ x.fix = y.fix ∧ x.strokes = y.strokes := by
  simp only [sameB, nums14]
  grind
section
attribute [local go_sem] noteA_0 noteA_1 noteA_2 noteA_3 noteA_4 noteA_5 noteA_6 noteA_7 noteA_8 noteA_9 noteA_10 noteA_11 noteA_12 noteA_13 noteA_14 noteA_15 noteA_16 noteA_17 noteA_18
end
end Go.Proofs.YtlnhppgfhkkidaaGreat
namespace Go.Proofs.YtlnhppgfhkkidaaGreat
set_option linter.unusedSimpArgs false
set_option linter.unusedVariables false

theorem sameB_iff {x y : NoteV} : sameB x y = true ↔ x = y := by
  constructor
  · intro h
    obtain ⟨⟨h1, h2⟩, ⟨h3, h4, h5, h6, h7, h8⟩, ⟨h9, h10⟩, ⟨h11, h12⟩, ⟨h13, h14, h15⟩, ⟨h16, h17⟩, h18, h19⟩ := same_all.1 h
    cases x; cases y
    simp only [NoteV.mk.injEq]
    exact ⟨h1, h2, h3, h4, h5, h6, h7, h8, h9, h10, h11, h12, h13, h14, h15, h16, h17, h18, h19⟩
  · rintro rfl; simp [sameB]
theorem sameB_comm (x y : NoteV) : sameB x y = sameB y x := by
  rw [Bool.eq_iff_iff, sameB_iff, sameB_iff]
  exact ⟨Eq.symm, Eq.symm⟩
abbrev ltN (x y : NoteV) : Prop := nmLt (nmOf x) (nmOf y) = true
theorem ltN_trans {x y z : NoteV} (h1 : ltN x y) (h2 : ltN y z) : ltN x z := by
  unfold ltN at *
  rw [nmLt_iff] at *
  omega
theorem ltN_asymm {x y : NoteV} (h : ltN x y) : nmLt (nmOf y) (nmOf x) = false := by
  cases h2 : nmLt (nmOf y) (nmOf x) with
  | false => rfl
  | true =>
    unfold ltN at h
    rw [nmLt_iff] at h h2
    omega
theorem ltN_irrefl {x y : NoteV} (h : ltN x y) (e : nmOf x = nmOf y) : False := by
  unfold ltN at h
  rw [e, nmLt_iff] at h
  omega
theorem nodupN {u : List NoteV} (h : u.Pairwise ltN) : u.Nodup := by
  rw [List.Nodup]
  exact h.imp (fun {x y} hxy (e : x = y) => ltN_irrefl hxy (congrArg nmOf e))
def badB (m : List NoteV) (x : NoteV) : Bool := m.any (fun y => decide (nmOf y = nmOf x) && !sameB x y)
def forkAt (l m : List NoteV) : Option Nm := (l.find? (badB m)).map nmOf
theorem badB_true {m : List NoteV} {x : NoteV} : badB m x = true ↔ ∃ y ∈ m, nmOf y = nmOf x ∧ x ≠ y := by
  unfold badB
  rw [List.any_eq_true]
  constructor
  · rintro ⟨y, hy, h⟩
    simp only [Bool.and_eq_true, decide_eq_true_eq, Bool.not_eq_true'] at h
    exact ⟨y, hy, h.1, fun e => by rw [sameB_iff.2 e] at h; cases h.2⟩
  · rintro ⟨y, hy, h1, h2⟩
    refine ⟨y, hy, ?_⟩
    simp only [Bool.and_eq_true, decide_eq_true_eq, Bool.not_eq_true']
    refine ⟨h1, ?_⟩
    cases h3 : sameB x y with
    | false => rfl
    | true => exact absurd (sameB_iff.1 h3) h2
theorem badB_no {m : List NoteV} {x : NoteV} (h : ∀ y ∈ m, nmOf y ≠ nmOf x) : badB m x = false := by
  cases h2 : badB m x with
  | false => rfl
  | true => obtain ⟨y, hy, h3, _⟩ := badB_true.1 h2; exact absurd h3 (h y hy)
theorem badB_at {m : List NoteV} {x y : NoteV} (hd : (m.map nmOf).Nodup) (hy : y ∈ m) (e : nmOf y = nmOf x) : badB m x = !sameB x y := by
  rw [Bool.eq_iff_iff, badB_true, Bool.not_eq_true']
  constructor
  · rintro ⟨z, hz, h1, h2⟩
    have : z = y := nodup_inj hd hz hy (h1.trans e.symm)
    subst this
    cases h3 : sameB x z with
    | false => rfl
    | true => exact absurd (sameB_iff.1 h3) h2
  · intro h
    exact ⟨y, hy, e, fun h2 => by rw [sameB_iff.2 h2] at h; cases h⟩
def NoFork (l m : List NoteV) : Prop := ∀ x ∈ l, ∀ y ∈ m, nmOf x = nmOf y → x = y
theorem NoFork.comm {l m : List NoteV} (h : NoFork l m) : NoFork m l := fun x hx y hy e => (h y hy x hx e.symm).symm
theorem forkAt_none {l m : List NoteV} : forkAt l m = none ↔ NoFork l m := by
  unfold forkAt
  rw [Option.map_eq_none_iff, List.find?_eq_none]
  constructor
  · intro h x hx y hy e
    cases h2 : sameB x y with
    | true => exact sameB_iff.1 h2
    | false => exact absurd (badB_true.2 ⟨y, hy, e.symm, fun h3 => by rw [sameB_iff.2 h3] at h2; cases h2⟩) (h x hx)
  · intro h x hx hb
    obtain ⟨y, hy, h1, h2⟩ := badB_true.1 hb
    exact h2 (h x hx y hy h1.symm)
theorem forkAt_first {l m : List NoteV} {k : Nat} {x : NoteV} (hx : l[k]? = some x) (h1 : ∀ j y, j < k → l[j]? = some y → badB m y = false) (h2 : badB m x = true) : forkAt l m = some (nmOf x) := by
  unfold forkAt
  have hk := (List.getElem?_eq_some_iff.1 hx).1
  have e : l = l.take k ++ x :: l.drop (k + 1) := by
    rw [← (List.getElem?_eq_some_iff.1 hx).2, ← List.drop_eq_getElem_cons hk, List.take_append_drop]
  rw [e, List.find?_append]
  have : (l.take k).find? (badB m) = none := by
    rw [List.find?_eq_none]
    intro y hy
    obtain ⟨j, hj, hj2⟩ := List.mem_take_iff_getElem.1 hy
    rw [h1 j y (by omega) (by rw [← hj2]; exact List.getElem?_eq_getElem (by omega))]
    decide
  rw [this, List.find?_cons_of_pos h2]
  rfl
theorem forkAt_all {l m : List NoteV} (h1 : ∀ j y, j < l.length → l[j]? = some y → badB m y = false) : forkAt l m = none := by
  unfold forkAt
  rw [Option.map_eq_none_iff, List.find?_eq_none]
  intro y hy
  obtain ⟨j, hj⟩ := List.getElem?_of_mem hy
  rw [h1 j y (List.getElem?_eq_some_iff.1 hj).1 hj]
  decide
def IsU (l m u : List NoteV) : Prop := u.Pairwise ltN ∧ ∀ x, x ∈ u ↔ x ∈ l ∨ x ∈ m
theorem IsU.comm {l m u : List NoteV} (h : IsU l m u) : IsU m l u := ⟨h.1, fun x => (h.2 x).trans Or.comm⟩
theorem sortedN_eq {u v : List NoteV} (h1 : u.Pairwise ltN) (h2 : v.Pairwise ltN) (h : ∀ x, x ∈ u ↔ x ∈ v) : u = v := by
  have hp : u.Perm v := (List.perm_ext_iff_of_nodup (nodupN h1) (nodupN h2)).2 h
  refine sorted_unique (lt := fun x y => nmLt (nmOf x) (nmOf y)) (fun x hx y hy h3 h4 => ?_) hp (h1.imp ltN_asymm) (h2.imp ltN_asymm)
  exact nodup_inj (set_nodup h1) hx hy (nm_total h3 h4)
theorem IsU.self {l : List NoteV} (h : l.Pairwise ltN) : IsU l l l := ⟨h, fun x => by simp⟩
theorem IsU.len {l m u : List NoteV} (h : IsU l m u) : u.length ≤ l.length + m.length := by
  have := nodup_le (u.map nmOf) ((l ++ m).map nmOf) (set_nodup h.1) (fun a ha => by
    obtain ⟨x, hx, rfl⟩ := List.mem_map.1 ha
    exact List.mem_map_of_mem (List.mem_append.2 ((h.2 x).1 hx)))
  rwa [List.length_map, List.length_map, List.length_append] at this
structure MgSt (l m out : List NoteV) (i k : Nat) : Prop where
  u : IsU (l.take i) (m.take k) out
  l_gt : ∀ x ∈ out, ∀ y ∈ l.drop i, ltN x y
  m_gt : ∀ x ∈ out, ∀ y ∈ m.drop k, ltN x y
theorem MgSt.start (l m : List NoteV) : MgSt l m [] 0 0 := ⟨⟨List.Pairwise.nil, fun x => by simp⟩, (fun x hx => by cases hx), (fun x hx => by cases hx)⟩
theorem drop_at {l : List NoteV} {i : Nat} {x : NoteV} (hx : l[i]? = some x) : l.drop i = x :: l.drop (i + 1) := by
  obtain ⟨h1, h2⟩ := List.getElem?_eq_some_iff.1 hx
  rw [List.drop_eq_getElem_cons h1, h2]
theorem drop_gt {l : List NoteV} (hs : l.Pairwise ltN) {i : Nat} {x : NoteV} (hx : l[i]? = some x) : ∀ y ∈ l.drop (i + 1), ltN x y := by
  have h := hs.sublist (List.drop_sublist i l)
  rw [drop_at hx, List.pairwise_cons] at h
  exact h.1
theorem drop_ge {l : List NoteV} (hs : l.Pairwise ltN) {i : Nat} {x z : NoteV} (hx : l[i]? = some x) (hz : ltN z x) : ∀ y ∈ l.drop i, ltN z y := by
  rw [drop_at hx]
  intro y hy
  rcases List.mem_cons.1 hy with rfl | hy
  · exact hz
  · exact ltN_trans hz (drop_gt hs hx y hy)
section
variable {l m out : List NoteV} {i k : Nat} {x y : NoteV}
theorem pair_snoc (h : out.Pairwise ltN) (hx : ∀ z ∈ out, ltN z x) : (out ++ [x]).Pairwise ltN := by
  rw [List.pairwise_append]
  exact ⟨h, List.pairwise_singleton _ _, fun z hz y hy => by rw [List.mem_singleton.1 hy]; exact hx z hz⟩
theorem MgSt.left (h : MgSt l m out i k) (hl : l.Pairwise ltN) (hm : m.Pairwise ltN) (hx : l[i]? = some x) (hk : m.length ≤ k ∨ ∃ y, m[k]? = some y ∧ ltN x y) : MgSt l m (out ++ [x]) (i + 1) k := by
  refine ⟨⟨pair_snoc h.u.1 (fun z hz => h.l_gt z hz x (by rw [drop_at hx]; exact List.mem_cons_self ..)), fun z => ?_⟩, fun z hz y hy => ?_, fun z hz y hy => ?_⟩
  · rw [List.mem_append, h.u.2 z, take_snoc hx, List.mem_append, List.mem_singleton]
    constructor
    · rintro ((h1 | h1) | h1)
      · exact .inl (.inl h1)
      · exact .inr h1
      · exact .inl (.inr h1)
    · rintro ((h1 | h1) | h1)
      · exact .inl (.inl h1)
      · exact .inr h1
      · exact .inl (.inr h1)
  · rcases List.mem_append.1 hz with hz | hz
    · exact h.l_gt z hz y (by rw [drop_at hx]; exact List.mem_cons_of_mem _ hy)
    · rw [List.mem_singleton.1 hz]; exact drop_gt hl hx y hy
  · rcases List.mem_append.1 hz with hz | hz
    · exact h.m_gt z hz y hy
    · rw [List.mem_singleton.1 hz]
      rcases hk with hk | ⟨y', hy', hlt⟩
      · rw [List.drop_eq_nil_of_le hk] at hy; cases hy
      · exact drop_ge hm hy' hlt y hy
theorem MgSt.flip (h : MgSt l m out i k) : MgSt m l out k i := ⟨h.u.comm, h.m_gt, h.l_gt⟩
theorem MgSt.right (h : MgSt l m out i k) (hl : l.Pairwise ltN) (hm : m.Pairwise ltN) (hx : m[k]? = some x) (hk : l.length ≤ i ∨ ∃ y, l[i]? = some y ∧ ltN x y) : MgSt l m (out ++ [x]) i (k + 1) :=
  (h.flip.left hm hl hx hk).flip
theorem MgSt.all (h : MgSt l m out i k) (h1 : l.length ≤ i) (h2 : m.length ≤ k) : IsU l m out := by
  have := h.u
  rwa [List.take_of_length_le h1, List.take_of_length_le h2] at this
theorem MgSt.len (h : MgSt l m out i k) : out.length ≤ l.length + m.length := by
  have := h.u.len
  rw [List.length_take, List.length_take] at this
  omega
end
theorem IsU.set {f : FrV} {l m u : List NoteV} (h : IsU l m u) (hl : (checkSetP f l).1 = 0) (hm : (checkSetP f m).1 = 0) (h4 : u.length ≤ 400) : (checkSetP f u).1 = 0 := by
  refine set_mk (set_ok hl).1 h4 (fun x hx => ?_) h.1
  rcases (h.2 x).1 hx with h1 | h1
  · exact (set_ok hl).2.2.1 x h1
  · exact (set_ok hm).2.2.1 x h1
def bothF (f g : Nm → Option LN) : Nm → Option LN := fun k => match g k with | some y => some y | none => f k
theorem union_of {xs ys : List LN} {ks : List Nm} (hd : ((xs.map LN.n).map nmOf).Nodup) (hd2 : ((ys.map LN.n).map nmOf).Nodup) (hn : NoFork (xs.map LN.n) (ys.map LN.n)) (ha : AllIn (bothF (setF xs) (setF ys)) ks) (hin : ∀ k ∈ ks, (bothF (setF xs) (setF ys) k).isSome = true)
    (hs : ks.Pairwise (fun x y => nmLt x y = true)) : IsU (xs.map LN.n) (ys.map LN.n) ((ks.filterMap (bothF (setF xs) (setF ys))).map LN.n) := by
  have nmk : ∀ k x, bothF (setF xs) (setF ys) k = some x → nmOf x.n = k := fun k x h => by
    unfold bothF at h
    split at h
    · rename_i y hy
      cases h; exact (setF_some hy).2
    · exact (setF_some h).2
  refine ⟨?_, fun x => ?_⟩
  · rw [List.pairwise_map]
    clear ha hin
    induction ks with
    | nil => exact List.Pairwise.nil
    | cons k ks ih =>
      rw [List.pairwise_cons] at hs
      cases h : bothF (setF xs) (setF ys) k with
      | none => rw [List.filterMap_cons_none h]; exact ih hs.2
      | some x =>
        rw [List.filterMap_cons_some h]
        refine List.pairwise_cons.2 ⟨fun y hy => ?_, ih hs.2⟩
        obtain ⟨k', hk', h'⟩ := List.mem_filterMap.1 hy
        unfold ltN
        rw [nmk k x h, nmk k' y h']
        exact hs.1 k' hk'
  · constructor
    · intro hx
      obtain ⟨y, hy, rfl⟩ := List.mem_map.1 hx
      obtain ⟨k, hk, h⟩ := List.mem_filterMap.1 hy
      unfold bothF at h
      split at h
      · rename_i z hz
        cases h; exact .inr (List.mem_map_of_mem (setF_some hz).1)
      · exact .inl (List.mem_map_of_mem (setF_some h).1)
    · rintro (hx | hx)
      · obtain ⟨y, hy, rfl⟩ := List.mem_map.1 hx
        have h1 := setF_mem hd hy
        cases h2 : setF ys y.nm with
        | none =>
          have h3 : bothF (setF xs) (setF ys) y.nm = some y := by unfold bothF; rw [h2]; exact h1
          exact List.mem_map_of_mem (List.mem_filterMap.2 ⟨y.nm, ha _ (by rw [h3]; rfl), h3⟩)
        | some z =>
          have h3 : bothF (setF xs) (setF ys) y.nm = some z := by unfold bothF; rw [h2]
          have h4 : y.n = z.n := hn y.n (List.mem_map_of_mem hy) z.n (List.mem_map_of_mem (setF_some h2).1) ((setF_some h2).2).symm
          rw [h4]
          exact List.mem_map_of_mem (List.mem_filterMap.2 ⟨y.nm, ha _ (by rw [h3]; rfl), h3⟩)
      · obtain ⟨y, hy, rfl⟩ := List.mem_map.1 hx
        have h3 : bothF (setF xs) (setF ys) y.nm = some y := by unfold bothF; rw [setF_mem hd2 hy]
        exact List.mem_map_of_mem (List.mem_filterMap.2 ⟨y.nm, ha _ (by rw [h3]; rfl), h3⟩)
theorem names_of {xs : List LN} {ks : List Nm} (hp : (xs.map LN.n).Pairwise ltN) (ha : AllIn (setF xs) ks) (hin : ∀ k ∈ ks, (setF xs k).isSome = true) (hs : ks.Pairwise (fun x y => nmLt x y = true)) : ks = (xs.map LN.n).map nmOf := by
  have hd := set_nodup hp
  have hp2 : ((xs.map LN.n).map nmOf).Pairwise (fun x y => nmLt x y = true) := by rw [List.pairwise_map]; exact hp
  have n1 : ks.Nodup := hs.imp (fun {x y} h e => by rw [e, nmLt_iff] at h; omega)
  have asym : ∀ {x y : Nm}, nmLt x y = true → nmLt y x = false := fun {x y} h => by
    cases h2 : nmLt y x with
    | false => rfl
    | true => rw [nmLt_iff] at h h2; omega
  refine sorted_unique (lt := nmLt) (fun x _ y _ h1 h2 => nm_total h1 h2) ((List.perm_ext_iff_of_nodup n1 hd).2 fun a => ?_) (hs.imp asym) (hp2.imp asym)
  constructor
  · intro h
    obtain ⟨x, hx⟩ := Option.isSome_iff_exists.1 (hin a h)
    obtain ⟨h1, h2⟩ := setF_some hx
    rw [List.map_map]
    exact List.mem_map.2 ⟨x, h1, h2⟩
  · intro h
    rw [List.map_map] at h
    obtain ⟨x, hx, rfl⟩ := List.mem_map.1 h
    exact ha _ (by rw [show (nmOf ∘ LN.n) x = x.nm from rfl, setF_mem hd hx]; rfl)
end Go.Proofs.YtlnhppgfhkkidaaGreat
