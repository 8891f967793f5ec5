/- Parts of the proof, in this order: Short words for the steps of a drawn region (the packed texts use them); Steps of a list of operations, each with its value told; Several steps of a region at once: operations that are not wanted, and those whose value the kernel computes; Words for slices in memory, over any program: what a slice reads as, and append, reslicing, conversion to a string in these words; A note: its numbers, its cells; Structs of many cells, whole: a load, and a store into the block that was made last; The cells of a note as one array; loads and stores of whole structs; The program's small tests of notes: in, rightName, nameOf, valid, cell, spans, strokes; Faces of stones as values: the plain mirror of the program; Neighbours, plain: a list sorted, each number once; Neighbours are neighbours of one another: the plain law; Cells and indices: the plain law of StonesPlaces; Regions: what the flood leaves, plain; Turning and mirroring: the plain law; The numbers of regions and of dead ones stay when a face is turned, plain; Draining: when the cells of dead regions become land, plain; Regions hang together: the plain law of the search through one; Concat of byte slices; both halves of a tally: Notch of the program and of the reference; comparing lists of byte slices; General facts on blocks and cells, for the stones; slices.ContainsFunc of ints; Faces that are dressed as a pattern says, plain; Furrows in memory; slices.ContainsFunc of furrows; within, kind, around, index, cellOf, has, asked of stones. -/
import Derived.Deep.RegionHeld3
import Derived.Deep.QuietTactic
import Derived.BigQuiet
import Derived.WalkKit
import Derived.Lib.Hide
import Derived.Tactics2
import Derived.WalkSpells
import Derived.WalkLawsBesides
import Derived.Laws.AppendOwnNone
import Derived.Deep.MidRow
import Derived.Deep.WholeRow
import Derived.Test.YtimmadkbkimonaaGreatDoorProg
import Derived.Lib.AppendZerosOnto
import Derived.Lib.Walk
import Derived.Handy
import Derived.Lib.SlicesCompact
import Derived.Laws.Rows
import Derived.IntWalk
import Derived.Deep.Cut
import Derived.Laws.Tables
set_option linter.unusedSimpArgs false
set_option linter.unusedVariables false
open List renaming getElem_toArray → lq0, getElem_cons_succ → lq1, getElem_cons_zero → lq2, setIfInBounds_toArray → lq3, set_cons_zero → lq4, set_cons_succ → lq5
namespace Go.Proofs.YtimmadkbkimonaaGreatDoor
section
variable {P : Program} {ops : Array Oper} {Q : Exit → Act → World → Prop} {md : Region.Mode} {S : World → Prop} {fuel : Nat} {listed : Array Bool} {a a' : Act} {w : World}
theorem zT (i : Nat) {oi : Oper} (hi : ops[i]? = some oi) (v : Value) (hy : YieldsIf P ops S oi v a) (h : wpAnyH P md ops Q S fuel (listed.setIfInBounds i true) a' w)
    (hs : Region.noSelect ops = true := by kernel_rfl) (hf : Region.free md ops listed i = true := by kernel_rfl) (hr : (Region.ready md ops listed).contains i = true := by kernel_rfl)
    (hQ : ∀ c a w, Q (.panic c) (a.put oi.dst v) w → Q (.panic c) a w := by exact fun _ _ _ h => h) (hS : S w := by assumption)
    (ha : a.put oi.dst v = a' := by first | (simp only [Act.put, List.getElem_toArray, List.getElem_cons_succ, List.getElem_cons_zero, List.setIfInBounds_toArray, List.set_cons_zero, List.set_cons_succ]; rfl) | rfl) :
    wpAnyH P md ops Q S (fuel + 1) listed a w := wpAnyH_take hi hs hf hr hQ hy hS (ha ▸ h)
theorem zW (i : Nat) {oi : Oper} (hi : ops[i]? = some oi) (v : Value) (h : wpAnyH P md ops Q S fuel (listed.setIfInBounds i true) a' w)
    (hs : Region.noSelect ops = true := by kernel_rfl) (hf : Region.free md ops listed i = true := by kernel_rfl) (hr : (Region.ready md ops listed).contains i = true := by kernel_rfl)
    (hQ : ∀ c a w, Q (.panic c) (a.put oi.dst v) w → Q (.panic c) a w := by exact fun _ _ _ h => h) (hS : S w := by assumption) (hy : YieldsIf P ops S oi v a := by exact Or.inl ⟨by kernel_rfl, by intro W _; go_simp⟩)
    (ha : a.put oi.dst v = a' := by first | (simp only [Act.put, List.getElem_toArray, List.getElem_cons_succ, List.getElem_cons_zero, List.setIfInBounds_toArray, List.set_cons_zero, List.set_cons_succ]; rfl) | rfl) :
    wpAnyH P md ops Q S (fuel + 1) listed a w := wpAnyH_take hi hs hf hr hQ hy hS (ha ▸ h)
theorem zS (i : Nat) {oi : Oper} (hi : ops[i]? = some oi) (v : Value) (hq : ∀ W, S W → (execOp a.eval oi).run P W = .ok (.value v) W) (h : wpAnyH P md ops Q S fuel (listed.setIfInBounds i true) a' w)
    (hs : Region.noSelect ops = true := by kernel_rfl) (hf : Region.free md ops listed i = true := by kernel_rfl) (hr : (Region.ready md ops listed).contains i = true := by kernel_rfl)
    (hQ : ∀ c a w, Q (.panic c) (a.put oi.dst v) w → Q (.panic c) a w := by exact fun _ _ _ h => h) (hS : S w := by assumption) (hw : Region.wanted oi (yielded ops a.tmps) = true := by kernel_rfl)
    (ha : a.put oi.dst v = a' := by first | (simp only [Act.put, List.getElem_toArray, List.getElem_cons_succ, List.getElem_cons_zero, List.setIfInBounds_toArray, List.set_cons_zero, List.set_cons_succ]; rfl) | rfl) :
    wpAnyH P md ops Q S (fuel + 1) listed a w := wpAnyH_take hi hs hf hr hQ (.inl ⟨hw, hq⟩) hS (ha ▸ h)
theorem zR (i : Nat) {o : Oper} (ho : ops[i]? = some o)
    (h : ∀ K' : Act → World → Prop, Shut (∀ a w, S w → (S w → wpAnyH P md ops Q S fuel (listed.setIfInBounds i true) a w) → K' a w) → if Region.wanted o (yielded ops a.tmps) = true then Oper.wp P o a w K' Q else K' (a.put o.dst undef) w)
    (hr : Region.ready md ops listed = [i] := by kernel_rfl) : wpAnyH P md ops Q S (fuel + 1) listed a w := wpAnyH_ready hr (by simp) (AllReadyH.cons ho h AllReadyH.nil)
theorem zn {i : Nat} {o : Oper} (h : ∀ K' : Act → World → Prop, Shut (∀ a w, S w → (S w → wpAnyH P md ops Q S fuel (listed.setIfInBounds i true) a w) → K' a w) → if Region.wanted o (yielded ops a.tmps) = true then Oper.wp P o a w K' Q else K' (a.put o.dst undef) w)
    (ho : ops[i]? = some o := by exact rfl) : AllReadyH P md ops Q S fuel listed a w [i] := AllReadyH.cons ho h AllReadyH.nil
theorem zM (rs : List Nat) {i : Nat} {rt : List Nat} {o : Oper} (ho : ops[i]? = some o)
    (h : ∀ K' : Act → World → Prop, Shut (∀ a w, S w → (S w → wpAnyH P md ops Q S fuel (listed.setIfInBounds i true) a w) → K' a w) → if Region.wanted o (yielded ops a.tmps) = true then Oper.wp P o a w K' Q else K' (a.put o.dst undef) w)
    (hs : AllReadyH P md ops Q S fuel listed a w rt) (hr : Region.ready md ops listed = rs := by kernel_rfl) (e : rs = i :: rt := by exact rfl) : wpAnyH P md ops Q S (fuel + 1) listed a w := by
  subst e
  exact wpAnyH_ready hr (by simp) (AllReadyH.cons ho h hs)
theorem zK {K : Act → World → Prop} (hK : Shut (∀ a w, S w → (S w → wpAnyH P md ops Q S fuel listed a w) → K a w)) (hS : S w) (h : S w → wpAnyH P md ops Q S fuel listed a' w)
    (ha : a = a' := by first | (simp only [Act.put, List.getElem_toArray, List.getElem_cons_succ, List.getElem_cons_zero, List.setIfInBounds_toArray, List.set_cons_zero, List.set_cons_succ]; rfl) | rfl) : K a w := by
  subst ha
  exact hK.out _ _ hS h
theorem zD {id : Nat} (S : World → Prop) {Q : Exit → Act → World → Prop} (hS : S w.drew) (h : S w.drew → wpAnyH P .any ops (NoPanic Q) S ops.size (Array.replicate ops.size false) a w.drew) (hm : P.follows .mixedOrders = true := by kernel_rfl) : (Code.region id ops true).wp P Q a w :=
  wp_region_noPanic (wp_region_held_drew hm hS h)
theorem zp {id p : Nat} {c : Obj} {Q : Exit → Act → World → Prop} (hS : w.heap[p]? = some c) (h : w.drew.heap[p]? = some c → wpAnyH P .any ops (NoPanic Q) (fun w' => w'.heap[p]? = some c) ops.size (Array.replicate ops.size false) a w.drew) (hm : P.follows .mixedOrders = true := by kernel_rfl) : (Code.region id ops true).wp P Q a w :=
  wp_region_noPanic (wp_region_held_drew (S := fun w' => w'.heap[p]? = some c) hm hS h)
theorem zE {Q : Exit → Act → World → Prop} (h : Q .normal a w) (hr : Region.ready md ops listed = [] := by kernel_rfl) : wpAnyH P md ops (NoPanic Q) S fuel listed a w := wpAnyH_done hr (NoPanic.normal h) _
theorem zd (w : World) : RowKit.Below w.heap.size w w.drew := (RowKit.Below.refl _ _).drew
theorem zB (w : World) (o : Obj) : RowKit.Below w.heap.size w (w.alloc o) := (RowKit.Below.refl _ _).alloc (Nat.le_refl _) _
end
section
variable {P : Program} {ops : Array Oper} {C : World → Prop} {Q : Act → Prop} {o : Oper} {rest : List Oper} {a a' : Act}
end
end Go.Proofs.YtimmadkbkimonaaGreatDoor
namespace Go.Proofs.YtimmadkbkimonaaGreatDoor
section
variable {P : Program} {ops : Array Oper} {Q : Exit → Act → World → Prop} {rest : List Oper} {o : Oper} {a a' : Act} {w : World}
theorem yW (v : Value) (h : wpList P ops Q rest a' w) (hy : YieldsIf P ops (fun W => W = w) o v a := by exact Or.inl ⟨by kernel_rfl, by intro W hW; rw [hW]; go_simp⟩)
    (ha : a.put o.dst v = a' := by first | (simp only [Act.put, List.getElem_toArray, List.getElem_cons_succ, List.getElem_cons_zero, List.setIfInBounds_toArray, List.set_cons_zero, List.set_cons_succ]; rfl) | rfl) : wpList P ops Q (o :: rest) a w := by
  subst ha
  unfold wpList
  rcases hy with ⟨hw, hv⟩ | ⟨hw, rfl⟩
  · rw [if_pos hw]
    left
    unfold Oper.wp
    rw [hv w rfl]
    exact h
  · rw [if_neg (by rw [hw]; exact Bool.false_ne_true)]
    exact h
theorem yM (v : Value) (h : wpList P ops Q rest a' w) (hw : Region.wanted o (yielded ops a.tmps) = true := by kernel_rfl) (hv : ∀ W, (execOp a.eval o).run P W = .ok (.value v) W := by intro W; kernel_rfl)
    (ha : a.put o.dst v = a' := by first | (simp only [Act.put, List.getElem_toArray, List.getElem_cons_succ, List.getElem_cons_zero, List.setIfInBounds_toArray, List.set_cons_zero, List.set_cons_succ]; rfl) | rfl) : wpList P ops Q (o :: rest) a w :=
  yW v h (.inl ⟨hw, fun W _ => hv W⟩) ha
theorem yR (h : ∀ K : Act → World → Prop, RowKit.Hid (∀ a w, wpList P ops Q rest a w → K a w) → o.wp P a w K Q) (hw : Region.wanted o (yielded ops a.tmps) = true := by kernel_rfl) : wpList P ops Q (o :: rest) a w := by
  unfold wpList
  rw [if_pos hw]
  exact .inl (h _ (Lib.hid fun _ _ h => h))
theorem yK {K : Act → World → Prop} (hK : RowKit.Hid (∀ a w, wpList P ops Q rest a w → K a w)) (h : wpList P ops Q rest a' w)
    (ha : a = a' := by first | (simp only [Act.put, List.getElem_toArray, List.getElem_cons_succ, List.getElem_cons_zero, List.setIfInBounds_toArray, List.set_cons_zero, List.set_cons_succ]; rfl) | rfl) : K a w := by
  subst ha
  exact hK.out _ _ h
theorem yE (h : Q .normal a w) : wpList P ops Q [] a w := wpList_nil h
theorem yB {id : Nat} {l : List Oper} (h : wpList P l.toArray Q l a w) : (Code.region id l.toArray false).wp P Q a w := wp_region_lit h
end
end Go.Proofs.YtimmadkbkimonaaGreatDoor
namespace Go.Proofs.YtimmadkbkimonaaGreatDoor
section
variable {P : Program} {ops : Array Oper} {Q : Exit → Act → World → Prop} {a a' : Act} {w : World}
def StepOk (P : Program) (ops : Array Oper) (v : Value) (o : Oper) (a : Act) (W : World) : Prop := (Region.wanted o (yielded ops a.tmps) = true ∧ (execOp a.eval o).run P W = .ok (.value v) W) ∨ (Region.wanted o (yielded ops a.tmps) = false ∧ v = undef)
def Steps (P : Program) (ops : Array Oper) : List Value → List Oper → Act → World → Prop
  | [], _, _, _ => True
  | _ :: _, [], _, _ => False
  | v :: vs, o :: rest, a, W => StepOk P ops v o a W ∧ Steps P ops vs rest (a.put o.dst v) W
def putAll : List Value → List Oper → Act → Act
  | v :: vs, o :: rest, a => putAll vs rest (a.put o.dst v)
  | _, _, a => a
def dropAll : List Value → List Oper → List Oper
  | [], rest => rest
  | _ :: vs, _ :: rest => dropAll vs rest
  | _ :: _, [] => []
theorem steps_go : ∀ (vs : List Value) (rest : List Oper) (a : Act), (∀ W, Steps P ops vs rest a W) → wpList P ops Q (dropAll vs rest) (putAll vs rest a) w → wpList P ops Q rest a w
  | [], rest, a, _, h => by
    cases rest <;> exact h
  | v :: vs, [], a, hs, _ => (hs w).elim
  | v :: vs, o :: rest, a, hs, h => by
    refine yW (a' := a.put o.dst v) v (steps_go vs rest _ (fun W => (hs W).2) h) ?_ rfl
    rcases (hs w).1 with ⟨h1, _⟩ | ⟨h1, h2⟩
    · refine .inl ⟨h1, fun W _ => ?_⟩
      rcases (hs W).1 with ⟨_, h3⟩ | ⟨h4, _⟩
      · exact h3
      · rw [h1] at h4; cases h4
    · exact .inr ⟨h1, h2⟩
theorem yMs (vs : List Value) {rest rest' : List Oper} (hs : ∀ W, Steps P ops vs rest a W) (h : wpList P ops Q rest' a' w) (hr : dropAll vs rest = rest' := by first | (simp only [dropAll]; rfl) | rfl)
    (ha : putAll vs rest a = a' := by first | (simp only [putAll, Act.put, List.getElem_toArray, List.getElem_cons_succ, List.getElem_cons_zero, List.setIfInBounds_toArray, List.set_cons_zero, List.set_cons_succ]; rfl) | rfl) : wpList P ops Q rest a w := by
  subst hr
  subst ha
  exact steps_go vs rest a hs h
end
end Go.Proofs.YtimmadkbkimonaaGreatDoor
namespace Go.Proofs.YtimmadkbkimonaaGreatDoor
open Go.RowKit

def RdA (w : World) (k : Nat) (a : Option Addr) (n c : Nat) (xs : List Value) : Prop :=
  xs.length = n * k ∧ n ≤ c ∧ c ≤ maxLen ∧ (c = 0 ∨ ∃ b off, a = some ⟨b, off, none⟩ ∧ ∀ i x, xs[i]? = some x → w.cell? ⟨b, off + i, none⟩ = some x)

theorem RdA.len {w : World} {k : Nat} {a : Option Addr} {n c : Nat} {xs : List Value} (h : RdA w k a n c xs) : xs.length = n * k := h.1
theorem RdA.le {w : World} {k : Nat} {a : Option Addr} {n c : Nat} {xs : List Value} (h : RdA w k a n c xs) : n ≤ c := h.2.1
theorem RdA.max {w : World} {k : Nat} {a : Option Addr} {n c : Nat} {xs : List Value} (h : RdA w k a n c xs) : c ≤ maxLen := h.2.2.1
theorem RdA.maxn {w : World} {k : Nat} {a : Option Addr} {n c : Nat} {xs : List Value} (h : RdA w k a n c xs) : n ≤ 9223372036854775807 := by
  have h1 := h.2.1; have h2 := h.2.2.1; unfold maxLen at h2; omega
theorem RdA.nil (w : World) (k : Nat) : RdA w k none 0 0 [] := ⟨by simp, Nat.le_refl _, Nat.zero_le _, .inl rfl⟩

theorem RdA.at {w : World} {k : Nat} {a : Option Addr} {n c : Nat} {xs : List Value} (h : RdA w k a n c xs) (hn : 0 < n) :
    ∃ b off, a = some ⟨b, off, none⟩ ∧ ∀ i x, xs[i]? = some x → w.cell? ⟨b, off + i, none⟩ = some x := by
  rcases h.2.2.2 with hc | h4
  · have := h.2.1; omega
  · exact h4

theorem RdA.below {w w' : World} {k : Nat} {a : Option Addr} {n c : Nat} {xs : List Value} (h : RdA w k a n c xs) (hb : Below w.heap.size w w') : RdA w' k a n c xs := by
  refine ⟨h.1, h.2.1, h.2.2.1, ?_⟩
  rcases h.2.2.2 with h4 | ⟨b, off, rfl, h4⟩
  · exact .inl h4
  · refine .inr ⟨b, off, rfl, fun i x hx => ?_⟩
    have h5 := h4 i x hx
    exact (hb.cell (p := ⟨b, off + i, none⟩) (World.block_lt_of_cell? w _ h5)).trans h5

theorem RdA.of_cells {w w' : World} {k : Nat} {a : Option Addr} {n c : Nat} {xs : List Value} (h : RdA w k a n c xs)
    (hb : ∀ b, (∃ off, a = some ⟨b, off, none⟩) → b < w.heap.size → w'.heap[b]? = w.heap[b]?) : RdA w' k a n c xs := by
  refine ⟨h.1, h.2.1, h.2.2.1, ?_⟩
  rcases h.2.2.2 with h4 | ⟨b, off, rfl, h4⟩
  · exact .inl h4
  · refine .inr ⟨b, off, rfl, fun i x hx => ?_⟩
    have h5 := h4 i x hx
    exact (World.cell?_of_block (a := ⟨b, off + i, none⟩) (hb b ⟨off, rfl⟩ (World.block_lt_of_cell? w _ h5))).trans h5

theorem RdA.of_own {w : World} {base : Nat} {e : TypeId} {k : Nat} {a : Option Addr} {n c : Nat} {xs : List Value} (h : w.ownsRow base e k (.slice a n c) n xs) : RdA w k a n c xs := by
  obtain ⟨h1, h2⟩ := h
  rcases h2 with ⟨h2, rfl⟩ | ⟨g, cap, cur, hv, _, hg, hn, hc, hs, ht⟩
  · simp only [Value.slice.injEq] at h2
    obtain ⟨rfl, _, rfl⟩ := h2
    exact ⟨h1, Nat.le_refl _, Nat.zero_le _, .inl rfl⟩
  · simp only [Value.slice.injEq] at hv
    obtain ⟨rfl, _, rfl⟩ := hv
    refine ⟨h1, hn, hc, .inr ⟨g, 0, rfl, fun i x hx => ?_⟩⟩
    rw [cell_of_row w g (0 + i) cur e (0, 0) hg]
    rw [← ht, List.getElem?_take] at hx
    split at hx
    · simpa using hx
    · cases hx

section
variable {P : Program} (w : World)

theorem run_append_rd (base : Nat) (t ty e : TypeId) (i : TypeInfo) (z : Value) (size bytes : Nat) (ht : P.underlying t = some (.slice e)) (hi : P.info? e = some i) (hz : i.zero = some z)
    (hsize : i.size = size) (hby : i.bytes = bytes) (hzs : z.cells.size = size) (hsz : 0 < size)
    (sa : Option Addr) (sn sc : Nat) (xs : List Value) (hown : w.ownsRow base e size (.slice sa sn sc) sn xs)
    (xa : Option Addr) (m xc : Nat) (ys : List Value) (hrd : RdA w size xa m xc ys) (h1 : ∀ u ∈ ys, u.oneCell' = true)
    (h63 : sn + m ≤ maxLen) (hbytes : (sn + m) * bytes ≤ 140737488355328) (hbase : base ≤ w.heap.size) :
    ∃ a' c' w', (Builtin.append_ #[t, t] ty #[.slice sa sn sc, .slice xa m xc]).run P w = .ok (.slice a' (sn + m) c') w' ∧ w'.ownsRow base e size (.slice a' (sn + m) c') (sn + m) (xs ++ ys) ∧ w.grownBy w' (Value.ownBlock (.slice sa sn sc)) := by
  have hshape : ∀ (w' : World) (v : Value) (n : Nat) (zs : List Value), w'.ownsRow base e size v n zs → ∃ a c, v = .slice a n c := by
    intro w' v n zs h
    rcases h.2 with ⟨rfl, rfl⟩ | ⟨g, cap, cur, rfl, _⟩
    · exact ⟨_, _, rfl⟩
    · exact ⟨_, _, rfl⟩
  rcases hrd.2.2.2 with rfl | ⟨b, off, rfl, h4⟩
  · have hm : m = 0 := by have := hrd.2.1; omega
    subst hm
    have hy : ys = [] := List.eq_nil_of_length_eq_zero (by simpa using hrd.1)
    subst hy
    cases xa with
    | none =>
      refine ⟨sa, sc, w, ?_, by simpa using hown, World.grownBy.refl _ _⟩
      simpa using run_append_owned_none (P := P) (w := w) base t ty e i size ht hi _ sn xs hown
    | some ad =>
      obtain ⟨v', w', hr, ho, hg, _⟩ := run_append_own (P := P) w base t ty e i z size bytes ht hi hz hsize hby hzs hsz _ sn xs hown ad 0 0 [] (by simp)
        (fun j u hu => by simp at hu) h1 h63 hbytes hbase
      obtain ⟨a', c', rfl⟩ := hshape _ _ _ _ ho
      exact ⟨a', c', w', hr, ho, hg⟩
  · obtain ⟨v', w', hr, ho, hg, _⟩ := run_append_own (P := P) w base t ty e i z size bytes ht hi hz hsize hby hzs hsz _ sn xs hown ⟨b, off, none⟩ m xc ys hrd.1
      (fun j u hu => by rw [Addr.add_lit]; exact h4 j u hu) h1 h63 hbytes hbase
    obtain ⟨a', c', rfl⟩ := hshape _ _ _ _ ho
    exact ⟨a', c', w', hr, ho, hg⟩

theorem wpList_append_rd {ops : Array Oper} {rest : List Oper} {o : Oper} {a : Act} {Q : Exit → Act → World → Prop} (hgd : o.guard = none) (s x : Operand) (t : TypeId)
    (ho : o.op = .call { callee := .builtin .append, args := #[s, x], argTypes := #[t, t] })
    (base : Nat) (e : TypeId) (i : TypeInfo) (z : Value) (size bytes : Nat) (ht : P.underlying t = some (.slice e)) (hi : P.info? e = some i) (hz : i.zero = some z)
    (hsize : i.size = size) (hby : i.bytes = bytes) (hzs : z.cells.size = size) (hsz : 0 < size)
    (sa : Option Addr) (sn sc : Nat) (xs : List Value) (hs : a.eval s = .slice sa sn sc) (hown : w.ownsRow base e size (.slice sa sn sc) sn xs)
    (xa : Option Addr) (m xc : Nat) (ys : List Value) (hx : a.eval x = .slice xa m xc) (hrd : RdA w size xa m xc ys) (h1 : ∀ u ∈ ys, u.oneCell' = true)
    (h63 : sn + m ≤ maxLen) (hbytes : (sn + m) * bytes ≤ 140737488355328) (hbase : base ≤ w.heap.size)
    (h : ∀ a' c' w', w'.ownsRow base e size (.slice a' (sn + m) c') (sn + m) (xs ++ ys) → w.grownBy w' (Value.ownBlock (.slice sa sn sc)) → wpList P ops Q rest (a.put o.dst (.slice a' (sn + m) c')) w') : wpList P ops Q (o :: rest) a w := by
  refine wpList_plain hgd fun K hK => ?_
  obtain ⟨a', c', w', hr, h2, h3⟩ := run_append_rd (P := P) w base t o.type e i z size bytes ht hi hz hsize hby hzs hsz sa sn sc xs hown xa m xc ys hrd h1 h63 hbytes hbase
  unfold Oper.wp
  simp [execOp, ho, resolve, invoke, builtin, hs, hx, hr, Result.andThen]
  exact hK _ _ (h a' c' w' h2 h3)

end

def byteV (b : UInt8) : Value := .int .u8 b.toNat
def RdB (w : World) (a : Option Addr) (n c : Nat) (l : List UInt8) : Prop := RdA w 1 a n c (l.map byteV)
theorem RdB.len {w : World} {a : Option Addr} {n c : Nat} {l : List UInt8} (h : RdB w a n c l) : l.length = n := by simpa using h.1
theorem RdB.below {w w' : World} {a : Option Addr} {n c : Nat} {l : List UInt8} (h : RdB w a n c l) (hb : Below w.heap.size w w') : RdB w' a n c l := RdA.below h hb
theorem RdB.at {w : World} {a : Option Addr} {n c : Nat} {l : List UInt8} (h : RdB w a n c l) (hn : 0 < n) :
    ∃ b off, a = some ⟨b, off, none⟩ ∧ ∀ i, i < n → w.cell? ⟨b, off + i, none⟩ = some (.int .u8 ((l[i]?.getD 0).toNat : Int)) := by
  obtain ⟨b, off, rfl, h4⟩ := RdA.at h hn
  refine ⟨b, off, rfl, fun i hi => h4 i _ ?_⟩
  have := h.len
  simp [byteV, List.getElem?_map, List.getElem?_eq_getElem (show i < l.length by omega)]

end Go.Proofs.YtimmadkbkimonaaGreatDoor
namespace Go.Proofs.YtimmadkbkimonaaGreatDoor
open Go.RowKit

def intV (z : Int) : Value := .int .i64 z
theorem intV_one (l : List Int) : ∀ u ∈ l.map intV, u.oneCell' = true := by
  intro u hu
  obtain ⟨_, _, rfl⟩ := List.mem_map.1 hu
  rfl
def I64 (z : Int) : Prop := -9223372036854775808 ≤ z ∧ z ≤ 9223372036854775807
def RdI (w : World) (a : Option Addr) (n c : Nat) (l : List Int) : Prop := RdA w 1 a n c (l.map intV)
theorem RdI.len {w : World} {a : Option Addr} {n c : Nat} {l : List Int} (h : RdI w a n c l) : l.length = n := by simpa using h.1
theorem RdI.below {w w' : World} {a : Option Addr} {n c : Nat} {l : List Int} (h : RdI w a n c l) (hb : Below w.heap.size w w') : RdI w' a n c l := RdA.below h hb
theorem RdI.maxn {w : World} {a : Option Addr} {n c : Nat} {l : List Int} (h : RdI w a n c l) : n ≤ 9223372036854775807 := RdA.maxn h
theorem RdI.at {w : World} {a : Option Addr} {n c : Nat} {l : List Int} (h : RdI w a n c l) (hn : 0 < n) :
    ∃ b off, a = some ⟨b, off, none⟩ ∧ ∀ i, i < n → w.cell? ⟨b, off + i, none⟩ = some (.int .i64 (l[i]?.getD 0)) := by
  obtain ⟨b, off, rfl, h4⟩ := RdA.at h hn
  refine ⟨b, off, rfl, fun i hi => h4 i _ ?_⟩
  have := h.len
  simp [intV, List.getElem?_map, List.getElem?_eq_getElem (show i < l.length by omega)]

structure NoteV where
  house : Int
  num : Int
  clock : Int
  day : Int
  kind : Int
  stone : Int
  heap : Int
  turns : Int
  hardLo : Int
  hardHi : Int
  diffLo : Int
  diffHi : Int
  a : Int
  b : Int
  ring : Int
  refH : Int
  refN : Int
  fix : Int
  strokes : List Int
deriving Inhabited

def NoteV.cells (n : NoteV) (sa : Option Addr) (sc : Nat) : List Value :=
  [.int .i64 n.house, .int .i64 n.num, .int .i64 n.clock, .int .i64 n.day, .int .i64 n.kind, .int .i64 n.stone, .int .i64 n.heap, .int .i64 n.turns, .int .i64 n.hardLo, .int .i64 n.hardHi, .int .i64 n.diffLo, .int .i64 n.diffHi, .int .i64 n.a, .int .i64 n.b, .int .i64 n.ring, .slice sa n.strokes.length sc, .int .i64 n.refH, .int .i64 n.refN, .int .i64 n.fix]
theorem NoteV.cells_one (n : NoteV) (sa : Option Addr) (sc : Nat) : ∀ v ∈ n.cells sa sc, v.oneCell' = true := by
  intro v hv
  simp only [NoteV.cells, List.mem_cons, List.not_mem_nil, or_false] at hv
  rcases hv with rfl | rfl | rfl | rfl | rfl | rfl | rfl | rfl | rfl | rfl | rfl | rfl | rfl | rfl | rfl | rfl | rfl | rfl | rfl <;> rfl
structure NoteV.Ok (n : NoteV) : Prop where
  house : I64 n.house
  num : I64 n.num
  clock : I64 n.clock
  day : I64 n.day
  kind : I64 n.kind
  stone : I64 n.stone
  heap : I64 n.heap
  turns : I64 n.turns
  hardLo : I64 n.hardLo
  hardHi : I64 n.hardHi
  diffLo : I64 n.diffLo
  diffHi : I64 n.diffHi
  a : I64 n.a
  b : I64 n.b
  ring : I64 n.ring
  refH : I64 n.refH
  refN : I64 n.refN
  fix : I64 n.fix
  strokes : ∀ z ∈ n.strokes, I64 z
def RdNote (w : World) (cs : List Value) (n : NoteV) : Prop := ∃ sa sc, cs = n.cells sa sc ∧ RdI w sa n.strokes.length sc n.strokes ∧ n.Ok
theorem RdNote.below {w w' : World} {cs : List Value} {n : NoteV} (h : RdNote w cs n) (hb : Below w.heap.size w w') : RdNote w' cs n := by
  obtain ⟨sa, sc, h1, h2, h3⟩ := h
  exact ⟨sa, sc, h1, h2.below hb, h3⟩
theorem RdNote.len {w : World} {cs : List Value} {n : NoteV} (h : RdNote w cs n) : cs.length = 19 := by
  obtain ⟨sa, sc, rfl, _⟩ := h
  rfl
theorem RdNote.one {w : World} {cs : List Value} {n : NoteV} (h : RdNote w cs n) : ∀ v ∈ cs, v.oneCell' = true := by
  obtain ⟨sa, sc, rfl, _⟩ := h
  exact n.cells_one sa sc
end Go.Proofs.YtimmadkbkimonaaGreatDoor
namespace Go.Proofs.YtimmadkbkimonaaGreatDoor
open Go.RowKit

theorem wpList_store_new {P : Program} {ops : Array Oper} {rest : List Oper} {op : Oper} {a : Act} {Q : Exit → Act → World → Prop} (w : World) (hgd : op.guard = none) (ty : TypeId) (x y : Operand) (ho : op.op = .store ty x y)
    (c c' : Array Value) (hx : a.eval x = .pointer (some ⟨w.heap.size, 0, none⟩)) (hy : a.eval y = .agg c') (hi : (P.info? ty).map (·.size) = some c'.size) (hc : c.size = c'.size) (h1 : c'.all (·.oneCell') = true)
    (h : wpList P ops Q rest (a.put op.dst undef) (w.alloc (.cells c' ty))) : wpList P ops Q (op :: rest) a (w.alloc (.cells c ty)) := by
  refine wpList_plain hgd fun K hK => ?_
  unfold Oper.wp execOp
  simp only [ho, hx, hy, run_storeAt_new w ty c c' hi hc h1, Sem.run_bind, Sem.run_pure, Result.andThen_ok]
  exact hK _ _ h

end Go.Proofs.YtimmadkbkimonaaGreatDoor
namespace Go.Proofs.YtimmadkbkimonaaGreatDoor
open Go.RowKit

def noteA (n : NoteV) (sa : Option Addr) (sc : Nat) : Array Value := (n.cells sa sc).toArray
section
variable (n : NoteV) (sa : Option Addr) (sc : Nat)
theorem noteA_0 : (noteA n sa sc)[0]? = some (.int .i64 n.house) := rfl
theorem noteA_1 : (noteA n sa sc)[1]? = some (.int .i64 n.num) := rfl
end
section
variable {P : Program} {ops : Array Oper} {rest : List Oper} {op : Oper} {a : Act} {Q : Exit → Act → World → Prop}
end
end Go.Proofs.YtimmadkbkimonaaGreatDoor
namespace Go.Proofs.YtimmadkbkimonaaGreatDoor
open Go.RowKit

def inB (x lo hi : Int) : Bool := decide (lo ≤ x) && decide (x ≤ hi)
theorem inB_true {x lo hi : Int} : inB x lo hi = true ↔ lo ≤ x ∧ x ≤ hi := by simp [inB]
theorem inB_false {x lo hi : Int} : inB x lo hi = false ↔ ¬ (lo ≤ x ∧ x ≤ hi) := by rw [← inB_true]; simp

structure FrV where
  rings : Int
  sectors : Int
  wide : Int
def FrV.val (f : FrV) : Value := .agg #[.int .i64 f.rings, .int .i64 f.sectors, .int .i64 f.wide]
def FrV.valid (f : FrV) : Bool := inB f.rings 1 24 && (inB f.sectors 2 96 && inB f.wide 1 f.sectors)

section
attribute [local go_sem] noteA_0 noteA_1
end
end Go.Proofs.YtimmadkbkimonaaGreatDoor
namespace Go.Proofs.YtimmadkbkimonaaGreatDoor
set_option linter.unusedSimpArgs false
set_option linter.unusedVariables false
open Go.RowKit

structure FaceV where
  eye : Int
  rings : Int
  sectors : Int
  kinds : List Int
  deriving DecidableEq
def FaceV.cells (f : FaceV) (a : Option Addr) (c : Nat) : Array Value := #[.int .i64 f.eye, .int .i64 f.rings, .int .i64 f.sectors, .slice a f.kinds.length c]
def kindB (k : Int) : Bool := inB k 0 2
def FaceV.sized (f : FaceV) : Bool := inB f.eye 1 16 && (inB f.rings 1 24 && (inB f.sectors 2 96 && decide ((f.kinds.length : Int) = f.rings * f.sectors)))
def FaceV.valid (f : FaceV) : Bool := f.sized && f.kinds.all kindB
def zeroF : FaceV := ⟨0, 0, 0, []⟩
abbrev CellV := Int × Int
def around (n m : Int) : Int := n % m
def FaceV.R (f : FaceV) : Nat := f.rings.toNat
def FaceV.S (f : FaceV) : Nat := f.sectors.toNat
def FaceV.kat (f : FaceV) (i : Nat) : Int := f.kinds[i]?.getD 0
def indexF (f : FaceV) (ring sector : Int) : Int := ring * f.sectors + around sector f.sectors
def cellF (f : FaceV) (i : Int) : CellV := (i / f.sectors, i % f.sectors)
def hasF (f : FaceV) (c : CellV) : Bool := inB c.1 0 (f.rings - 1) && inB c.2 0 (f.sectors - 1)
def askedF (f : FaceV) (c : CellV) : Int := if f.valid = false then 10 else if hasF f c = false then 3 else 0
def indexP (f : FaceV) (c : CellV) : Int × Int := if askedF f c = 0 then (indexF f c.1 c.2, 0) else (0, askedF f c)
def cellP (f : FaceV) (i : Int) : CellV × Int := if f.valid = false then ((0, 0), 10) else if inB i 0 ((f.kinds.length : Int) - 1) = false then ((0, 0), 3) else (cellF f i, 0)
def cellsF (f : FaceV) (k : Int) (n : Nat) : List CellV := (List.range n).filterMap fun i => if f.kat i = k then some (cellF f i) else none
def cellsP (f : FaceV) (k : Int) : List CellV × Int := if f.valid = false then ([], 10) else if kindB k = false then ([], 1) else (cellsF f k f.kinds.length, 0)
def weightF (f : FaceV) (ring : Int) : Int := 2 * (f.eye + ring) + 1
def areaP (f : FaceV) (k : Int) : Int × Int := (((cellsP f k).1.map fun c => weightF f c.1).sum, (cellsP f k).2)
def mapK (f : FaceV) (s : Nat) (of : Int → Int) (r : Nat) : List Int := (List.range r).flatMap fun (i : Nat) => (List.range s).map fun (j : Nat) => f.kat (indexF f i (of j)).toNat
def mapF (f : FaceV) (s : Nat) (of : Int → Int) : FaceV := ⟨f.eye, f.rings, s, mapK f s of f.R⟩
def turnF (f : FaceV) (by_ : Int) : FaceV := mapF f f.S fun s => s - around by_ f.sectors
def turnP (f : FaceV) (by_ : Int) : FaceV × Int := if f.valid = true then (turnF f by_, 0) else (zeroF, 10)
theorem FaceV.valid_iff {f : FaceV} : f.valid = true ↔ (1 ≤ f.eye ∧ f.eye ≤ 16) ∧ (1 ≤ f.rings ∧ f.rings ≤ 24) ∧ (2 ≤ f.sectors ∧ f.sectors ≤ 96) ∧ (f.kinds.length : Int) = f.rings * f.sectors ∧ ∀ k ∈ f.kinds, 0 ≤ k ∧ k ≤ 2 := by
  unfold FaceV.valid FaceV.sized kindB
  simp only [Bool.and_eq_true, inB_true, decide_eq_true_eq, List.all_eq_true]
  constructor
  · rintro ⟨⟨h1, h2, h3, h4⟩, h5⟩
    exact ⟨h1, h2, h3, h4, h5⟩
  · rintro ⟨h1, h2, h3, h4, h5⟩
    exact ⟨⟨h1, h2, h3, h4⟩, h5⟩
section
variable {f : FaceV}
theorem FaceV.nat (h : f.valid = true) : f.rings = (f.R : Int) ∧ f.sectors = (f.S : Int) ∧ 1 ≤ f.R ∧ f.R ≤ 24 ∧ 2 ≤ f.S ∧ f.S ≤ 96 ∧ f.kinds.length = f.R * f.S := by
  obtain ⟨_, h2, h3, h4, _⟩ := FaceV.valid_iff.1 h
  have e1 : f.rings = (f.R : Int) := by unfold FaceV.R; omega
  have e2 : f.sectors = (f.S : Int) := by unfold FaceV.S; omega
  refine ⟨e1, e2, by omega, by omega, by omega, by omega, ?_⟩
  rw [e1, e2] at h4
  exact_mod_cast h4
theorem indexF_eq (h : f.valid = true) (i : Nat) (s : Int) : indexF f i s = ((i * f.S + (s % (f.S : Int)).toNat : Nat) : Int) := by
  obtain ⟨_, e2, _, _, e5, _, _⟩ := FaceV.nat h
  unfold indexF around
  rw [e2]
  have := Int.emod_nonneg s (show (f.S : Int) ≠ 0 by omega)
  push_cast
  omega
theorem mapK_len (s : Nat) (of : Int → Int) : ∀ r, (mapK f s of r).length = r * s
  | 0 => by simp [mapK]
  | r + 1 => by
    have := mapK_len s of r
    unfold mapK at this ⊢
    rw [List.range_succ, List.flatMap_append, List.length_append, this]
    simp [Nat.add_mul]
theorem mapK_at (s : Nat) (of : Int → Int) : ∀ {r i j : Nat}, i < r → j < s → (mapK f s of r)[i * s + j]? = some (f.kat (indexF f i (of j)).toNat)
  | 0, i, j, h, _ => by omega
  | r + 1, i, j, h, hj => by
    have hl := mapK_len (f := f) s of r
    have e : mapK f s of (r + 1) = mapK f s of r ++ (List.range s).map fun (j : Nat) => f.kat (indexF f r (of j)).toNat := by
      unfold mapK
      rw [List.range_succ, List.flatMap_append]
      simp
    rw [e]
    by_cases hi : i < r
    · have : i * s + j < r * s := by
        have := Nat.mul_le_mul_right s (show i + 1 ≤ r by omega)
        rw [Nat.add_mul] at this
        omega
      rw [List.getElem?_append_left (by omega)]
      exact mapK_at s of hi hj
    · have e2 : i = r := by omega
      subst e2
      rw [List.getElem?_append_right (by omega), hl, Nat.add_sub_cancel_left, List.getElem?_map, List.getElem?_range hj]
      rfl
theorem mapF_kat (s : Nat) (of : Int → Int) {i j : Nat} (hi : i < f.R) (hj : j < s) : (mapF f s of).kat (i * s + j) = f.kat (indexF f i (of j)).toNat := by
  unfold FaceV.kat mapF
  rw [mapK_at s of hi hj]
  rfl
theorem mapF_valid (h : f.valid = true) (s : Nat) (hs : 2 ≤ s ∧ s ≤ 96) (of : Int → Int) : (mapF f s of).valid = true := by
  obtain ⟨e1, e2, e3, e4, e5, e6, e7⟩ := FaceV.nat h
  obtain ⟨h1, h2, h3, h4, h5⟩ := FaceV.valid_iff.1 h
  refine FaceV.valid_iff.2 ⟨h1, h2, ⟨by show (2 : Int) ≤ (s : Int); omega, by show (s : Int) ≤ 96; omega⟩, ?_, fun k hk => ?_⟩
  · show ((mapK f s of f.R).length : Int) = f.rings * (s : Int)
    rw [mapK_len, e1]
    push_cast
    rfl
  · have hk : k ∈ mapK f s of f.R := hk
    unfold mapK at hk
    obtain ⟨i, _, hk⟩ := List.mem_flatMap.1 hk
    obtain ⟨j, _, rfl⟩ := List.mem_map.1 hk
    unfold FaceV.kat
    cases he : f.kinds[(indexF f i (of j)).toNat]? with
    | none => simp
    | some x => exact h5 x (List.mem_of_getElem? he)
end
end Go.Proofs.YtimmadkbkimonaaGreatDoor
namespace Go.Proofs.YtimmadkbkimonaaGreatDoor
set_option linter.unusedSimpArgs false
set_option linter.unusedVariables false
open Go.RowKit

def insU (x : Int) : List Int → List Int
  | [] => [x]
  | y :: ys => if x < y then x :: y :: ys else if x = y then y :: ys else y :: insU x ys
def uniqS (l : List Int) : List Int := l.foldr insU []
theorem insU_mem {x z : Int} : ∀ {l : List Int}, z ∈ insU x l ↔ z = x ∨ z ∈ l
  | [] => by simp [insU]
  | y :: ys => by
    unfold insU
    split
    · simp
    · split
      · rename_i h; subst h; simp
      · rw [List.mem_cons, insU_mem, List.mem_cons]
        constructor
        · rintro (h | h | h)
          · exact .inr (.inl h)
          · exact .inl h
          · exact .inr (.inr h)
        · rintro (h | h | h)
          · exact .inr (.inl h)
          · exact .inl h
          · exact .inr (.inr h)
theorem insU_sorted {x : Int} : ∀ {l : List Int}, l.Pairwise (· < ·) → (insU x l).Pairwise (· < ·)
  | [], _ => by simp [insU]
  | y :: ys, h => by
    rw [List.pairwise_cons] at h
    unfold insU
    split
    · rename_i hx
      exact List.pairwise_cons.2 ⟨fun z hz => by
        rcases List.mem_cons.1 hz with rfl | hz
        · exact hx
        · have := h.1 z hz; omega, List.pairwise_cons.2 h⟩
    · split
      · exact List.pairwise_cons.2 h
      · rename_i h1 h2
        exact List.pairwise_cons.2 ⟨fun z hz => by
          rcases insU_mem.1 hz with rfl | hz
          · omega
          · exact h.1 z hz, insU_sorted h.2⟩
theorem uniqS_mem {z : Int} : ∀ {l : List Int}, z ∈ uniqS l ↔ z ∈ l
  | [] => by simp [uniqS]
  | y :: ys => by
    show z ∈ insU y (uniqS ys) ↔ _
    rw [insU_mem, uniqS_mem, List.mem_cons]
theorem uniqS_sorted : ∀ (l : List Int), (uniqS l).Pairwise (· < ·)
  | [] => List.Pairwise.nil
  | y :: ys => insU_sorted (uniqS_sorted ys)
theorem sortedZ_eq : ∀ {u v : List Int}, u.Pairwise (· < ·) → v.Pairwise (· < ·) → (∀ x, x ∈ u ↔ x ∈ v) → u = v
  | [], [], _, _, _ => rfl
  | [], y :: v, _, _, h => by have := (h y).2 (List.mem_cons_self ..); cases this
  | x :: u, [], _, _, h => by have := (h x).1 (List.mem_cons_self ..); cases this
  | x :: u, y :: v, hu, hv, h => by
    rw [List.pairwise_cons] at hu hv
    have e : x = y := by
      rcases List.mem_cons.1 ((h x).1 (List.mem_cons_self ..)) with h1 | h1
      · exact h1
      · rcases List.mem_cons.1 ((h y).2 (List.mem_cons_self ..)) with h2 | h2
        · exact h2.symm
        · have := hu.1 y h2
          have := hv.1 x h1
          omega
    subst e
    rw [sortedZ_eq hu.2 hv.2 fun z => ?_]
    constructor
    · intro hz
      rcases List.mem_cons.1 ((h z).1 (List.mem_cons_of_mem _ hz)) with h1 | h1
      · have := hu.1 z hz; omega
      · exact h1
    · intro hz
      rcases List.mem_cons.1 ((h z).2 (List.mem_cons_of_mem _ hz)) with h1 | h1
      · have := hv.1 z hz; omega
      · exact h1
theorem compact_go (d : Array Int) (hd : ∀ i j, i ≤ j → j < d.size → d[i]! ≤ d[j]!) : ∀ m, m ≤ d.size → (Lib.compactUpTo d m).Pairwise (· < ·) ∧ ∀ z, z ∈ Lib.compactUpTo d m ↔ ∃ j, j < m ∧ d[j]! = z
  | 0, _ => by simp [Lib.compactUpTo]
  | m + 1, hm => by
    obtain ⟨h1, h2⟩ := compact_go d hd m (by omega)
    rw [Lib.compactUpTo_succ]
    by_cases hk : Lib.keeps d m = true
    · rw [if_pos hk]
      have hk2 : m = 0 ∨ d[m]! ≠ d[m - 1]! := of_decide_eq_true hk
      refine ⟨List.pairwise_append.2 ⟨h1, by simp, fun a ha b hb => ?_⟩, fun z => ?_⟩
      · rw [List.mem_singleton.1 hb]
        obtain ⟨j, hj, rfl⟩ := (h2 a).1 ha
        have h3 := hd j (m - 1) (by omega) (by omega)
        have h4 := hd (m - 1) m (by omega) (by omega)
        rcases hk2 with h5 | h5 <;> omega
      · rw [List.mem_append, h2, List.mem_singleton]
        constructor
        · rintro (⟨j, hj, e⟩ | e)
          · exact ⟨j, by omega, e⟩
          · exact ⟨m, by omega, e.symm⟩
        · rintro ⟨j, hj, e⟩
          by_cases hjm : j < m
          · exact .inl ⟨j, hjm, e⟩
          · have : j = m := by omega
            subst this
            exact .inr e.symm
    · rw [if_neg hk, List.append_nil]
      have hk2 : ¬ (m = 0 ∨ d[m]! ≠ d[m - 1]!) := fun h => hk (decide_eq_true h)
      have hm0 : m ≠ 0 := fun h => hk2 (.inl h)
      have he : d[m]! = d[m - 1]! := Classical.not_not.1 (fun h => hk2 (.inr h))
      refine ⟨h1, fun z => ?_⟩
      rw [h2]
      constructor
      · rintro ⟨j, hj, e⟩; exact ⟨j, by omega, e⟩
      · rintro ⟨j, hj, e⟩
        by_cases hjm : j < m
        · exact ⟨j, hjm, e⟩
        · have : j = m := by omega
          subst this
          exact ⟨j - 1, by omega, by rw [← e, he]⟩
theorem sort_uniq (l : List Int) : Lib.compact (l.mergeSort fun x y => decide (x ≤ y)) = uniqS l := by
  have hs : (l.mergeSort fun x y => decide (x ≤ y)).Pairwise (fun x y => decide (x ≤ y) = true) := List.pairwise_mergeSort (fun a b c h1 h2 => by simp at h1 h2 ⊢; omega) (fun a b => by simp; omega) l
  have hp := List.mergeSort_perm l (fun x y => decide (x ≤ y))
  generalize l.mergeSort (fun x y => decide (x ≤ y)) = s at *
  have hd : ∀ i j, i ≤ j → j < s.toArray.size → s.toArray[i]! ≤ s.toArray[j]! := fun i j hij hj => by
    have hj2 : j < s.length := by simpa using hj
    rcases Nat.lt_or_ge i j with h | h
    · have := List.pairwise_iff_getElem.1 hs i j (by omega) hj2 h
      simp only [decide_eq_true_eq] at this
      rw [getElem!_pos s.toArray i (by simp; omega), getElem!_pos s.toArray j hj]
      simpa using this
    · have : i = j := by omega
      subst this
      omega
  obtain ⟨h1, h2⟩ := compact_go s.toArray hd s.length (by simp)
  refine sortedZ_eq h1 (uniqS_sorted l) fun z => ?_
  unfold Lib.compact at *
  rw [h2, uniqS_mem, ← hp.mem_iff]
  constructor
  · rintro ⟨j, hj, e⟩
    rw [getElem!_pos s.toArray j (by simpa using hj)] at e
    rw [← e]
    simp
  · intro hz
    obtain ⟨j, hj, e⟩ := List.getElem_of_mem hz
    exact ⟨j, hj, by rw [getElem!_pos s.toArray j (by simpa using hj)]; simpa using e⟩
def neighL (f : FaceV) (i : Int) : List Int :=
  [indexF f (cellF f i).1 ((cellF f i).2 - 1), indexF f (cellF f i).1 ((cellF f i).2 + 1)] ++ (if inB ((cellF f i).1 - 1) 0 (f.rings - 1) = true then [indexF f ((cellF f i).1 - 1) (cellF f i).2] else []) ++ (if inB ((cellF f i).1 + 1) 0 (f.rings - 1) = true then [indexF f ((cellF f i).1 + 1) (cellF f i).2] else [])
def neighF (f : FaceV) (i : Int) : List Int := uniqS (neighL f i)
def neighP (f : FaceV) (c : CellV) : List CellV × Int := if askedF f c = 0 then ((neighF f (indexF f c.1 c.2)).map (cellF f), 0) else ([], askedF f c)
end Go.Proofs.YtimmadkbkimonaaGreatDoor
namespace Go.Proofs.YtimmadkbkimonaaGreatDoor
set_option linter.unusedSimpArgs false
set_option linter.unusedVariables false
open Go.RowKit

section
variable {f : FaceV}
theorem FaceV.int (h : f.valid = true) : 1 ≤ f.rings ∧ f.rings ≤ 24 ∧ 2 ≤ f.sectors ∧ f.sectors ≤ 96 ∧ (f.kinds.length : Int) = f.rings * f.sectors := by
  obtain ⟨_, h2, h3, h4, _⟩ := FaceV.valid_iff.1 h
  exact ⟨h2.1, h2.2, h3.1, h3.2, h4⟩
theorem cell_index (h : f.valid = true) (r : Int) {s : Int} (hs : 0 ≤ s ∧ s < f.sectors) : cellF f (r * f.sectors + s) = (r, s) := by
  have h2 := FaceV.int h
  unfold cellF
  rw [Int.add_comm, Int.add_mul_ediv_right _ _ (by omega), Int.add_mul_emod_self_right, Int.ediv_eq_zero_of_lt hs.1 hs.2, Int.emod_eq_of_lt hs.1 hs.2, Int.zero_add]
theorem around_lt (h : f.valid = true) (s : Int) : 0 ≤ around s f.sectors ∧ around s f.sectors < f.sectors := by
  have h2 := FaceV.int h
  unfold around
  exact ⟨Int.emod_nonneg _ (by omega), Int.emod_lt_of_pos _ (by omega)⟩
theorem around_eq (h : f.valid = true) {s : Int} (hs : 0 ≤ s ∧ s < f.sectors) : around s f.sectors = s := Int.emod_eq_of_lt hs.1 hs.2
theorem indexF_of (h : f.valid = true) (r : Int) {s : Int} (hs : 0 ≤ s ∧ s < f.sectors) : indexF f r s = r * f.sectors + s := by unfold indexF; rw [around_eq h hs]
theorem indexF_cell (h : f.valid = true) (r s : Int) : cellF f (indexF f r s) = (r, around s f.sectors) := cell_index h r (around_lt h s)
theorem indexF_around (h : f.valid = true) (r s : Int) : indexF f r (around s f.sectors) = indexF f r s := by
  unfold indexF
  rw [around_eq h (around_lt h s)]
theorem hasF_iff {c : CellV} : hasF f c = true ↔ (0 ≤ c.1 ∧ c.1 ≤ f.rings - 1) ∧ 0 ≤ c.2 ∧ c.2 ≤ f.sectors - 1 := by
  unfold hasF
  rw [Bool.and_eq_true, inB_true, inB_true]
theorem index_lt (h : f.valid = true) {r : Int} (hr : 0 ≤ r ∧ r ≤ f.rings - 1) (s : Int) : 0 ≤ indexF f r s ∧ indexF f r s < f.kinds.length := by
  have h2 := FaceV.int h
  have h3 := around_lt h s
  unfold indexF
  have h4 : r * f.sectors ≤ (f.rings - 1) * f.sectors := Int.mul_le_mul_of_nonneg_right hr.2 (by omega)
  have h5 : 0 ≤ r * f.sectors := Int.mul_nonneg hr.1 (by omega)
  rw [Int.sub_mul, Int.one_mul] at h4
  omega
def BesideF (f : FaceV) (c x : CellV) : Prop := (x.1 = c.1 ∧ (x.2 = around (c.2 - 1) f.sectors ∨ x.2 = around (c.2 + 1) f.sectors)) ∨ (x.2 = c.2 ∧ (x.1 = c.1 - 1 ∧ 0 ≤ x.1 ∨ x.1 = c.1 + 1 ∧ x.1 ≤ f.rings - 1))
theorem around_back (h : f.valid = true) {s : Int} (hs : 0 ≤ s ∧ s ≤ f.sectors - 1) : around (around (s - 1) f.sectors + 1) f.sectors = s ∧ around (around (s + 1) f.sectors - 1) f.sectors = s := by
  have h2 := FaceV.int h
  unfold around
  rw [Int.emod_add_emod, Int.sub_emod ((s + 1) % f.sectors) 1, Int.emod_emod_of_dvd _ (Int.dvd_refl _), ← Int.sub_emod]
  exact ⟨by rw [show s - 1 + 1 = s by omega]; exact Int.emod_eq_of_lt hs.1 (by omega), by rw [show s + 1 - 1 = s by omega]; exact Int.emod_eq_of_lt hs.1 (by omega)⟩
theorem around_ne (h : f.valid = true) {s : Int} (hs : 0 ≤ s ∧ s ≤ f.sectors - 1) : around (s - 1) f.sectors ≠ s ∧ around (s + 1) f.sectors ≠ s := by
  have h2 := FaceV.int h
  unfold around
  constructor
  · by_cases h0 : s = 0
    · subst h0
      intro e
      have : (0 - 1 : Int) % f.sectors = f.sectors - 1 := by
        rw [show (0 - 1 : Int) = (f.sectors - 1) + f.sectors * (-1) by omega, Int.add_mul_emod_self_left, Int.emod_eq_of_lt (by omega) (by omega)]
      omega
    · rw [Int.emod_eq_of_lt (by omega) (by omega)]
      omega
  · by_cases h0 : s = f.sectors - 1
    · subst h0
      rw [show f.sectors - 1 + 1 = f.sectors by omega, Int.emod_self]
      omega
    · rw [Int.emod_eq_of_lt (by omega) (by omega)]
      omega
theorem beside_has (h : f.valid = true) {c x : CellV} (hc : hasF f c = true) (hx : BesideF f c x) : hasF f x = true := by
  rw [hasF_iff] at hc ⊢
  have h1 := around_lt h (c.2 - 1)
  have h2 := around_lt h (c.2 + 1)
  rcases hx with ⟨e, e2 | e2⟩ | ⟨e, e2 | e2⟩ <;> omega
theorem beside_sym (h : f.valid = true) {c x : CellV} (hc : hasF f c = true) (hx : BesideF f c x) : BesideF f x c := by
  rw [hasF_iff] at hc
  obtain ⟨b1, b2⟩ := around_back h hc.2
  rcases hx with ⟨e, e2 | e2⟩ | ⟨e, e2 | e2⟩
  · exact .inl ⟨e.symm, .inr (by rw [e2, b1])⟩
  · exact .inl ⟨e.symm, .inl (by rw [e2, b2])⟩
  · exact .inr ⟨e.symm, .inr (by omega)⟩
  · exact .inr ⟨e.symm, .inl (by omega)⟩
theorem beside_ne (h : f.valid = true) {c x : CellV} (hc : hasF f c = true) (hx : BesideF f c x) : x ≠ c := by
  rw [hasF_iff] at hc
  obtain ⟨b1, b2⟩ := around_ne h hc.2
  intro e
  subst e
  rcases hx with ⟨_, e2 | e2⟩ | ⟨_, e2 | e2⟩
  · exact b1 e2.symm
  · exact b2 e2.symm
  · omega
  · omega
theorem neigh_mem (h : f.valid = true) {c : CellV} (hc : hasF f c = true) {n : Int} : n ∈ neighF f (indexF f c.1 c.2) ↔ ∃ x, BesideF f c x ∧ n = indexF f x.1 x.2 := by
  have hc2 := hasF_iff.1 hc
  have ec : cellF f (indexF f c.1 c.2) = c := by
    rw [indexF_cell h, around_eq h (by omega)]
  unfold neighF
  rw [uniqS_mem]
  unfold neighL
  rw [ec]
  simp only [List.mem_append, List.mem_cons, List.not_mem_nil, or_false]
  constructor
  · rintro (((e | e) | e) | e)
    · exact ⟨(c.1, around (c.2 - 1) f.sectors), .inl ⟨rfl, .inl rfl⟩, by rw [e]; exact (indexF_around h _ _).symm⟩
    · exact ⟨(c.1, around (c.2 + 1) f.sectors), .inl ⟨rfl, .inr rfl⟩, by rw [e]; exact (indexF_around h _ _).symm⟩
    · split at e
      · rename_i hq
        rw [inB_true] at hq
        exact ⟨(c.1 - 1, c.2), .inr ⟨rfl, .inl ⟨rfl, hq.1⟩⟩, List.mem_singleton.1 e⟩
      · cases e
    · split at e
      · rename_i hq
        rw [inB_true] at hq
        exact ⟨(c.1 + 1, c.2), .inr ⟨rfl, .inr ⟨rfl, hq.2⟩⟩, List.mem_singleton.1 e⟩
      · cases e
  · rintro ⟨x, ⟨e, e2 | e2⟩ | ⟨e, e2 | e2⟩, rfl⟩
    · exact .inl (.inl (.inl (by rw [e, e2, indexF_around h])))
    · exact .inl (.inl (.inr (by rw [e, e2, indexF_around h])))
    · refine .inl (.inr ?_)
      rw [if_pos (inB_true.2 (by omega)), e, e2.1]
      exact List.mem_singleton.2 rfl
    · refine .inr ?_
      rw [if_pos (inB_true.2 (by omega)), e, e2.1]
      exact List.mem_singleton.2 rfl
theorem insU_len (x : Int) : ∀ l : List Int, (insU x l).length ≤ l.length + 1
  | [] => by simp [insU]
  | y :: ys => by
    unfold insU
    have := insU_len x ys
    split
    · simp
    · split
      · simp
      · simp; omega
theorem uniqS_len : ∀ l : List Int, (uniqS l).length ≤ l.length
  | [] => by simp [uniqS]
  | y :: ys => by
    have h1 := insU_len y (uniqS ys)
    have h2 := uniqS_len ys
    show (insU y (uniqS ys)).length ≤ _
    rw [List.length_cons]
    omega
theorem neigh_len (h : f.valid = true) (i : Int) : 1 ≤ (neighF f i).length ∧ (neighF f i).length ≤ 4 := by
  constructor
  · have : indexF f (cellF f i).1 ((cellF f i).2 - 1) ∈ neighF f i := by
      unfold neighF
      rw [uniqS_mem]
      unfold neighL
      simp
    exact List.length_pos_of_mem this
  · refine Nat.le_trans (uniqS_len _) ?_
    unfold neighL
    simp only [List.length_append, List.length_cons, List.length_nil]
    split <;> split <;> simp
theorem asked_zero {c : CellV} : askedF f c = 0 ↔ f.valid = true ∧ hasF f c = true := by
  unfold askedF
  cases f.valid <;> cases hasF f c <;> simp
end
end Go.Proofs.YtimmadkbkimonaaGreatDoor
namespace Go.Proofs.YtimmadkbkimonaaGreatDoor
set_option linter.unusedSimpArgs false
set_option linter.unusedVariables false
open Go.RowKit

section
variable {f : FaceV}
theorem cellF_has (h : f.valid = true) {i : Int} (hi : 0 ≤ i ∧ i < f.kinds.length) : hasF f (cellF f i) = true ∧ indexF f (cellF f i).1 (cellF f i).2 = i := by
  have h2 := FaceV.int h
  have e := Int.emod_add_mul_ediv i f.sectors
  have h3 := Int.emod_nonneg i (show f.sectors ≠ 0 by omega)
  have h4 := Int.emod_lt_of_pos i (show 0 < f.sectors by omega)
  have h5 : 0 ≤ i / f.sectors := Int.ediv_nonneg hi.1 (by omega)
  have h6 : i / f.sectors < f.rings := Int.ediv_lt_of_lt_mul (by omega) (by omega)
  refine ⟨hasF_iff.2 ⟨⟨h5, by show i / f.sectors ≤ _; omega⟩, h3, by show i % f.sectors ≤ _; omega⟩, ?_⟩
  show indexF f (i / f.sectors) (i % f.sectors) = i
  rw [indexF_of h _ ⟨h3, h4⟩]
  rw [Int.mul_comm]
  omega
theorem index_back (h : f.valid = true) {c : CellV} (hc : hasF f c = true) : (0 ≤ indexF f c.1 c.2 ∧ indexF f c.1 c.2 < f.kinds.length) ∧ cellF f (indexF f c.1 c.2) = c := by
  have hc2 := hasF_iff.1 hc
  exact ⟨index_lt h hc2.1 _, by rw [indexF_cell h, around_eq h (by omega)]⟩
theorem indexP_of (h : f.valid = true) {c : CellV} (hc : hasF f c = true) : indexP f c = (indexF f c.1 c.2, 0) := by
  unfold indexP
  rw [if_pos (asked_zero.2 ⟨h, hc⟩)]
theorem cellsF_mem {k : Int} {n : Nat} {c : CellV} : c ∈ cellsF f k n ↔ ∃ i : Nat, i < n ∧ f.kat i = k ∧ c = cellF f i := by
  unfold cellsF
  rw [List.mem_filterMap]
  constructor
  · rintro ⟨i, hi, e⟩
    split at e
    · rename_i hk
      cases e
      exact ⟨i, List.mem_range.1 hi, hk, rfl⟩
    · cases e
  · rintro ⟨i, hi, hk, rfl⟩
    exact ⟨i, List.mem_range.2 hi, by rw [if_pos hk]⟩
end
end Go.Proofs.YtimmadkbkimonaaGreatDoor
namespace Go.Proofs.YtimmadkbkimonaaGreatDoor
set_option linter.unusedSimpArgs false
set_option linter.unusedVariables false
open Go.RowKit

abbrev OfM := Int → Option Int
def updM (o : OfM) (k v : Int) : OfM := fun a => if a = k then some v else o a
def landB (f : FaceV) (i : Int) : Bool := decide (f.kat i.toNat = 0)
def visitF (f : FaceV) (i m : Int) (st : OfM × List Int) (n : Int) : OfM × List Int := if ((st.1 n).isNone && (landB f n == landB f i)) = true then (updM st.1 n m, st.2 ++ [n]) else st
def floodG (nb : Int → List Int) (f : FaceV) (i m : Int) : Nat → OfM × List Int → OfM
  | 0, st => st.1
  | fuel + 1, st => match st.2.getLast? with
    | none => st.1
    | some x => floodG nb f i m fuel ((nb x).foldl (visitF f i m) (st.1, st.2.dropLast))
def regStepG (nb : Int → List Int) (f : FaceV) (st : OfM × Int) (i : Nat) : OfM × Int := if (st.1 i).isSome = true then st else (floodG nb f i st.2 (f.kinds.length + 1) (updM st.1 i st.2, [(i : Int)]), st.2 + 1)
def regionsG (nb : Int → List Int) (f : FaceV) (k : Nat) : OfM × Int := (List.range k).foldl (regStepG nb f) (fun _ => none, 0)
abbrev floodF (f : FaceV) := floodG (neighF f) f
abbrev regionsN (f : FaceV) := regionsG (neighF f) f
def regionsF (f : FaceV) : OfM × Int := regionsN f f.kinds.length
theorem regionsN_succ (nb : Int → List Int) (f : FaceV) (k : Nat) : regionsG nb f (k + 1) = regStepG nb f (regionsG nb f k) k := by
  unfold regionsG
  rw [List.range_succ, List.foldl_append]
  rfl
def regAt (f : FaceV) (o : OfM) (r : Int) (k : Nat) : List Int := (List.range k).filterMap fun (j : Nat) => if o (j : Int) = some r then some (j : Int) else none
def regListF (f : FaceV) : List (List Int) := (List.range (regionsF f).2.toNat).map fun (r : Nat) => regAt f (regionsF f).1 r f.kinds.length
inductive Reach (f : FaceV) : Int → Int → Prop where
  | refl (x : Int) : Reach f x x
  | step {x y z : Int} : Reach f x y → z ∈ neighF f y → landB f z = landB f y → Reach f x z
def InF (f : FaceV) (x : Int) : Prop := 0 ≤ x ∧ x < f.kinds.length
section
variable {f : FaceV}
theorem Reach.trans {x y z : Int} (h1 : Reach f x y) (h2 : Reach f y z) : Reach f x z := by
  induction h2 with
  | refl => exact h1
  | step _ h3 h4 ih => exact .step ih h3 h4
theorem Reach.land {x y : Int} (h : Reach f x y) : landB f y = landB f x := by
  induction h with
  | refl => rfl
  | step _ _ h4 ih => exact h4.trans ih
theorem neigh_in (hv : f.valid = true) {x y : Int} (hx : InF f x) (hy : y ∈ neighF f x) : InF f y ∧ x ∈ neighF f y ∧ y ≠ x := by
  obtain ⟨h1, h2⟩ := cellF_has hv hx
  rw [← h2] at hy
  obtain ⟨c, hc, rfl⟩ := (neigh_mem hv h1).1 hy
  have hh := beside_has hv h1 hc
  obtain ⟨h3, h4⟩ := index_back hv hh
  refine ⟨h3, ?_, fun e => ?_⟩
  · have := (neigh_mem hv hh (n := x)).2 ⟨cellF f x, beside_sym hv h1 hc, h2.symm⟩
    exact this
  · refine beside_ne hv h1 hc ?_
    rw [← h4, e]
theorem Reach.inF (hv : f.valid = true) {x y : Int} (h : Reach f x y) (hx : InF f x) : InF f y := by
  induction h with
  | refl => exact hx
  | step _ h3 _ ih => exact (neigh_in hv ih h3).1
theorem Reach.symm (hv : f.valid = true) {x y : Int} (h : Reach f x y) (hx : InF f x) : Reach f y x := by
  induction h with
  | refl => exact .refl _
  | step h2 h3 h4 ih =>
    have hy := h2.inF hv hx
    exact (Reach.step (.refl _) (neigh_in hv hy h3).2.1 h4.symm).trans ih
def freeN (f : FaceV) (o : OfM) : Nat := (List.range f.kinds.length).countP fun (j : Nat) => (o (j : Int)).isNone
theorem countP_lt {p q : Nat → Bool} : ∀ {l : List Nat} {x : Nat}, x ∈ l → p x = true → q x = false → (∀ y ∈ l, q y = true → p y = true) → l.countP q + 1 ≤ l.countP p
  | [], x, h, _, _, _ => by cases h
  | y :: l, x, h, h1, h2, h3 => by
    have hle : l.countP q ≤ l.countP p := List.countP_mono_left fun z hz hq => h3 z (List.mem_cons_of_mem _ hz) hq
    rw [List.countP_cons, List.countP_cons]
    rcases List.mem_cons.1 h with e | h
    · subst e
      rw [if_pos h1, if_neg (by rw [h2]; decide)]
      omega
    · have := countP_lt h h1 h2 (fun z hz hq => h3 z (List.mem_cons_of_mem _ hz) hq)
      have h4 := h3 y (List.mem_cons_self ..)
      split <;> split <;> first | omega | (rename_i a b; exact absurd (h4 a) b)
theorem free_upd {o : OfM} {n m : Int} (hn : InF f n) (h0 : o n = none) : freeN f (updM o n m) + 1 ≤ freeN f o := by
  unfold freeN
  refine countP_lt (x := n.toNat) (List.mem_range.2 (by unfold InF at hn; omega)) ?_ ?_ fun y _ hq => ?_
  · rw [Int.toNat_of_nonneg hn.1, h0]; rfl
  · rw [Int.toNat_of_nonneg hn.1]; simp [updM]
  · unfold updM at hq
    by_cases e : (y : Int) = n
    · rw [if_pos e] at hq; cases hq
    · rw [if_neg e] at hq; exact hq
structure RgI (f : FaceV) (o : OfM) (m : Int) : Prop where
  inr : ∀ x r, o x = some r → InF f x ∧ 0 ≤ r ∧ r < m
  cl : ∀ x r y, o x = some r → y ∈ neighF f x → landB f y = landB f x → o y = some r
  co : ∀ x y r, o x = some r → o y = some r → Reach f x y
structure FlI (f : FaceV) (o0 : OfM) (i m : Int) (o : OfM) (work : List Int) (nb : Int → Prop) : Prop where
  old : ∀ x r, o0 x = some r → o x = some r
  new : ∀ x r, o x = some r → o0 x = some r ∨ (r = m ∧ o0 x = none ∧ InF f x ∧ Reach f i x)
  at_ : o i = some m
  wk : ∀ x ∈ work, o x = some m
  cl : ∀ x y, o x = some m → x ∉ work → y ∈ neighF f x → landB f y = landB f x → nb x ∨ o y = some m
theorem FlI.visit {o0 o : OfM} {i m n at_ : Int} {work : List Int} {done : List Int} (h0 : RgI f o0 m) (hv : f.valid = true) (hat : o at_ = some m) (hai : InF f at_ ∧ Reach f i at_) (hn : n ∈ neighF f at_) (h : FlI f o0 i m o work (fun x => x = at_)) (hdone : ∀ y ∈ done, landB f y = landB f at_ → o y = some m) :
    FlI f o0 i m (visitF f i m (o, work) n).1 (visitF f i m (o, work) n).2 (fun x => x = at_) ∧ (visitF f i m (o, work) n).1 at_ = some m ∧ (∀ y ∈ done ++ [n], landB f y = landB f at_ → (visitF f i m (o, work) n).1 y = some m) ∧ freeN f (visitF f i m (o, work) n).1 + (visitF f i m (o, work) n).2.length ≤ freeN f o + work.length := by
  have hni := neigh_in hv hai.1 hn
  have hla : landB f at_ = landB f i := hai.2.land
  unfold visitF
  by_cases hq : ((o n).isNone && (landB f n == landB f i)) = true
  · rw [if_pos hq]
    rw [Bool.and_eq_true, beq_iff_eq, Option.isNone_iff_eq_none] at hq
    have hne : ∀ x r, o x = some r → x ≠ n := fun x r hx e => by rw [e, hq.1] at hx; cases hx
    have hup : ∀ x r, o x = some r → updM o n m x = some r := fun x r hx => by unfold updM; rw [if_neg (hne x r hx)]; exact hx
    have h00 : o0 n = none := by
      cases e : o0 n with
      | none => rfl
      | some r => have := h.old n r e; rw [hq.1] at this; cases this
    refine ⟨⟨fun x r hx => hup x r (h.old x r hx), fun x r hx => ?_, hup i m h.at_, fun x hx => ?_, fun x y hx hxw hy hl => ?_⟩, hup _ _ hat, fun y hy hl => ?_, ?_⟩
    · by_cases e : x = n
      · subst e
        have hx : updM o x m x = some r := hx
        rw [show updM o x m x = some m by simp [updM]] at hx
        cases hx
        exact .inr ⟨rfl, h00, hni.1, .step hai.2 hn (by rw [hq.2, hla])⟩
      · have hx : updM o n m x = some r := hx
        unfold updM at hx
        rw [if_neg e] at hx
        exact h.new x r hx
    · rcases List.mem_append.1 hx with hx | hx
      · exact hup x m (h.wk x hx)
      · rw [List.mem_singleton.1 hx]; simp [updM]
    · by_cases e : x = n
      · subst e
        exact absurd (List.mem_append_right _ (List.mem_singleton.2 rfl)) hxw
      · have hx2 : o x = some m := by
          have hx : updM o n m x = some m := hx
          unfold updM at hx
          rw [if_neg e] at hx
          exact hx
        rcases h.cl x y hx2 (fun hw => hxw (List.mem_append_left _ hw)) hy hl with h5 | h5
        · exact .inl h5
        · exact .inr (hup y m h5)
    · rcases List.mem_append.1 hy with hy | hy
      · exact hup y m (hdone y hy hl)
      · rw [List.mem_singleton.1 hy]; simp [updM]
    · have := free_upd (m := m) hni.1 hq.1
      rw [List.length_append]
      simp
      omega
  · rw [if_neg hq]
    refine ⟨h, hat, fun y hy hl => ?_, Nat.le_refl _⟩
    rcases List.mem_append.1 hy with hy | hy
    · exact hdone y hy hl
    · rw [List.mem_singleton.1 hy] at hl ⊢
      have hs : (o n).isSome = true := by
        cases e : o n with
        | some r => rfl
        | none =>
          refine absurd ?_ hq
          rw [e, hl, hla]
          simp
      obtain ⟨r, hr⟩ := Option.isSome_iff_exists.1 hs
      rcases h.new n r hr with h5 | h5
      · -- a region that is done holds all that is beside it
        have h6 := h0.cl n r at_ h5 hni.2.1 hl.symm
        have h7 := h.old at_ r h6
        rw [hat] at h7
        cases h7
        have := (h0.inr n m h5).2.2
        omega
      · show o n = some m
        rw [hr, h5.1]
theorem FlI.round {o0 o : OfM} {i m at_ : Int} {work : List Int} (h0 : RgI f o0 m) (hv : f.valid = true) (hat : o at_ = some m) (hai : InF f at_ ∧ Reach f i at_) : ∀ (ns done : List Int), (∀ n ∈ ns, n ∈ neighF f at_) → FlI f o0 i m o work (fun x => x = at_) → (∀ y ∈ done, landB f y = landB f at_ → o y = some m) →
    FlI f o0 i m (ns.foldl (visitF f i m) (o, work)).1 (ns.foldl (visitF f i m) (o, work)).2 (fun x => x = at_) ∧ (ns.foldl (visitF f i m) (o, work)).1 at_ = some m ∧ (∀ y ∈ done ++ ns, landB f y = landB f at_ → (ns.foldl (visitF f i m) (o, work)).1 y = some m) ∧ freeN f (ns.foldl (visitF f i m) (o, work)).1 + (ns.foldl (visitF f i m) (o, work)).2.length ≤ freeN f o + work.length
  | [], done, _, h, hd => ⟨h, hat, by simpa using hd, Nat.le_refl _⟩
  | n :: ns, done, hns, h, hd => by
    obtain ⟨g1, g2, g3, g4⟩ := FlI.visit h0 hv hat hai (hns n (List.mem_cons_self ..)) h hd
    rw [List.foldl_cons]
    obtain ⟨k1, k2, k3, k4⟩ := FlI.round h0 hv g2 hai ns (done ++ [n]) (fun x hx => hns x (List.mem_cons_of_mem _ hx)) g1 g3
    refine ⟨k1, k2, fun y hy hl => k3 y ?_ hl, Nat.le_trans k4 g4⟩
    rw [List.append_assoc]
    exact hy
theorem FlI.pop {nb : Int → List Int} (hnb : ∀ x, InF f x → ∀ y, y ∈ nb x ↔ y ∈ neighF f x) {o0 o : OfM} {i m x : Int} {ws : List Int} (h0 : RgI f o0 m) (hv : f.valid = true) (h : FlI f o0 i m o (ws ++ [x]) (fun _ => False)) :
    FlI f o0 i m ((nb x).foldl (visitF f i m) (o, ws)).1 ((nb x).foldl (visitF f i m) (o, ws)).2 (fun _ => False) ∧ freeN f ((nb x).foldl (visitF f i m) (o, ws)).1 + ((nb x).foldl (visitF f i m) (o, ws)).2.length + 1 ≤ freeN f o + (ws ++ [x]).length := by
  have hx := h.wk x (List.mem_append_right _ (List.mem_singleton.2 rfl))
  have hxi : InF f x ∧ Reach f i x := by
    rcases h.new x m hx with h5 | h5
    · have := (h0.inr x m h5).2.2; omega
    · exact h5.2.2
  have hw : FlI f o0 i m o ws (fun y => y = x) := ⟨h.old, h.new, h.at_, fun y hy => h.wk y (List.mem_append_left _ hy), fun a y ha haw hy hl => by
    by_cases e : a = x
    · exact .inl e
    · rcases h.cl a y ha (fun hm => by
        rcases List.mem_append.1 hm with hm | hm
        · exact haw hm
        · exact e (List.mem_singleton.1 hm)) hy hl with h5 | h5
      · exact h5.elim
      · exact .inr h5⟩
  obtain ⟨k1, k2, k3, k4⟩ := FlI.round h0 hv hx hxi (nb x) [] (fun n hn => (hnb x hxi.1 n).1 hn) hw (fun y hy => by cases hy)
  refine ⟨⟨k1.old, k1.new, k1.at_, k1.wk, fun a y ha haw hy hl => .inr ?_⟩, by rw [List.length_append]; simp; omega⟩
  rcases k1.cl a y ha haw hy hl with h5 | h5
  · rw [h5] at hy hl
    exact k3 y (by simpa using (hnb x hxi.1 y).2 hy) hl
  · exact h5
theorem flood_spec {nb : Int → List Int} (hnb : ∀ x, InF f x → ∀ y, y ∈ nb x ↔ y ∈ neighF f x) {o0 : OfM} {i m : Int} (h0 : RgI f o0 m) (hv : f.valid = true) : ∀ (fuel : Nat) (o : OfM) (work : List Int), FlI f o0 i m o work (fun _ => False) → freeN f o + work.length ≤ fuel → FlI f o0 i m (floodG nb f i m fuel (o, work)) [] (fun _ => False)
  | 0, o, work, h, hf => by
    have : work = [] := List.length_eq_zero_iff.1 (by omega)
    subst this
    exact h
  | fuel + 1, o, work, h, hf => by
    unfold floodG
    rcases List.eq_nil_or_concat work with e | ⟨ws, x, e⟩
    · subst e
      exact h
    · rw [List.concat_eq_append] at e
      subst e
      have hl : ((o, ws ++ [x]) : OfM × List Int).2.getLast? = some x := by simp
      have hd : ((o, ws ++ [x]) : OfM × List Int).2.dropLast = ws := by simp
      rw [hl, hd]
      obtain ⟨k1, k2⟩ := h.pop hnb h0 hv
      show FlI f o0 i m (floodG nb f i m fuel ((nb x).foldl (visitF f i m) (o, ws))) [] (fun _ => False)
      exact flood_spec hnb h0 hv fuel _ _ k1 (by omega)
theorem free_le (o : OfM) : freeN f o ≤ f.kinds.length := by
  unfold freeN
  refine Nat.le_trans List.countP_le_length ?_
  rw [List.length_range]
  exact Nat.le_refl _
theorem FlI.start {o0 : OfM} {i m : Int} (h0 : RgI f o0 m) (hi : InF f i) (hn : o0 i = none) : FlI f o0 i m (updM o0 i m) [i] (fun _ => False) := by
  have hup : ∀ x r, o0 x = some r → updM o0 i m x = some r := fun x r hx => by unfold updM; rw [if_neg (fun e => by rw [e, hn] at hx; cases hx)]; exact hx
  refine ⟨hup, fun x r hx => ?_, by simp [updM], fun x hx => by rw [List.mem_singleton.1 hx]; simp [updM], fun x y hx hxw hy hl => ?_⟩
  · unfold updM at hx
    by_cases e : x = i
    · rw [if_pos e] at hx
      cases hx
      exact .inr ⟨rfl, by rw [e]; exact hn, by rw [e]; exact hi, by rw [e]; exact .refl _⟩
    · rw [if_neg e] at hx
      exact .inl hx
  · have e : x ≠ i := fun e => hxw (List.mem_singleton.2 e)
    unfold updM at hx
    rw [if_neg e] at hx
    have := (h0.inr x m hx).2.2
    omega
theorem flood_next {nb : Int → List Int} (hnb : ∀ x, InF f x → ∀ y, y ∈ nb x ↔ y ∈ neighF f x) {o0 : OfM} {i m : Int} (h0 : RgI f o0 m) (hv : f.valid = true) (hm : 0 ≤ m) (hi : InF f i) (hn : o0 i = none) : RgI f (floodG nb f i m (f.kinds.length + 1) (updM o0 i m, [i])) (m + 1) ∧ (∀ x r, o0 x = some r → floodG nb f i m (f.kinds.length + 1) (updM o0 i m, [i]) x = some r) ∧ (∀ x, floodG nb f i m (f.kinds.length + 1) (updM o0 i m, [i]) x = some m ↔ o0 x = none ∧ InF f x ∧ Reach f i x) := by
  have h1 := flood_spec hnb h0 hv (f.kinds.length + 1) (updM o0 i m) [i] (FlI.start h0 hi hn) (by have := free_le (f := f) (updM o0 i m); simp; omega)
  generalize floodG nb f i m (f.kinds.length + 1) (updM o0 i m, [i]) = o at *
  have hmine : ∀ x, o x = some m → o0 x = none ∧ InF f x ∧ Reach f i x := fun x hx => by
    rcases h1.new x m hx with h5 | h5
    · have := (h0.inr x m h5).2.2; omega
    · exact h5.2
  have hall : ∀ x, Reach f i x → o x = some m := fun x hr => by
    induction hr with
    | refl => exact h1.at_
    | step _ h3 h4 ih =>
      rcases h1.cl _ _ ih (by simp) h3 h4 with h5 | h5
      · exact h5.elim
      · exact h5
  have hold : ∀ x r, o x = some r → r ≠ m → o0 x = some r := fun x r hx hr => by
    rcases h1.new x r hx with h5 | h5
    · exact h5
    · exact absurd h5.1 hr
  refine ⟨⟨fun x r hx => ?_, fun x r y hx hy hl => ?_, fun x y r hx hy => ?_⟩, h1.old, fun x => ⟨hmine x, fun h => hall x h.2.2⟩⟩
  · by_cases e : r = m
    · rw [e] at hx ⊢
      exact ⟨(hmine x hx).2.1, hm, by omega⟩
    · have := h0.inr x r (hold x r hx e)
      exact ⟨this.1, this.2.1, by omega⟩
  · by_cases e : r = m
    · rw [e] at hx ⊢
      exact hall y (.step (hmine x hx).2.2 hy hl)
    · exact h1.old y r (h0.cl x r y (hold x r hx e) hy hl)
  · by_cases e : r = m
    · rw [e] at hx hy
      exact ((hmine x hx).2.2.symm hv hi).trans (hmine y hy).2.2
    · exact h0.co x y r (hold x r hx e) (hold y r hy e)
structure RgK (f : FaceV) (k : Nat) (o : OfM) (m : Int) : Prop where
  rg : RgI f o m
  m0 : 0 ≤ m
  dn : ∀ j : Nat, j < k → (o j).isSome = true
  fst : ∀ r, 0 ≤ r → r < m → ∃ j : Nat, j < k ∧ o j = some r ∧ ∀ x, o x = some r → (j : Int) ≤ x
  ord : ∀ r s x y, o x = some r → o y = some s → (∀ z, o z = some r → x ≤ z) → (∀ z, o z = some s → y ≤ z) → r < s → x < y
theorem regionsG_spec {nb : Int → List Int} (hnb : ∀ x, InF f x → ∀ y, y ∈ nb x ↔ y ∈ neighF f x) (hv : f.valid = true) : ∀ k, k ≤ f.kinds.length → RgK f k (regionsG nb f k).1 (regionsG nb f k).2
  | 0, _ => ⟨⟨(fun x r h => by cases h), (fun x r y h => by cases h), (fun x y r h => by cases h)⟩, Int.le_refl _, (fun j hj => by omega), (fun r h1 h2 => by have h2 : r < 0 := h2; omega), (fun r s x y h => by cases h)⟩
  | k + 1, hk => by
    have ih := regionsG_spec hnb hv k (by omega)
    rw [regionsN_succ]
    generalize regionsG nb f k = st at *
    obtain ⟨o, m⟩ := st
    unfold regStepG
    by_cases hs : (o (k : Int)).isSome = true
    · rw [if_pos hs]
      refine ⟨ih.rg, ih.m0, fun j hj => ?_, fun r h1 h2 => ?_, ih.ord⟩
      · by_cases e : j = k
        · rw [e]; exact hs
        · exact ih.dn j (by omega)
      · obtain ⟨j, g1, g2, g3⟩ := ih.fst r h1 h2
        exact ⟨j, by omega, g2, g3⟩
    · rw [if_neg hs]
      have hn : o (k : Int) = none := by
        cases e : o (k : Int) with
        | none => rfl
        | some r => rw [e] at hs; exact absurd rfl hs
      obtain ⟨g1, g2, g3⟩ := flood_next hnb ih.rg hv ih.m0 (i := (k : Int)) ⟨by omega, by omega⟩ hn
      dsimp only
      generalize floodG nb f (k : Int) m (f.kinds.length + 1) (updM o (k : Int) m, [(k : Int)]) = o2 at *
      have hnew : ∀ x, o2 x = some m → (k : Int) ≤ x := fun x hx => by
        have h5 := (g3 x).1 hx
        have h6 : ¬ x < (k : Int) := fun h6 => by
          have := ih.dn x.toNat (by have := h5.2.1.1; omega)
          rw [Int.toNat_of_nonneg h5.2.1.1, h5.1] at this
          cases this
        omega
      have hkm : o2 (k : Int) = some m := (g3 k).2 ⟨hn, ⟨by omega, by omega⟩, .refl _⟩
      have hback : ∀ x r, o2 x = some r → r ≠ m → o x = some r := fun x r hx hr => by
        cases e : o x with
        | some s =>
          have := g2 x s e
          rw [hx] at this
          rw [Option.some.inj this]
        | none =>
          have h7 := (g1.inr x r hx)
          obtain ⟨j, j1, j2, j3⟩ := ih.fst r h7.2.1 (by omega)
          have h8 := g1.co (j : Int) x r (g2 _ _ j2) hx
          have h9 : ∀ y, Reach f (j : Int) y → o y = some r := fun y hy => by
            induction hy with
            | refl => exact j2
            | step _ a b ih2 => exact ih.rg.cl _ _ _ ih2 a b
          have := h9 x h8
          rw [e] at this
          cases this
      refine ⟨g1, by have := ih.m0; show 0 ≤ m + 1; omega, fun j hj => ?_, fun r h1 h2 => ?_, fun r s x y hx hy hx2 hy2 hrs => ?_⟩
      · by_cases e : j = k
        · rw [e, hkm]; rfl
        · obtain ⟨r, hr⟩ := Option.isSome_iff_exists.1 (ih.dn j (by omega))
          rw [g2 _ _ hr]; rfl
      · by_cases e : r = m
        · rw [e]
          exact ⟨k, by omega, hkm, hnew⟩
        · obtain ⟨j, j1, j2, j3⟩ := ih.fst r h1 (by have h2 : r < m + 1 := h2; omega)
          exact ⟨j, by omega, g2 _ _ j2, fun x hx => j3 x (hback x r hx e)⟩
      · have hs2 := (g1.inr y s hy).2.2
        by_cases e : s = m
        · have hr : r ≠ m := by omega
          rw [e] at hy
          have h5 := hnew y hy
          have h6 := hx
          obtain ⟨j, j1, j2, j3⟩ := ih.fst r (g1.inr x r hx).2.1 (by omega)
          have := hx2 (j : Int) (g2 _ _ j2)
          omega
        · exact ih.ord r s x y (hback x r hx (by omega)) (hback y s hy e) (fun z hz => hx2 z (g2 z r hz)) (fun z hz => hy2 z (g2 z s hz)) hrs
theorem regionsN_spec (hv : f.valid = true) : ∀ k, k ≤ f.kinds.length → RgK f k (regionsN f k).1 (regionsN f k).2 := regionsG_spec (fun _ _ _ => Iff.rfl) hv
theorem RgI.reach {o : OfM} {m : Int} (h : RgI f o m) {x y r : Int} (hx : o x = some r) (hr : Reach f x y) : o y = some r := by
  induction hr with
  | refl => exact hx
  | step _ h3 h4 ih => exact h.cl _ _ _ ih h3 h4
theorem RgK.same {o o' : OfM} {m m' : Int} (h : RgK f f.kinds.length o m) (h' : RgK f f.kinds.length o' m') : o = o' ∧ m = m' := by
  have dom : ∀ {p : OfM} {q : Int}, RgK f f.kinds.length p q → ∀ x, InF f x → ∃ r, p x = some r := fun hp x hx => by
    have := hp.dn x.toNat (by have := hx.1; have := hx.2; omega)
    rw [Int.toNat_of_nonneg hx.1] at this
    exact Option.isSome_iff_exists.1 this
  have eqv : ∀ {p p' : OfM} {q q' : Int}, RgK f f.kinds.length p q → RgK f f.kinds.length p' q' → ∀ x y r, p x = some r → p y = some r → ∃ s, p' x = some s ∧ p' y = some s := fun hp hp' x y r hx hy => by
    obtain ⟨s, hs⟩ := dom hp' x (hp.rg.inr x r hx).1
    refine ⟨s, hs, ?_⟩
    exact hp'.rg.reach hs (hp.rg.co x y r hx hy)
  have key : ∀ n : Nat, (∀ x (r : Nat), r < n → (o x = some (r : Int) ↔ o' x = some (r : Int))) := by
    intro n
    induction n with
    | zero => intro x r hr; omega
    | succ n ih =>
      have one : ∀ {p p' : OfM} {q q' : Int}, RgK f f.kinds.length p q → RgK f f.kinds.length p' q' → (∀ x (r : Nat), r < n → (p x = some (r : Int) ↔ p' x = some (r : Int))) → ∀ x, p x = some (n : Int) → p' x = some (n : Int) := fun {p p' q q'} hp hp' ih x hx => by
        obtain ⟨j, j1, j2, j3⟩ := hp.fst n (by omega) (hp.rg.inr x n hx).2.2
        obtain ⟨s, s1, s2⟩ := eqv hp hp' j x n j2 hx
        have hs := hp'.rg.inr _ _ s1
        have h1 : (n : Int) ≤ s := Int.not_lt.1 fun hlt => by
          have := (ih (j : Int) s.toNat (by omega)).2 (by rw [Int.toNat_of_nonneg hs.2.1]; exact s1)
          rw [j2] at this
          cases this
          omega
        by_cases e : s = n
        · rw [s2, e]
        · -- the other's region n begins ahead of this one
          obtain ⟨k, k1, k2, k3⟩ := hp'.fst n (by omega) (by omega)
          obtain ⟨k', g1, g2, g3⟩ := hp'.fst s hs.2.1 hs.2.2
          have hkj := hp'.ord n s k k' k2 g2 k3 g3 (by omega)
          have hjk := g3 j s1
          obtain ⟨t, ht⟩ := dom hp (k : Int) ⟨by omega, by omega⟩
          have hti := hp.rg.inr _ _ ht
          have h2 : (n : Int) ≤ t := Int.not_lt.1 fun hlt => by
            have := (ih (k : Int) t.toNat (by omega)).1 (by rw [Int.toNat_of_nonneg hti.2.1]; exact ht)
            rw [k2] at this
            cases this
            omega
          have hne : t ≠ n := fun e2 => by
            rw [e2] at ht
            obtain ⟨u, u1, u2⟩ := eqv hp hp' k j n ht j2
            rw [k2] at u1
            rw [s1] at u2
            cases u1
            cases u2
            exact e rfl
          obtain ⟨i, i1, i2, i3⟩ := hp.fst t hti.2.1 hti.2.2
          have := hp.ord n t j i j2 i2 j3 i3 (by omega)
          have := i3 k ht
          omega
      intro x r hr
      by_cases e : r = n
      · subst e
        exact ⟨one h h' ih x, one h' h (fun x r hr => (ih x r hr).symm) x⟩
      · exact ih x r (by omega)
  have heq : ∀ x, o x = o' x := fun x => by
    cases e : o x with
    | some r =>
      have hr := (h.rg.inr x r e).2.1
      have := (key (r.toNat + 1) x r.toNat (by omega)).1 (by rw [Int.toNat_of_nonneg hr]; exact e)
      rw [this, Int.toNat_of_nonneg hr]
    | none =>
      cases e2 : o' x with
      | none => rfl
      | some r =>
        have hr := (h'.rg.inr x r e2).2.1
        have := (key (r.toNat + 1) x r.toNat (by omega)).2 (by rw [Int.toNat_of_nonneg hr]; exact e2)
        rw [e] at this
        cases this
  refine ⟨funext heq, ?_⟩
  have hle : ∀ {p p' : OfM} {q q' : Int}, RgK f f.kinds.length p q → RgK f f.kinds.length p' q' → p = p' → q ≤ q' := fun {p p' q q'} hp hp' e => Int.not_lt.1 fun hlt => by
    obtain ⟨j, j1, j2, _⟩ := hp.fst q' hp'.m0 hlt
    rw [e] at j2
    have := (hp'.rg.inr _ _ j2).2.2
    omega
  exact Int.le_antisymm (hle h h' (funext heq)) (hle h' h (funext heq).symm)
end
end Go.Proofs.YtimmadkbkimonaaGreatDoor
namespace Go.Proofs.YtimmadkbkimonaaGreatDoor
set_option linter.unusedSimpArgs false
set_option linter.unusedVariables false
open Go.RowKit

theorem sub_mod_r (x y n : Int) : (x - y % n) % n = (x - y) % n := by
  rw [Int.sub_emod, Int.emod_emod_of_dvd _ (Int.dvd_refl _), ← Int.sub_emod]
section
variable {f g : FaceV}
theorem face_ext (hf : f.valid = true) (hg : g.valid = true) (h1 : f.eye = g.eye) (h2 : f.rings = g.rings) (h3 : f.sectors = g.sectors) (h : ∀ i j : Nat, i < f.R → j < f.S → f.kat (i * f.S + j) = g.kat (i * f.S + j)) : f = g := by
  obtain ⟨_, _, _, _, e5, _, e7⟩ := FaceV.nat hf
  obtain ⟨_, _, _, _, _, _, g7⟩ := FaceV.nat hg
  have eR : g.R = f.R := by unfold FaceV.R; rw [h2]
  have eS : g.S = f.S := by unfold FaceV.S; rw [h3]
  rw [eR, eS] at g7
  have hk : f.kinds = g.kinds := by
    refine List.ext_getElem (by rw [e7, g7]) fun n hn1 hn2 => ?_
    have hn : n < f.R * f.S := by rw [← e7]; exact hn1
    have hdiv : n / f.S < f.R := Nat.div_lt_of_lt_mul (by rw [Nat.mul_comm]; exact hn)
    have hmod : n % f.S < f.S := Nat.mod_lt _ (by omega)
    have he : n / f.S * f.S + n % f.S = n := by rw [Nat.mul_comm]; exact Nat.div_add_mod n f.S
    have := h _ _ hdiv hmod
    rw [he] at this
    unfold FaceV.kat at this
    rw [List.getElem?_eq_getElem hn1, List.getElem?_eq_getElem hn2] at this
    exact this
  cases f
  cases g
  simp only [FaceV.mk.injEq] at *
  exact ⟨h1, h2, h3, hk⟩
theorem turn_valid (h : f.valid = true) (a : Int) : (turnF f a).valid = true := mapF_valid h f.S ⟨(FaceV.nat h).2.2.2.2.1, (FaceV.nat h).2.2.2.2.2.1⟩ _
theorem turn_size (h : f.valid = true) (a : Int) : (turnF f a).eye = f.eye ∧ (turnF f a).rings = f.rings ∧ (turnF f a).sectors = f.sectors ∧ (turnF f a).R = f.R ∧ (turnF f a).S = f.S :=
  ⟨rfl, rfl, (FaceV.nat h).2.1.symm, rfl, rfl⟩
theorem turn_kat (h : f.valid = true) (a : Int) {i j : Nat} (hi : i < f.R) (hj : j < f.S) : (turnF f a).kat (i * f.S + j) = f.kat (i * f.S + (((j : Int) - a) % (f.S : Int)).toNat) := by
  unfold turnF
  rw [mapF_kat f.S _ hi hj, indexF_eq h, Int.toNat_natCast]
  unfold around
  rw [(FaceV.nat h).2.1, sub_mod_r]
theorem turn_dvd (h : f.valid = true) {a : Int} (ha : a % f.sectors = 0) : turnF f a = f := by
  obtain ⟨s1, s2, s3, s4, s5⟩ := turn_size h a
  refine face_ext (turn_valid h a) h rfl rfl s3 fun i j hi hj => ?_
  rw [s4] at hi
  rw [s5] at hj ⊢
  rw [turn_kat h a hi hj, ← sub_mod_r]
  rw [(FaceV.nat h).2.1] at ha
  rw [ha, Int.sub_zero, Int.emod_eq_of_lt (by omega) (by omega), Int.toNat_natCast]
theorem turn_mod (h : f.valid = true) (a : Int) : turnF f (a % f.sectors) = turnF f a := by
  unfold turnF around
  rw [Int.emod_emod_of_dvd _ (Int.dvd_refl _)]
end
end Go.Proofs.YtimmadkbkimonaaGreatDoor
namespace Go.Proofs.YtimmadkbkimonaaGreatDoor
set_option linter.unusedSimpArgs false
set_option linter.unusedVariables false
open Go.RowKit

theorem nodup_len {α} [DecidableEq α] : ∀ {l l2 : List α}, l.Nodup → (∀ x ∈ l, x ∈ l2) → l.length ≤ l2.length
  | [], _, _, _ => Nat.zero_le _
  | x :: l, l2, hn, hs => by
    rw [List.nodup_cons] at hn
    have hx := hs x (List.mem_cons_self ..)
    have := nodup_len (l2 := l2.erase x) hn.2 fun y hy => (List.mem_erase_of_ne (fun e => hn.1 (by rw [← e]; exact hy))).2 (hs y (List.mem_cons_of_mem _ hy))
    rw [List.length_erase_of_mem hx] at this
    have := List.length_pos_of_mem hx
    rw [List.length_cons]
    omega
def regionsP (f : FaceV) : List (List Int) × Int := if f.valid = true then (regListF f, 0) else ([], 10)
section
variable {f g : FaceV}
theorem regAt_mem {o : OfM} {r : Int} {k : Nat} {x : Int} : x ∈ regAt f o r k ↔ o x = some r ∧ 0 ≤ x ∧ x < k := by
  unfold regAt
  rw [List.mem_filterMap]
  constructor
  · rintro ⟨j, hj, e⟩
    rw [List.mem_range] at hj
    split at e
    · rename_i h
      cases e
      exact ⟨h, by omega, by omega⟩
    · cases e
  · rintro ⟨h1, h2, h3⟩
    refine ⟨x.toNat, List.mem_range.2 (by omega), ?_⟩
    rw [Int.toNat_of_nonneg h2, if_pos h1]
theorem regAt_sorted {o : OfM} {r : Int} {k : Nat} : (regAt f o r k).Pairwise (· < ·) := by
  unfold regAt
  rw [List.pairwise_filterMap]
  refine List.Pairwise.imp ?_ (List.pairwise_lt_range (n := k))
  intro a b hab x hx y hy
  split at hx
  · split at hy
    · cases hx; cases hy; omega
    · cases hy
  · cases hx
theorem regF (hv : f.valid = true) : RgK f f.kinds.length (regionsF f).1 (regionsF f).2 := regionsN_spec hv _ (Nat.le_refl _)
theorem regList_len : (regListF f).length = (regionsF f).2.toNat := by unfold regListF; rw [List.length_map, List.length_range]
theorem regList_at {n : Nat} (h : n < (regionsF f).2.toNat) : (regListF f)[n]? = some (regAt f (regionsF f).1 n f.kinds.length) := by
  unfold regListF
  rw [List.getElem?_map, List.getElem?_range h]
  rfl
theorem reg_head (hv : f.valid = true) {n : Nat} (h : n < (regionsF f).2.toNat) : ∃ x, (regAt f (regionsF f).1 n f.kinds.length).head? = some x ∧ (regionsF f).1 x = some (n : Int) ∧ ∀ z, (regionsF f).1 z = some (n : Int) → x ≤ z := by
  have R := regF hv
  obtain ⟨j, j1, j2, j3⟩ := R.fst n (by omega) (by omega)
  have hm : (j : Int) ∈ regAt f (regionsF f).1 n f.kinds.length := regAt_mem.2 ⟨j2, by omega, by omega⟩
  have hs := regAt_sorted (f := f) (o := (regionsF f).1) (r := n) (k := f.kinds.length)
  have hin : ∀ z ∈ regAt f (regionsF f).1 n f.kinds.length, (regionsF f).1 z = some (n : Int) := fun z hz => (regAt_mem.1 hz).1
  generalize regAt f (regionsF f).1 n f.kinds.length = cs at *
  cases cs with
  | nil => cases hm
  | cons x l =>
    have hx := hin x (List.mem_cons_self ..)
    refine ⟨x, rfl, hx, fun z hz => ?_⟩
    have h1 := j3 z hz
    rcases List.mem_cons.1 hm with e | e
    · omega
    · have := (List.pairwise_cons.1 hs).1 _ e
      omega
def Hom (f g : FaceV) (φ : Int → Int) : Prop := ∀ x, InF f x → InF g (φ x) ∧ landB g (φ x) = landB f x ∧ (φ x / g.sectors = x / f.sectors) ∧ ∀ y ∈ neighF f x, φ y ∈ neighF g (φ x)
theorem Hom.reach {φ : Int → Int} (hf : f.valid = true) (h : Hom f g φ) {x y : Int} (hr : Reach f x y) (hx : InF f x) : Reach g (φ x) (φ y) := by
  induction hr with
  | refl => exact .refl _
  | step h2 h3 h4 ih =>
    have hy := h2.inF hf hx
    have hz := (neigh_in hf hy h3).1
    exact ih.step ((h _ hy).2.2.2 _ h3) (by rw [(h _ hz).2.1, (h _ hy).2.1, h4])
end
end Go.Proofs.YtimmadkbkimonaaGreatDoor
namespace Go.Proofs.YtimmadkbkimonaaGreatDoor
set_option linter.unusedSimpArgs false
set_option linter.unusedVariables false
open Go.RowKit

def HeadLt (a b : List Int) : Prop := a.head?.getD 0 < b.head?.getD 0
section
variable {f : FaceV}
theorem regList_heads (hv : f.valid = true) : (regListF f).Pairwise HeadLt := by
  have R := regF hv
  rw [List.pairwise_iff_getElem]
  intro i j hi hj hij
  rw [regList_len] at hi hj
  obtain ⟨x, x1, x2, x3⟩ := reg_head hv hi
  obtain ⟨y, y1, y2, y3⟩ := reg_head hv hj
  have ei := regList_at hi
  have ej := regList_at hj
  have hi2 : i < (regListF f).length := by rw [regList_len]; exact hi
  have hj2 : j < (regListF f).length := by rw [regList_len]; exact hj
  rw [List.getElem?_eq_getElem hi2] at ei
  rw [List.getElem?_eq_getElem hj2] at ej
  unfold HeadLt
  rw [Option.some.inj ei, Option.some.inj ej, x1, y1]
  exact R.ord i j x y x2 y2 x3 y3 (by omega)
end
end Go.Proofs.YtimmadkbkimonaaGreatDoor
namespace Go.Proofs.YtimmadkbkimonaaGreatDoor
set_option linter.unusedSimpArgs false
set_option linter.unusedVariables false
open Go.RowKit

theorem if_iff2 {p q : Prop} [Decidable p] [Decidable q] (h : p ↔ q) {α : Type} (a b : α) : (if p then a else b) = if q then a else b := by
  by_cases hp : p
  · rw [if_pos hp, if_pos (h.1 hp)]
  · rw [if_neg hp, if_neg (fun h2 => hp (h.2 h2))]
section
variable {f : FaceV}
structure BfI (f : FaceV) (i x0 : Int) (todo : List Int) (at_ : Nat) : Prop where
  nd : todo.Nodup
  inr : ∀ x ∈ todo, (regionsF f).1 x = some i
  hd : x0 ∈ todo
  cl : ∀ j x, j < at_ → todo[j]? = some x → ∀ y ∈ neighF f x, (regionsF f).1 y = some i → y ∈ todo
theorem BfI.start {i x0 : Int} (h : (regionsF f).1 x0 = some i) : BfI f i x0 [x0] 0 :=
  ⟨by simp, by simp [h], by simp, fun j x hj => by omega⟩
theorem BfI.push {i x0 m : Int} {todo : List Int} {at_ : Nat} (h : BfI f i x0 todo at_) (ha : at_ ≤ todo.length) (hm : (regionsF f).1 m = some i) (hn : m ∉ todo) : BfI f i x0 (todo ++ [m]) at_ := by
  refine ⟨?_, fun x hx => ?_, List.mem_append_left _ h.hd, fun j x hj hx y hy ho => ?_⟩
  · rw [List.nodup_append]
    exact ⟨h.nd, by simp, fun x hx y hy e => by
      rw [List.mem_singleton] at hy
      subst hy
      subst e
      exact hn hx⟩
  · rcases List.mem_append.1 hx with hx | hx
    · exact h.inr x hx
    · rw [List.mem_singleton] at hx
      rw [hx]; exact hm
  · rw [List.getElem?_append_left (by omega)] at hx
    exact List.mem_append_left _ (h.cl j x hj hx y hy ho)
theorem BfI.next {i x0 x : Int} {todo : List Int} {at_ : Nat} (h : BfI f i x0 todo at_) (hx : todo[at_]? = some x) (hn : ∀ y ∈ neighF f x, (regionsF f).1 y = some i → y ∈ todo) : BfI f i x0 todo (at_ + 1) := by
  refine ⟨h.nd, h.inr, h.hd, fun j z hj hz y hy ho => ?_⟩
  rcases Nat.lt_or_ge j at_ with h1 | h1
  · exact h.cl j z h1 hz y hy ho
  · have e : j = at_ := by omega
    subst e
    rw [hx] at hz
    cases hz
    exact hn y hy ho
theorem regAt_iff (hv : f.valid = true) {i x : Int} : x ∈ regAt f (regionsF f).1 i f.kinds.length ↔ (regionsF f).1 x = some i :=
  ⟨fun h => (regAt_mem.1 h).1, fun h => regAt_mem.2 ⟨h, ((regF hv).rg.inr x i h).1.1, ((regF hv).rg.inr x i h).1.2⟩⟩
theorem regAt_nodup {o : OfM} {r : Int} {k : Nat} : (regAt f o r k).Nodup := (regAt_sorted (f := f) (o := o) (r := r) (k := k)).imp (fun h e => by omega)
theorem BfI.len_le (hv : f.valid = true) {i x0 : Int} {todo : List Int} {at_ : Nat} (h : BfI f i x0 todo at_) : todo.length ≤ (regAt f (regionsF f).1 i f.kinds.length).length :=
  nodup_len h.nd (fun x hx => (regAt_iff hv).2 (h.inr x hx))
theorem BfI.done (hv : f.valid = true) {i x0 : Int} {todo : List Int} (h : BfI f i x0 todo todo.length) : todo.length = (regAt f (regionsF f).1 i f.kinds.length).length := by
  refine Nat.le_antisymm (h.len_le hv) (nodup_len regAt_nodup (fun y hy => ?_))
  have R := regF hv
  have hr := R.rg.co x0 y i (h.inr x0 h.hd) ((regAt_iff hv).1 hy)
  clear hy
  induction hr with
  | refl => exact h.hd
  | step h1 h2 h3 ih =>
    obtain ⟨j, hj, hx⟩ := List.mem_iff_getElem.1 ih
    have ho := h.inr _ ih
    exact h.cl j _ hj (by rw [List.getElem?_eq_getElem hj, hx]) _ h2 (R.rg.cl _ _ _ ho h2 h3)
theorem side_iff (hv : f.valid = true) {i x y : Int} (hx : (regionsF f).1 x = some i) (hy : y ∈ neighF f x) : (regionsF f).1 y = some i ↔ landB f y = landB f x := by
  have R := regF hv
  exact ⟨fun h => (R.rg.co x y i hx h).land, fun h => R.rg.cl x i y hx hy h⟩
def ofK (f : FaceV) (x : Int) : Int := ((regionsF f).1 x).getD 0
def ofL (f : FaceV) : List Int := (List.range f.kinds.length).map fun (n : Nat) => ofK f n
theorem ofL_len : (ofL f).length = f.kinds.length := by unfold ofL; simp
theorem ofL_at {n : Nat} (h : n < f.kinds.length) : (ofL f)[n]? = some (ofK f n) := by
  unfold ofL
  rw [List.getElem?_map, List.getElem?_range h]
  rfl
theorem ofK_iff (hv : f.valid = true) {x i : Int} (hx : InF f x) : ofK f x = i ↔ (regionsF f).1 x = some i := by
  unfold ofK
  have h := (regF hv).dn x.toNat (by have := hx.1; have := hx.2; omega)
  rw [show ((x.toNat : Nat) : Int) = x by have := hx.1; omega] at h
  obtain ⟨r, hr⟩ := Option.isSome_iff_exists.1 h
  rw [hr]
  simp
def seenL (N : Nat) (todo : List Int) : List Bool := (List.range N).map fun (n : Nat) => decide ((n : Int) ∈ todo)
theorem seenL_len (N : Nat) (todo : List Int) : (seenL N todo).length = N := by unfold seenL; simp
theorem seenL_at {N n : Nat} (h : n < N) (todo : List Int) : (seenL N todo)[n]? = some (decide ((n : Int) ∈ todo)) := by
  unfold seenL
  rw [List.getElem?_map, List.getElem?_range h]
  rfl
theorem seenL_set {N n : Nat} (h : n < N) (todo : List Int) : (seenL N todo).set n true = seenL N (todo ++ [(n : Int)]) := by
  refine List.ext_getElem? fun j => ?_
  rw [List.getElem?_set]
  by_cases hj : j < N
  · by_cases e : n = j
    · subst e
      rw [if_pos rfl, if_pos (by rw [seenL_len]; exact h), seenL_at h]
      simp
    · rw [if_neg e, seenL_at hj, seenL_at hj]
      congr 1
      rw [Bool.eq_iff_iff, decide_eq_true_eq, decide_eq_true_eq, List.mem_append, List.mem_singleton]
      constructor
      · exact .inl
      · rintro (h1 | h1)
        · exact h1
        · omega
  · have e1 : (seenL N todo)[j]? = none := List.getElem?_eq_none (by rw [seenL_len]; omega)
    have e2 : (seenL N (todo ++ [(n : Int)]))[j]? = none := List.getElem?_eq_none (by rw [seenL_len]; omega)
    rw [if_neg (by omega), e1, e2]
theorem seenL_start {N n : Nat} (h : n < N) : (List.replicate N false).set n true = seenL N [(n : Int)] := by
  have e : List.replicate N false = seenL N [] := by
    unfold seenL
    refine List.ext_getElem? fun j => ?_
    rw [List.getElem?_replicate, List.getElem?_map]
    by_cases hj : j < N
    · rw [if_pos hj, List.getElem?_range hj]; simp
    · rw [if_neg hj, List.getElem?_eq_none (by simp; omega)]; rfl
  rw [e, seenL_set h]
  rfl
theorem neighP_cell (hv : f.valid = true) {x : Int} (hx : InF f x) : neighP f (cellF f x) = ((neighF f x).map (cellF f), 0) := by
  obtain ⟨k1, k2⟩ := cellF_has hv hx
  unfold neighP
  rw [if_pos (asked_zero.2 ⟨hv, k1⟩), k2]
theorem cellP_in (hv : f.valid = true) {x : Int} (hx : InF f x) : cellP f x = (cellF f x, 0) := by
  unfold cellP
  rw [if_neg (by rw [hv]; decide), if_neg (by rw [show inB x 0 ((f.kinds.length : Int) - 1) = true from inB_true.2 ⟨hx.1, by have := hx.2; omega⟩]; decide)]
theorem indexP_cell (hv : f.valid = true) {x : Int} (hx : InF f x) : indexP f (cellF f x) = (x, 0) := by
  obtain ⟨k1, k2⟩ := cellF_has hv hx
  rw [indexP_of hv k1, k2]
def ofS (f : FaceV) (i k : Nat) : List Int := (List.range f.kinds.length).map fun (n : Nat) => if ofK f n < i ∨ (ofK f n = i ∧ (n : Int) ∈ (regAt f (regionsF f).1 i f.kinds.length).take k) then ofK f n else -1
theorem ofS_len (i k : Nat) : (ofS f i k).length = f.kinds.length := by unfold ofS; simp
theorem ofS_at {i k n : Nat} (h : n < f.kinds.length) : (ofS f i k)[n]? = some (if ofK f n < i ∨ (ofK f n = i ∧ (n : Int) ∈ (regAt f (regionsF f).1 i f.kinds.length).take k) then ofK f n else -1) := by
  unfold ofS
  rw [List.getElem?_map, List.getElem?_range h]
  rfl
theorem ofK_nonneg (hv : f.valid = true) {x : Int} (hx : InF f x) : 0 ≤ ofK f x ∧ ofK f x < (regListF f).length := by
  have h := (ofK_iff hv hx (i := ofK f x)).1 rfl
  have R := regF hv
  have h2 := (R.rg.inr x _ h).2
  rw [regList_len]
  have := R.m0
  omega
theorem ofS_start (hv : f.valid = true) : ofS f 0 0 = List.replicate f.kinds.length (-1) := by
  refine List.ext_getElem? fun j => ?_
  rw [List.getElem?_replicate]
  by_cases hj : j < f.kinds.length
  · rw [if_pos hj, ofS_at hj, if_neg]
    have := (ofK_nonneg hv (x := (j : Int)) ⟨by omega, by omega⟩).1
    simp
    omega
  · rw [if_neg hj, List.getElem?_eq_none (by rw [ofS_len]; omega)]
theorem ofS_free (hv : f.valid = true) {i k n : Nat} (hi : i < (regListF f).length) (hk : (regAt f (regionsF f).1 i f.kinds.length)[k]? = some (n : Int)) : n < f.kinds.length ∧ (ofS f i k)[n]? = some (-1) ∧ (ofS f i k).set n (i : Int) = ofS f i (k + 1) := by
  have hm := (regAt_iff hv).1 (List.mem_of_getElem? hk)
  have hin := ((regF hv).rg.inr _ _ hm).1
  have hn : n < f.kinds.length := by have := hin.2; omega
  have ho : ofK f n = i := (ofK_iff hv hin).2 hm
  have hnk : (n : Int) ∉ (regAt f (regionsF f).1 i f.kinds.length).take k := fun h => by
    obtain ⟨j, hj, e⟩ := List.mem_iff_getElem.1 h
    rw [List.length_take] at hj
    rw [List.getElem_take] at e
    have h2 := List.nodup_iff_pairwise_ne.1 (regAt_nodup (f := f) (o := (regionsF f).1) (r := (i : Int)) (k := f.kinds.length))
    rw [List.pairwise_iff_getElem] at h2
    have hkl := (List.getElem?_eq_some_iff.1 hk).1
    have := h2 j k (by omega) hkl (by omega)
    rw [e, (List.getElem?_eq_some_iff.1 hk).2] at this
    exact this rfl
  refine ⟨hn, ?_, ?_⟩
  · rw [ofS_at hn, if_neg]
    rintro (h | ⟨_, h⟩)
    · omega
    · exact hnk h
  · refine List.ext_getElem? fun j => ?_
    rw [List.getElem?_set]
    by_cases hj : j < f.kinds.length
    · have ht : (regAt f (regionsF f).1 i f.kinds.length).take (k + 1) = (regAt f (regionsF f).1 i f.kinds.length).take k ++ [(n : Int)] := by rw [List.take_add_one, hk]; rfl
      by_cases e : n = j
      · subst e
        rw [if_pos rfl, if_pos (by rw [ofS_len]; exact hn), ofS_at hn, if_pos (.inr ⟨ho, by rw [ht]; simp⟩), ho]
      · rw [if_neg e, ofS_at hj, ofS_at hj]
        congr 1
        refine if_iff2 ?_ _ _
        rw [ht]
        have : ((j : Int) ∈ (regAt f (regionsF f).1 i f.kinds.length).take k ++ [(n : Int)]) ↔ (j : Int) ∈ (regAt f (regionsF f).1 i f.kinds.length).take k := by
          rw [List.mem_append, List.mem_singleton]
          constructor
          · rintro (h | h)
            · exact h
            · omega
          · exact .inl
        rw [this]
    · have e1 : (ofS f i k)[j]? = none := List.getElem?_eq_none (by rw [ofS_len]; omega)
      have e2 : (ofS f i (k + 1))[j]? = none := List.getElem?_eq_none (by rw [ofS_len]; omega)
      rw [if_neg (by omega), e1, e2]
theorem ofS_next (hv : f.valid = true) {i k : Nat} (hk : (regAt f (regionsF f).1 i f.kinds.length).length ≤ k) : ofS f i k = ofS f (i + 1) 0 := by
  refine List.ext_getElem? fun j => ?_
  by_cases hj : j < f.kinds.length
  · rw [ofS_at hj, ofS_at hj, List.take_of_length_le hk]
    congr 1
    have h1 : (j : Int) ∈ regAt f (regionsF f).1 i f.kinds.length ↔ ofK f j = i := by rw [regAt_iff hv, ofK_iff hv (x := (j : Int)) ⟨by omega, by omega⟩]
    refine if_iff2 ?_ _ _
    rw [h1]
    simp
    omega
  · rw [List.getElem?_eq_none (by rw [ofS_len]; omega), List.getElem?_eq_none (by rw [ofS_len]; omega)]
theorem ofS_all (hv : f.valid = true) : ofS f (regListF f).length 0 = ofL f := by
  refine List.ext_getElem? fun j => ?_
  by_cases hj : j < f.kinds.length
  · rw [ofS_at hj, ofL_at hj, if_pos (.inl (ofK_nonneg hv (x := (j : Int)) ⟨by omega, by omega⟩).2)]
  · rw [List.getElem?_eq_none (by rw [ofS_len]; omega), List.getElem?_eq_none (by rw [ofL_len]; omega)]
end
end Go.Proofs.YtimmadkbkimonaaGreatDoor
namespace Go.Proofs.YtimmadkbkimonaaGreatDoor
open Go.RowKit

def RdBB (w : World) (a : Option Addr) (n c : Nat) (ls : List (List UInt8)) : Prop :=
  ∃ vs : List Value, RdA w 1 a n c vs ∧ ls.length = n ∧ ∀ i, i < n → ∃ ai ci, vs[i]? = some (.slice ai (ls[i]?.getD []).length ci) ∧ RdB w ai (ls[i]?.getD []).length ci (ls[i]?.getD [])

theorem RdBB.len {w : World} {a : Option Addr} {n c : Nat} {ls : List (List UInt8)} (h : RdBB w a n c ls) : ls.length = n := by obtain ⟨_, _, h, _⟩ := h; exact h
theorem RdBB.maxn {w : World} {a : Option Addr} {n c : Nat} {ls : List (List UInt8)} (h : RdBB w a n c ls) : n ≤ 9223372036854775807 := by obtain ⟨_, h, _⟩ := h; exact h.maxn
theorem RdBB.below {w w' : World} {a : Option Addr} {n c : Nat} {ls : List (List UInt8)} (h : RdBB w a n c ls) (hb : Below w.heap.size w w') : RdBB w' a n c ls := by
  obtain ⟨vs, h1, h2, h3⟩ := h
  refine ⟨vs, h1.below hb, h2, fun i hi => ?_⟩
  obtain ⟨ai, ci, h4, h5⟩ := h3 i hi
  exact ⟨ai, ci, h4, h5.below hb⟩
theorem RdBB.at {w : World} {a : Option Addr} {n c : Nat} {ls : List (List UInt8)} (h : RdBB w a n c ls) (hn : 0 < n) :
    ∃ b off, a = some ⟨b, off, none⟩ ∧ ∀ i, i < n → ∃ ai ci, w.cell? ⟨b, off + i, none⟩ = some (.slice ai (ls[i]?.getD []).length ci) ∧ RdB w ai (ls[i]?.getD []).length ci (ls[i]?.getD []) := by
  obtain ⟨vs, h1, h2, h3⟩ := h
  obtain ⟨b, off, rfl, h4⟩ := h1.at hn
  refine ⟨b, off, rfl, fun i hi => ?_⟩
  obtain ⟨ai, ci, h5, h6⟩ := h3 i hi
  exact ⟨ai, ci, h4 i _ h5, h6⟩
theorem RdBB.nil (w : World) : RdBB w none 0 0 [] := ⟨[], RdA.nil w 1, rfl, fun i hi => by omega⟩

theorem own_mono {w : World} {B base : Nat} {e : TypeId} {k : Nat} {v : Value} {n : Nat} {xs : List Value} (h : w.ownsRow base e k v n xs) (hB : B ≤ base) : w.ownsRow B e k v n xs := by
  refine ⟨h.1, ?_⟩
  rcases h.2 with h | ⟨g, cap, cur, h, hg, hr⟩
  · exact .inl h
  · exact .inr ⟨g, cap, cur, h, by omega, hr⟩
theorem own_below {w w' : World} {base : Nat} {e : TypeId} {k : Nat} {v : Value} {n : Nat} {xs : List Value} (h : w.ownsRow base e k v n xs) (hb : Below w.heap.size w w') : w'.ownsRow base e k v n xs := by
  refine ⟨h.1, ?_⟩
  rcases h.2 with h | ⟨g, cap, cur, h, hg, hgg, hr⟩
  · exact .inl h
  · exact .inr ⟨g, cap, cur, h, hg, (hb.block g (Array.getElem?_eq_some_iff.1 hgg).1).trans hgg, hr⟩

theorem RdB.of_own {w : World} {base : Nat} {e : TypeId} {a : Option Addr} {n c : Nat} {l : List UInt8} (h : w.ownsRow base e 1 (.slice a n c) n (l.map byteV)) : RdB w a n c l := RdA.of_own h

end Go.Proofs.YtimmadkbkimonaaGreatDoor
namespace Go.Proofs.YtimmadkbkimonaaGreatDoor
set_option linter.unusedSimpArgs false
set_option linter.unusedVariables false
open Go.RowKit

theorem qblk {w w' : World} {p : Nat} {o : Obj} (hg : Below w.heap.size w w') (h : w.heap[p]? = some o) : w'.heap[p]? = some o :=
  (hg.block p (Array.getElem?_eq_some_iff.1 h).1).trans h
theorem qgrown {w w' : World} {row : Option Nat} {p : Nat} {o : Obj} (hg : w.grownBy w' row) (h : w.heap[p]? = some o) (hne : some p ≠ row) : w'.heap[p]? = some o :=
  (hg.block p (Array.getElem?_eq_some_iff.1 h).1 hne).trans h
theorem qlt {w : World} {p : Nat} {o : Obj} (h : w.heap[p]? = some o) : p < w.heap.size := (Array.getElem?_eq_some_iff.1 h).1
theorem qcell {W : World} {p : Nat} {A : Array Value} {t : TypeId} {sp : Nat × Nat} (h : W.heap[p]? = some (.cells A t sp)) (j : Nat) (v : Value) (hv : A[j]? = some v) : W.cell? ⟨p, j, none⟩ = some v := by
  simp [World.cell?, h, hv]
theorem qlast (w : World) (o : Obj) : (w.alloc o).heap[w.heap.size]? = some o := heap_alloc_last w o
theorem qat (w : World) (o : Obj) (p : Nat) (h : w.heap.size = p) : (w.alloc o).heap[p]? = some o := by subst h; exact heap_alloc_last w o
theorem qidx {t e : TypeId} {k b off n c j o : Nat} {W : World} (ht : Tryz.prog.underlying t = some (.slice e)) (hk : (Tryz.prog.info? e).map (·.size) = some k) (hj : j < n) (ho : off + j * k = o) :
    (Instr.indexAt t (.slice (some ⟨b, off, none⟩) n c) (.int .i64 (j : Int))).run Tryz.prog W = .ok (.pointer (some ⟨b, o, none⟩)) W := by
  subst ho
  cases hq : Tryz.prog.info? e with
  | none => simp [hq] at hk
  | some i =>
    simp only [hq, Option.map_some, Option.some.injEq] at hk
    simp [Instr.indexAt, run_underlying ht, Instr.sureAddr, asIntOf, sizeOf, typeInfo, hq, hk, Addr.add, hj]
theorem qset_at (w : World) (p : Nat) (c c' : Array Value) (t : TypeId) (fr : Nat × Nat) (hp : w.heap[p]? = some (.cells c t fr)) : (w.setRow p c').heap[p]? = some (.cells c' t fr) := by
  simp only [World.setRow, Array.getElem?_modify, hp]
  simp
theorem qset_grown (w : World) (p : Nat) (c' : Array Value) : w.grownBy (w.setRow p c') (some p) :=
  ⟨rfl, rfl, rfl, by simp [World.setRow], fun k _ hk => by
    have : ¬ p = k := fun e => hk (by rw [e])
    simp [World.setRow, Array.getElem?_modify, this]⟩
theorem qstore {P : Program} {op : Oper} {a : Act} {w : World} {K : Act → World → Prop} {Q : Exit → Act → World → Prop} (ty : TypeId) (x y : Operand) (ho : op.op = .store ty x y) (p : Nat)
    (c c' : Array Value) (t : TypeId) (hx : a.eval x = .pointer (some ⟨p, 0, none⟩)) (hy : a.eval y = .agg c') (hg : w.heap[p]? = some (.cells c t (0, 0))) (hi : (P.info? ty).map (·.size) = some c'.size) (hc : c.size = c'.size) (h1 : c'.all (·.oneCell') = true)
    (h : ∀ w', w'.heap[p]? = some (.cells c' t (0, 0)) → w.grownBy w' (some p) → w'.heap.size = w.heap.size → K (a.put op.dst undef) w') : op.wp P a w K Q := by
  unfold Oper.wp execOp
  simp only [ho, hx, hy, Instr.storeAt, Instr.sureAddr, Sem.run_bind, Sem.run_pure, Result.andThen_ok, run_storeVar_row w p t ty c c' hg hi hc h1]
  exact h _ (qset_at w p c c' t _ hg) (qset_grown w p c') (by simp [World.setRow])
theorem qbuild {P : Program} {op : Oper} {a : Act} {w w' : World} {K : Act → World → Prop} {Q : Exit → Act → World → Prop} (v : Value) (h : (execOp a.eval op).run P w = .ok (.value v) w') (hK : K (a.put op.dst v) w') : op.wp P a w K Q := by
  unfold Oper.wp
  rw [h]
  exact hK
theorem qyrow {P : Program} {ops : Array Oper} {S : World → Prop} {op : Oper} {a : Act} (hw : Region.wanted op (yielded ops a.tmps) = true) (ty : TypeId) (x : Operand) (ho : op.op = .load ty x)
    (b : Nat) (hx : a.eval x = .pointer (some ⟨b, 0, none⟩)) (cs : Array Value) (t : TypeId) (fr : Nat × Nat) (d : TypeDesc) (hS : ∀ w, S w → w.heap[b]? = some (.cells cs t fr))
    (hu : P.underlying ty = some d) (hd : (match d with | .struct _ | .array _ _ => true | _ => false) = true) (hi : (P.info? ty).map (·.size) = some cs.size) : YieldsIf P ops S op (.agg cs) a :=
  .inl ⟨hw, fun w hw' => by
    unfold execOp
    simp only [ho, hx, Instr.loadAt, Instr.sureAddr, Sem.run_bind, Sem.run_pure, Result.andThen_ok, run_loadVar_row w b t ty cs fr d (hS w hw') hu hd hi]⟩
end Go.Proofs.YtimmadkbkimonaaGreatDoor
namespace Go.Proofs.YtimmadkbkimonaaGreatDoor
set_option linter.unusedSimpArgs false
set_option linter.unusedVariables false
open Go.RowKit

def idxZ (es : List Int) (p : Int → Bool) : Int := match es.findIdx? p with | some i => (i : Int) | none => -1
theorem idxZ_at {es : List Int} {p : Int → Bool} {k : Nat} {x : Int} (hx : es[k]? = some x) (hp : p x = true) (hb : ∀ j y, j < k → es[j]? = some y → p y = false) : idxZ es p = k := by
  have : es.findIdx? p = some k := by
    rw [List.findIdx?_eq_some_iff_getElem]
    obtain ⟨h1, rfl⟩ := List.getElem?_eq_some_iff.1 hx
    exact ⟨h1, hp, fun j hj => by rw [hb j _ hj (List.getElem?_eq_getElem (by omega))]; decide⟩
  simp [idxZ, this]
theorem idxZ_none {es : List Int} {p : Int → Bool} (hb : ∀ j y, j < es.length → es[j]? = some y → p y = false) : idxZ es p = -1 := by
  have : es.findIdx? p = none := by
    rw [List.findIdx?_eq_none_iff]
    intro x hx
    obtain ⟨j, h1, h2⟩ := List.getElem_of_mem hx
    exact hb j x h1 (by rw [List.getElem?_eq_getElem h1, h2])
  simp [idxZ, this]
theorem idxZ_any {es : List Int} {p : Int → Bool} : decide (0 ≤ idxZ es p) = es.any p := by
  unfold idxZ
  cases h : es.findIdx? p with
  | none =>
    rw [List.findIdx?_eq_none_iff] at h
    rw [List.any_eq_false.2 (fun x hx => by rw [h x hx]; decide)]
    rfl
  | some i =>
    obtain ⟨h1, h2, _⟩ := List.findIdx?_eq_some_iff_getElem.1 h
    rw [List.any_eq_true.2 ⟨_, List.getElem_mem h1, h2⟩]
    simp
theorem RdI.get {w : World} {a : Option Addr} {n c : Nat} {l : List Int} (h : RdI w a n c l) {k : Nat} {x : Int} (hx : l[k]? = some x) : ∃ b off, a = some ⟨b, off, none⟩ ∧ w.cell? ⟨b, off + k, none⟩ = some (.int .i64 x) := by
  have hl := (List.getElem?_eq_some_iff.1 hx).1
  have hn := h.len
  obtain ⟨b, off, rfl, h4⟩ := RdA.at h (by omega)
  exact ⟨b, off, rfl, h4 k _ (by rw [List.getElem?_map, hx]; rfl)⟩
set_option maxHeartbeats 4000000 in
set_option maxRecDepth 100000 in
theorem indexZ_any (es : List Int) (pred : Int → Bool) (fn : Nat) (hfn : ∀ (args : Array Value) (w : World), (callFunc fn args).run Tryz.prog w = .ok (.enter fn args) w)
    (a : Option Addr) (n c : Nat) (w : World) (hr : RdI w a n c es)
    (hp : ∀ e ∈ es, ∀ W, Below w.heap.size w W → Calls Tryz.prog fn #[.int .i64 e] W fun r W' => r = .returned (.bool (pred e)) ∧ Below W.heap.size W W') :
    Calls Tryz.prog 137 #[.slice a n c, .func (.func fn) #[] #[]] w fun e w' => e = .returned (.int .i64 (idxZ es pred)) ∧ Below w.heap.size w w' := by
  have hn63 := hr.maxn
  have HN : Hid (es.length = n) := Lib.hid hr.len
  have RE := Lib.hid (show ∀ W, Below w.heap.size w W → RdI W a n c es from fun W h => hr.below h)
  have HPD := Lib.hid hp
  clear hr hp
  go_enter Tryz.func137, Tryz.ntmps137
  go_wp2_with fail
  go_loopw [5, 8] (fun _ i wr => ∃ k : Nat, i = .int .i64 k ∧ k ≤ n ∧ Hid (∀ j y, j < k → es[j]? = some y → pred y = false) ∧ Hid (Below w.heap.size w wr)) (fun _ i _ => n - (intOf i).toNat)
  case atStart => exact ⟨0, rfl, Nat.zero_le _, Lib.hid (fun j y h => by omega), Lib.hid (Below.refl _ _)⟩
  case round =>
    obtain ⟨k, rfl, hk, HB, B1⟩ := hrel
    by_cases hkn : k < n
    · have t0 : decide ((k : Int) < (n : Int)) = true := by simp; omega
      obtain ⟨x, Hx⟩ : ∃ x, es[k]? = some x := ⟨es[k]'(by rw [HN.out]; exact hkn), List.getElem?_eq_getElem (by rw [HN.out]; exact hkn)⟩
      obtain ⟨b, off, rfl, hk1⟩ := (RE.out _ B1.out).get Hx
      have hk64 : (k : Int) + 1 ≤ 9223372036854775807 := by omega
      go_wp2_with fail
      refine (HPD.out x (List.mem_of_getElem? Hx) _ B1.out).mono ?_
      rintro e w2 ⟨rfl, b2⟩
      have B2 := Lib.hid (B1.out.trans (b2.mono B1.out.size))
      clear b2 t0
      cases hpx : pred x with
      | true =>
        go_wp2_with fail
        go_ret
        exact ⟨by rw [idxZ_at Hx hpx HB.out]; rfl, B2.out⟩
      | false =>
        have HPX := Lib.hid hpx; clear hpx
        go_wp2_with fail
        go_roundw
        case rel => exact ⟨k + 1, by simp, by omega, Lib.hid (fun j y hj hy => by
          rcases Nat.lt_or_ge j k with h | h
          · exact HB.out j y h hy
          · have e : j = k := by omega
            subst e
            rw [Hx] at hy
            cases hy
            exact HPX.out), B2⟩
        case measure => simp [intOf]; omega
    · have t0 : decide ((k : Int) < (n : Int)) = false := by simp; omega
      go_wp2_with fail
      go_ret
      exact ⟨by rw [idxZ_none (fun j y hj hy => HB.out j y (by have := HN.out; omega) hy)]; rfl, B1.out⟩
theorem containsZ_any (es : List Int) (pred : Int → Bool) (fn : Nat) (hfn : ∀ (args : Array Value) (w : World), (callFunc fn args).run Tryz.prog w = .ok (.enter fn args) w)
    (a : Option Addr) (n c : Nat) (w : World) (hr : RdI w a n c es)
    (hp : ∀ e ∈ es, ∀ W, Below w.heap.size w W → Calls Tryz.prog fn #[.int .i64 e] W fun r W' => r = .returned (.bool (pred e)) ∧ Below W.heap.size W W') :
    Calls Tryz.prog 107 #[.slice a n c, .func (.func fn) #[] #[]] w fun e w' => e = .returned (.bool (es.any pred)) ∧ Below w.heap.size w w' := by
  have HX := Lib.hid (indexZ_any es pred fn hfn a n c w hr hp)
  clear hr hp hfn
  go_enter Tryz.func107, Tryz.ntmps107
  go_wp2_with fail
  refine HX.out.mono ?_
  rintro e w1 ⟨rfl, b1⟩
  have B1 := Lib.hid b1
  clear b1
  have hq := @idxZ_any es pred
  go_wp2_with fail
  go_ret
  exact ⟨by first | rfl | (rw [← hq]; rfl), B1.out⟩
end Go.Proofs.YtimmadkbkimonaaGreatDoor
namespace Go.Proofs.YtimmadkbkimonaaGreatDoor
set_option linter.unusedSimpArgs false
set_option linter.unusedVariables false
open Go.RowKit

structure FurV where
  at_ : Int
  from_ : Int
  lean : Int
  leans : Int
  steep : Int
  feather : Int
  deriving DecidableEq
structure PatV where
  eye : Int
  rings : Int
  harps : Int
  wide : Int
  furs : List FurV
def furB (p : PatV) (x : FurV) : Bool := inB x.at_ 0 (p.wide - 1) && (inB x.from_ 0 (p.rings - 1) && (inB x.lean (-96) 96 && (inB x.leans 1 96 && (inB x.steep 1 p.wide && (inB x.feather 0 p.wide && decide (x.steep + x.feather < p.wide))))))
def PatV.valid (p : PatV) : Bool := (inB p.eye 1 16 && (inB p.rings 1 24 && (inB p.harps 1 96 && (inB p.wide 1 96 && (inB (p.harps * p.wide) 2 96 && decide (p.furs.length ≤ 16)))))) && p.furs.all (furB p)
abbrev Cuts := List (Int × Int)
def putE (l : List Int) (e : Int × Int) : List Int := if l[e.1.toNat]?.getD 0 = 0 then l.set e.1.toNat e.2 else l
def leanF (rings : Int) (x : FurV) (ring : Int) : Int := ((rings - 1 - ring) * x.lean) / x.leans
def wideF (x : FurV) : Nat := (x.steep + x.feather).toNat
def cutE (f : FaceV) (x : FurV) (ring first : Int) : Cuts := (List.range (wideF x)).map fun (n : Nat) => (indexF f ring (first + x.at_ + leanF f.rings x ring + n), if (n : Int) < x.steep then 1 else 2)
def ringE (f : FaceV) (p : PatV) (x : FurV) (ring : Int) : Cuts := (List.range p.harps.toNat).flatMap fun (h : Nat) => cutE f x ring (h * p.wide)
def furE (f : FaceV) (p : PatV) (x : FurV) : Cuts := (List.range (p.rings - x.from_).toNat).flatMap fun (k : Nat) => ringE f p x (x.from_ + k)
def patF (p : PatV) : FaceV := ⟨p.eye, p.rings, p.harps * p.wide, List.replicate (p.rings * p.harps * p.wide).toNat 0⟩
def dressF (p : PatV) : FaceV := { patF p with kinds := p.furs.foldl (fun l x => (furE (patF p) p x).foldl putE l) (patF p).kinds }
def dressP (p : PatV) : FaceV × Int := if p.valid = true then (dressF p, 0) else (zeroF, 12)
theorem putE_len (l : List Int) (e : Int × Int) : (putE l e).length = l.length := by unfold putE; split <;> simp
theorem putE_lens : ∀ (E : Cuts) (l : List Int), (E.foldl putE l).length = l.length
  | [], l => rfl
  | e :: E, l => by rw [List.foldl_cons, putE_lens E, putE_len]
theorem PatV.valid_iff {p : PatV} : p.valid = true ↔ ((1 ≤ p.eye ∧ p.eye ≤ 16) ∧ (1 ≤ p.rings ∧ p.rings ≤ 24) ∧ (1 ≤ p.harps ∧ p.harps ≤ 96) ∧ (1 ≤ p.wide ∧ p.wide ≤ 96) ∧ (2 ≤ p.harps * p.wide ∧ p.harps * p.wide ≤ 96) ∧ p.furs.length ≤ 16) ∧ ∀ x ∈ p.furs, (0 ≤ x.at_ ∧ x.at_ ≤ p.wide - 1) ∧ (0 ≤ x.from_ ∧ x.from_ ≤ p.rings - 1) ∧ (-96 ≤ x.lean ∧ x.lean ≤ 96) ∧ (1 ≤ x.leans ∧ x.leans ≤ 96) ∧ (1 ≤ x.steep ∧ x.steep ≤ p.wide) ∧ (0 ≤ x.feather ∧ x.feather ≤ p.wide) ∧ x.steep + x.feather < p.wide := by
  unfold PatV.valid furB
  simp only [Bool.and_eq_true, inB_true, decide_eq_true_eq, List.all_eq_true]
theorem patF_valid {p : PatV} (h : p.valid = true) : (patF p).valid = true := by
  obtain ⟨⟨h1, h2, h3, h4, h5, _⟩, _⟩ := PatV.valid_iff.1 h
  refine FaceV.valid_iff.2 ⟨h1, h2, h5, ?_, fun k hk => ?_⟩
  · show ((List.replicate (p.rings * p.harps * p.wide).toNat (0 : Int)).length : Int) = p.rings * (p.harps * p.wide)
    rw [List.length_replicate, Int.toNat_of_nonneg, Int.mul_assoc]
    exact Int.mul_nonneg (Int.mul_nonneg (by omega) (by omega)) (by omega)
  · have := (List.mem_replicate.1 hk).2
    omega
section
variable {p : PatV}
end
end Go.Proofs.YtimmadkbkimonaaGreatDoor
namespace Go.Proofs.YtimmadkbkimonaaGreatDoor
set_option linter.unusedSimpArgs false
set_option linter.unusedVariables false
open Go.RowKit

def furA (x : FurV) : Array Value := #[.int .i64 x.at_, .int .i64 x.from_, .int .i64 x.lean, .int .i64 x.leans, .int .i64 x.steep, .int .i64 x.feather]
def fursV (l : List FurV) : List Value := l.flatMap fun x => [.int .i64 x.at_, .int .i64 x.from_, .int .i64 x.lean, .int .i64 x.leans, .int .i64 x.steep, .int .i64 x.feather]
theorem fursV_len : ∀ l : List FurV, (fursV l).length = l.length * 6
  | [] => rfl
  | x :: l => by
    have : fursV (x :: l) = [.int .i64 x.at_, .int .i64 x.from_, .int .i64 x.lean, .int .i64 x.leans, .int .i64 x.steep, .int .i64 x.feather] ++ fursV l := rfl
    rw [this, List.length_append, fursV_len l]
    simp
    omega
theorem fursV_at : ∀ (l : List FurV) (k : Nat) (x : FurV), l[k]? = some x → ∀ j, j < 6 → (fursV l)[k * 6 + j]? = (furA x)[j]?
  | [], k, x, h, _, _ => by simp at h
  | y :: l, 0, x, h, j, hj => by
    rw [List.getElem?_cons_zero] at h
    cases h
    have : fursV (y :: l) = [.int .i64 y.at_, .int .i64 y.from_, .int .i64 y.lean, .int .i64 y.leans, .int .i64 y.steep, .int .i64 y.feather] ++ fursV l := rfl
    rw [this, List.getElem?_append_left (by simp; omega), Nat.zero_mul, Nat.zero_add]
    unfold furA
    rw [List.getElem?_toArray]
  | y :: l, k + 1, x, h, j, hj => by
    rw [List.getElem?_cons_succ] at h
    have : fursV (y :: l) = [.int .i64 y.at_, .int .i64 y.from_, .int .i64 y.lean, .int .i64 y.leans, .int .i64 y.steep, .int .i64 y.feather] ++ fursV l := rfl
    rw [this, List.getElem?_append_right (by simp; omega), ← fursV_at l k x h j hj]
    congr 1
    simp
    omega
def RdFu (w : World) (a : Option Addr) (n c : Nat) (l : List FurV) : Prop := RdA w 6 a n c (fursV l)
theorem RdFu.len {w : World} {a : Option Addr} {n c : Nat} {l : List FurV} (h : RdFu w a n c l) : l.length = n := by have := RdA.len h; rw [fursV_len] at this; omega
theorem RdFu.below {w w' : World} {a : Option Addr} {n c : Nat} {l : List FurV} (h : RdFu w a n c l) (hb : Below w.heap.size w w') : RdFu w' a n c l := RdA.below h hb
theorem RdFu.get {W : World} {a : Option Addr} {n c : Nat} {l : List FurV} (h : RdFu W a n c l) {k : Nat} {x : FurV} (hk : l[k]? = some x) : ∃ b off, a = some ⟨b, off, none⟩ ∧
    W.cell? ⟨b, off + k * 6, none⟩ = some (.int .i64 x.at_) ∧ W.cell? ⟨b, off + k * 6 + 1, none⟩ = some (.int .i64 x.from_) ∧ W.cell? ⟨b, off + k * 6 + 2, none⟩ = some (.int .i64 x.lean) ∧ W.cell? ⟨b, off + k * 6 + 3, none⟩ = some (.int .i64 x.leans) ∧ W.cell? ⟨b, off + k * 6 + 4, none⟩ = some (.int .i64 x.steep) ∧ W.cell? ⟨b, off + k * 6 + 5, none⟩ = some (.int .i64 x.feather) := by
  have hq := (List.getElem?_eq_some_iff.1 hk).1
  have hl := h.len
  obtain ⟨b, off, rfl, hat⟩ := RdA.at h (by omega)
  have F := fun j hj v hv => hat (k * 6 + j) v ((fursV_at l k x hk j hj).trans hv)
  refine ⟨b, off, rfl, ?_, ?_, ?_, ?_, ?_, ?_⟩
  · exact F 0 (by omega) _ rfl
  · rw [Nat.add_assoc]; exact F 1 (by omega) _ rfl
  · rw [Nat.add_assoc]; exact F 2 (by omega) _ rfl
  · rw [Nat.add_assoc]; exact F 3 (by omega) _ rfl
  · rw [Nat.add_assoc]; exact F 4 (by omega) _ rfl
  · rw [Nat.add_assoc]; exact F 5 (by omega) _ rfl
def idxU (es : List FurV) (p : FurV → Bool) : Int := match es.findIdx? p with | some i => (i : Int) | none => -1
theorem idxU_at {es : List FurV} {p : FurV → Bool} {k : Nat} {x : FurV} (hx : es[k]? = some x) (hp : p x = true) (hb : ∀ j y, j < k → es[j]? = some y → p y = false) : idxU es p = k := by
  have : es.findIdx? p = some k := by
    rw [List.findIdx?_eq_some_iff_getElem]
    obtain ⟨h1, rfl⟩ := List.getElem?_eq_some_iff.1 hx
    exact ⟨h1, hp, fun j hj => by rw [hb j _ hj (List.getElem?_eq_getElem (by omega))]; decide⟩
  simp [idxU, this]
theorem idxU_none {es : List FurV} {p : FurV → Bool} (hb : ∀ j y, j < es.length → es[j]? = some y → p y = false) : idxU es p = -1 := by
  have : es.findIdx? p = none := by
    rw [List.findIdx?_eq_none_iff]
    intro x hx
    obtain ⟨j, h1, h2⟩ := List.getElem_of_mem hx
    exact hb j x h1 (by rw [List.getElem?_eq_getElem h1, h2])
  simp [idxU, this]
theorem idxU_any {es : List FurV} {p : FurV → Bool} : decide (0 ≤ idxU es p) = es.any p := by
  unfold idxU
  cases h : es.findIdx? p with
  | none =>
    rw [List.findIdx?_eq_none_iff] at h
    rw [List.any_eq_false.2 (fun x hx => by rw [h x hx]; decide)]
    rfl
  | some i =>
    obtain ⟨h1, h2, _⟩ := List.findIdx?_eq_some_iff_getElem.1 h
    rw [List.any_eq_true.2 ⟨_, List.getElem_mem h1, h2⟩]
    simp
set_option maxHeartbeats 4000000 in
set_option maxRecDepth 100000 in
theorem indexU_any (es : List FurV) (pred : FurV → Bool) (fn : Nat) (cv : Value) (hfn : ∀ (args : Array Value) (w : World), (callFunc fn args).run Tryz.prog w = .ok (.enter fn args) w)
    (a : Option Addr) (n c : Nat) (w : World) (hr : RdFu w a n c es)
    (hp : ∀ e ∈ es, ∀ W, Below w.heap.size w W → Calls Tryz.prog fn #[.agg (furA e), cv] W fun r W' => r = .returned (.bool (pred e)) ∧ Below W.heap.size W W') :
    Calls Tryz.prog 112 #[.slice a n c, .func (.func fn) #[] #[cv]] w fun e w' => e = .returned (.int .i64 (idxU es pred)) ∧ Below w.heap.size w w' := by
  have I6 : (Tryz.prog.info? 76).map (·.size) = some 6 := by kernel_rfl
  have hn63 : n ≤ 9223372036854775807 := RdA.maxn hr
  have HN : Hid (es.length = n) := Lib.hid hr.len
  have RE := Lib.hid (show ∀ W, Below w.heap.size w W → RdFu W a n c es from fun W h => hr.below h)
  have HPD := Lib.hid hp
  clear hr hp
  go_enter Tryz.func112, Tryz.ntmps112
  go_wp2_with fail
  go_loopw [5, 8] (fun _ i wr => ∃ k : Nat, i = .int .i64 k ∧ k ≤ n ∧ Hid (∀ j y, j < k → es[j]? = some y → pred y = false) ∧ Hid (Below w.heap.size w wr)) (fun _ i _ => n - (intOf i).toNat)
  case atStart => exact ⟨0, rfl, Nat.zero_le _, Lib.hid (fun j y h => by omega), Lib.hid (Below.refl _ _)⟩
  case round =>
    obtain ⟨k, rfl, hk, HB, B1⟩ := hrel
    by_cases hkn : k < n
    · have t0 : decide ((k : Int) < (n : Int)) = true := by simp; omega
      obtain ⟨x, Hx⟩ : ∃ x, es[k]? = some x := ⟨es[k]'(by rw [HN.out]; exact hkn), List.getElem?_eq_getElem (by rw [HN.out]; exact hkn)⟩
      obtain ⟨b, off, rfl, hk1, hk2, hk3, hk4, hk5, hk6⟩ := (RE.out _ B1.out).get Hx
      obtain ⟨o, ho⟩ : ∃ o, Hid (off + k * 6 = o) := ⟨_, Lib.hid rfl⟩
      rw [ho.out] at hk1 hk2 hk3 hk4 hk5 hk6
      have hi := fun W => qidx (W := W) (c := c) (b := b) Tryz.underlying22 I6 hkn ho.out
      have hk64 : (k : Int) + 1 ≤ 9223372036854775807 := by omega
      go_wp2_with fail
      refine (HPD.out x (List.mem_of_getElem? Hx) _ B1.out).mono ?_
      rintro e w2 ⟨rfl, b2⟩
      have B2 := Lib.hid (B1.out.trans (b2.mono B1.out.size))
      clear b2 hi t0 hk1 hk2 hk3 hk4 hk5 hk6
      cases hpx : pred x with
      | true =>
        go_wp2_with fail
        go_ret
        exact ⟨by rw [idxU_at Hx hpx HB.out]; rfl, B2.out⟩
      | false =>
        have HPX := Lib.hid hpx; clear hpx
        go_wp2_with fail
        go_roundw
        case rel => exact ⟨k + 1, by simp, by omega, Lib.hid (fun j y hj hy => by
          rcases Nat.lt_or_ge j k with h | h
          · exact HB.out j y h hy
          · have e : j = k := by omega
            subst e
            rw [Hx] at hy
            cases hy
            exact HPX.out), B2⟩
        case measure => simp [intOf]; omega
    · have t0 : decide ((k : Int) < (n : Int)) = false := by simp; omega
      go_wp2_with fail
      go_ret
      exact ⟨by rw [idxU_none (fun j y hj hy => HB.out j y (by have := HN.out; omega) hy)]; rfl, B1.out⟩
set_option maxHeartbeats 4000000 in
set_option maxRecDepth 100000 in
theorem containsU_any (es : List FurV) (pred : FurV → Bool) (fn : Nat) (cv : Value) (hfn : ∀ (args : Array Value) (w : World), (callFunc fn args).run Tryz.prog w = .ok (.enter fn args) w)
    (a : Option Addr) (n c : Nat) (w : World) (hr : RdFu w a n c es)
    (hp : ∀ e ∈ es, ∀ W, Below w.heap.size w W → Calls Tryz.prog fn #[.agg (furA e), cv] W fun r W' => r = .returned (.bool (pred e)) ∧ Below W.heap.size W W') :
    Calls Tryz.prog 70 #[.slice a n c, .func (.func fn) #[] #[cv]] w fun e w' => e = .returned (.bool (es.any pred)) ∧ Below w.heap.size w w' := by
  have HX := Lib.hid (indexU_any es pred fn cv hfn a n c w hr hp)
  clear hr hp hfn
  go_enter Tryz.func70, Tryz.ntmps70
  go_wp2_with fail
  refine HX.out.mono ?_
  rintro e w1 ⟨rfl, b1⟩
  have B1 := Lib.hid b1
  clear b1
  have hq := @idxU_any es pred
  go_wp2_with fail
  go_ret
  exact ⟨by first | rfl | (rw [← hq]; rfl), B1.out⟩
end Go.Proofs.YtimmadkbkimonaaGreatDoor
namespace Go.Proofs.YtimmadkbkimonaaGreatDoor
set_option linter.unusedSimpArgs false
set_option linter.unusedVariables false
open Go.RowKit

theorem within_any (x lo hi : Int) (w : World) : Calls Tryz.prog 69 #[.int .i64 x, .int .i64 lo, .int .i64 hi] w fun e w' => e = .returned (.bool (inB x lo hi)) ∧ w' = w := by
  by_cases h1 : lo ≤ x
  · have t1 : decide (lo ≤ x) = true := by simp; omega
    by_cases h2 : x ≤ hi
    · have t2 : decide (x ≤ hi) = true := by simp; omega
      have t3 : inB x lo hi = true := inB_true.2 ⟨h1, h2⟩
      rw [t3]; clear t3
      go_enter Tryz.func69, Tryz.ntmps69
      go_wp2_with fail
      go_ret
      exact ⟨rfl, rfl⟩
    · have t2 : decide (x ≤ hi) = false := by simp; omega
      have t3 : inB x lo hi = false := inB_false.2 (fun h => h2 h.2)
      rw [t3]; clear t3
      go_enter Tryz.func69, Tryz.ntmps69
      go_wp2_with fail
      go_ret
      exact ⟨rfl, rfl⟩
  · have t1 : decide (lo ≤ x) = false := by simp; omega
    have t3 : inB x lo hi = false := inB_false.2 (fun h => h1 h.1)
    rw [t3]; clear t3
    go_enter Tryz.func69, Tryz.ntmps69
    go_wp2_with fail
    go_ret
    exact ⟨rfl, rfl⟩
theorem kind_any (k : Int) (w : World) : Calls Tryz.prog 95 #[.int .i64 k] w fun e w' => e = .returned (.bool (kindB k)) ∧ w' = w := by
  by_cases h0 : k = 0
  · subst h0
    go_enter Tryz.func95, Tryz.ntmps95
    go_wp2_with fail
    go_ret
    exact ⟨rfl, rfl⟩
  by_cases h1 : k = 1
  · subst h1
    go_enter Tryz.func95, Tryz.ntmps95
    go_wp2_with fail
    go_ret
    exact ⟨rfl, rfl⟩
  by_cases h2 : k = 2
  · subst h2
    go_enter Tryz.func95, Tryz.ntmps95
    go_wp2_with fail
    go_ret
    exact ⟨rfl, rfl⟩
  have t3 : kindB k = false := inB_false.2 (by omega)
  rw [t3]
  have q0 : (k == 0) = false := by simp [h0]
  have q1 : (k == 1) = false := by simp [h1]
  have q2 : (k == 2) = false := by simp [h2]
  go_enter Tryz.func95, Tryz.ntmps95
  go_wp2_with fail
  go_ret
  exact ⟨rfl, rfl⟩
theorem around_tmod (n m : Int) (hm : 1 ≤ m ∧ m ≤ 1000000) : (wrap64 (n.tmod m + m)).tmod m = around n m := by
  unfold around
  have hb : -m < n.tmod m ∧ n.tmod m < m := by
    constructor
    · have := Int.lt_tmod_of_pos n (show 0 < m by omega); omega
    · exact Int.tmod_lt_of_pos n (by omega)
  have hw : wrap64 (n.tmod m + m) = n.tmod m + m := by unfold wrap64; omega
  rw [hw, Int.tmod_eq_emod_of_nonneg (by omega), Int.add_emod_right]
  rcases Int.le_total 0 n with h0 | h0
  · rw [Int.tmod_eq_emod_of_nonneg h0, Int.emod_emod_of_dvd _ (Int.dvd_refl _)]
  · have : n.tmod m = -((-n) % m) := by
      rw [← Int.tmod_eq_emod_of_nonneg (show 0 ≤ -n by omega), Int.neg_tmod, Int.neg_neg]
    rw [this, ← Int.zero_sub, Int.sub_emod, Int.emod_emod_of_dvd _ (Int.dvd_refl _), ← Int.sub_emod]
    congr 1
    omega
theorem around_any (n m : Int) (w : World) (hm : 1 ≤ m ∧ m ≤ 1000000) : Calls Tryz.prog 132 #[.int .i64 n, .int .i64 m] w fun e w' => e = .returned (.int .i64 (around n m)) ∧ w' = w := by
  have HA := Lib.hid (around_tmod n m hm)
  have h0 : (m == 0) = false := by simp; omega
  have h0' : m ≠ 0 := by omega
  go_enter Tryz.func132, Tryz.ntmps132
  go_wp2_with fail
  go_ret
  exact ⟨by rw [← HA.out]; rfl, rfl⟩
set_option maxHeartbeats 4000000 in
set_option maxRecDepth 100000 in
theorem index_any (f : FaceV) (a : Option Addr) (c : Nat) (ring sector : Int) (w : World) (hs : 1 ≤ f.sectors ∧ f.sectors ≤ 1000000) (hr : -1000000 ≤ ring ∧ ring ≤ 1000000) :
    Calls Tryz.prog 88 #[.agg (f.cells a c), .int .i64 ring, .int .i64 sector] w fun e w' => e = .returned (.int .i64 (indexF f ring sector)) ∧ Below w.heap.size w w' := by
  have B0 := Lib.hid ((Below.refl w.heap.size w).alloc (Nat.le_refl _) (.cells (f.cells a c) 28))
  have X0 := Lib.hid (qlast w (.cells (f.cells a c) 28))
  have AR := Lib.hid (fun W => around_any sector f.sectors W hs)
  have W1 := Lib.hid (show wrap64 (ring * f.sectors) = ring * f.sectors by
    have h1 : ring * f.sectors ≤ 1000000 * 1000000 := by
      rcases Int.le_total 0 ring with h | h
      · exact Int.mul_le_mul hr.2 hs.2 (by omega) (by omega)
      · have := Int.mul_nonpos_of_nonpos_of_nonneg h (show 0 ≤ f.sectors by omega); omega
    have h2 : -(1000000 * 1000000) ≤ ring * f.sectors := by
      rcases Int.le_total 0 ring with h | h
      · have := Int.mul_nonneg h (show 0 ≤ f.sectors by omega); omega
      · have := Int.mul_le_mul (show -ring ≤ 1000000 by omega) hs.2 (by omega) (by omega)
        rw [Int.neg_mul] at this
        omega
    unfold wrap64
    omega)
  have W2 := Lib.hid (show wrap64 (ring * f.sectors + around sector f.sectors) = indexF f ring sector by
    have h3 : 0 ≤ around sector f.sectors ∧ around sector f.sectors < f.sectors := by
      unfold around
      exact ⟨Int.emod_nonneg _ (by omega), Int.emod_lt_of_pos _ (by omega)⟩
    have h1 : ring * f.sectors ≤ 1000000 * 1000000 := by
      rcases Int.le_total 0 ring with h | h
      · exact Int.mul_le_mul hr.2 hs.2 (by omega) (by omega)
      · have := Int.mul_nonpos_of_nonpos_of_nonneg h (show 0 ≤ f.sectors by omega); omega
    have h2 : -(1000000 * 1000000) ≤ ring * f.sectors := by
      rcases Int.le_total 0 ring with h | h
      · have := Int.mul_nonneg h (show 0 ≤ f.sectors by omega); omega
      · have := Int.mul_le_mul (show -ring ≤ 1000000 by omega) hs.2 (by omega) (by omega)
        rw [Int.neg_mul] at this
        omega
    unfold indexF wrap64
    omega)
  clear hs hr
  go_enter Tryz.func88, Tryz.ntmps88
  go_upto_region 1 with fail
  obtain ⟨p, hp⟩ : ∃ p, Hid (w.heap.size = p) := ⟨_, Lib.hid rfl⟩
  rw [hp.out] at X0 ⊢
  generalize w.alloc (.cells (f.cells a c) 28) = W0 at *
  have XC : Hid (∀ W, Below W0.heap.size W0 W → W.cell? ⟨p, 2, none⟩ = some (.int .i64 f.sectors)) := Lib.hid (fun W hb => qcell (qblk hb X0.out) 2 _ rfl)
  refine zD (fun W => Below W0.heap.size W0 W) (Below.refl _ _).drew (fun hHeld => ?_)
  have BV := Lib.hid hHeld
  generalize W0.drew = V0 at *
  refine zW 0 rfl (.int .i64 ring) ?_
  refine zW 1 rfl (.pointer (some ⟨p, 2, none⟩)) ?_
  refine zS 2 rfl (.int .i64 f.sectors) (fun W hW => by have c := XC.out W hW; go_simp) ?_
  refine zW 3 rfl (.int .i64 (ring * f.sectors)) (hy := .inl ⟨by kernel_rfl, by intro W _; go_simp; exact (IntWalk.i64_left _).trans W1.out⟩) ?_
  refine zW 4 rfl (.int .i64 sector) ?_
  refine zW 5 rfl (.pointer (some ⟨p, 2, none⟩)) ?_
  refine zS 6 rfl (.int .i64 f.sectors) (fun W hW => by have c := XC.out W hW; go_simp) ?_
  refine zR 7 rfl (fun K hK => ?_)
  go_simp
  refine (AR.out V0).mono ?_
  rintro e V1 ⟨rfl, rfl⟩
  dsimp only
  refine zK hK BV.out (fun hHeld => ?_)
  clear hK K
  refine zW 8 rfl (.int .i64 (indexF f ring sector)) (hy := .inl ⟨by kernel_rfl, by intro W _; go_simp; exact (IntWalk.i64_left _).trans W2.out⟩) ?_
  refine zW 9 rfl (.int .i64 (indexF f ring sector)) ?_
  refine zE ?_
  have BF := Lib.hid (B0.out.trans (BV.out.mono B0.out.size))
  go_wp2_with fail
  go_ret
  exact ⟨rfl, BF.out⟩
set_option maxHeartbeats 4000000 in
set_option maxRecDepth 100000 in
theorem cellOf_any (f : FaceV) (a : Option Addr) (c : Nat) (i : Int) (w : World) (hs : 1 ≤ f.sectors ∧ f.sectors ≤ 1000000) (hi : 0 ≤ i ∧ i ≤ 9223372036854775807) :
    Calls Tryz.prog 89 #[.agg (f.cells a c), .int .i64 i] w fun e w' => e = .returned (.agg #[.int .i64 (cellF f i).1, .int .i64 (cellF f i).2]) ∧ Below w.heap.size w w' := by
  have J2 := Lib.hid (show ∀ x y : Value, (Tryz.prog.info? 41).map (·.size) = some (#[x, y] : Array Value).size from fun x y => by kernel_rfl)
  have B0 := Lib.hid (((Below.refl w.heap.size w).alloc (Nat.le_refl _) (.cells (f.cells a c) 28)).alloc (by simp) (.cells #[.int .i64 0, .int .i64 0] 41))
  have X0 := Lib.hid (qblk ((Below.refl _ _).alloc (Nat.le_refl _) (.cells #[.int .i64 0, .int .i64 0] 41)) (qlast w (.cells (f.cells a c) 28)))
  have R0 := Lib.hid (qat (w.alloc (.cells (f.cells a c) 28)) (.cells #[.int .i64 0, .int .i64 0] 41) (w.heap.size + 1) (by simp))
  have NE := Lib.hid (show ¬ f.sectors = 0 by omega)
  have D1 := Lib.hid (show wrap64 (i.tdiv f.sectors) = i / f.sectors by
    rw [Int.tdiv_eq_ediv_of_nonneg hi.1]
    have h1 : 0 ≤ i / f.sectors := Int.ediv_nonneg hi.1 (by omega)
    have h2 : i / f.sectors ≤ i := Int.ediv_le_self _ hi.1
    unfold wrap64
    omega)
  have D2 := Lib.hid (show i.tmod f.sectors = i % f.sectors from Int.tmod_eq_emod_of_nonneg hi.1)
  clear hs hi
  go_enter Tryz.func89, Tryz.ntmps89
  go_upto_region 1 with fail
  obtain ⟨p, hp⟩ : ∃ p, Hid (w.heap.size = p) := ⟨_, Lib.hid rfl⟩
  obtain ⟨q, hq⟩ : ∃ q, Hid (w.heap.size + 1 = q) := ⟨_, Lib.hid rfl⟩
  rw [hq.out] at R0 ⊢
  rw [hp.out] at X0 ⊢
  generalize (w.alloc (.cells (f.cells a c) 28)).alloc (.cells #[.int .i64 0, .int .i64 0] 41) = W0 at *
  have hd : Below W0.heap.size W0 W0.drew := (Below.refl _ _).drew
  have Q0 := Lib.hid (qblk hd R0.out)
  have NQ : Hid (p ≠ q) := Lib.hid (by have := hp.out; have := hq.out; omega)
  have GE : Hid (w.heap.size ≤ q) := Lib.hid (by have := hq.out; omega)
  refine zD (fun W => Below w.heap.size w W ∧ W.heap[p]? = some (.cells (f.cells a c) 28 (0, 0))) ⟨B0.out.drew, qblk hd X0.out⟩ (fun hHeld => ?_)
  have BV := Lib.hid hHeld
  clear hd
  generalize W0.drew = V0 at *
  refine zW 0 rfl (.int .i64 i) ?_
  refine zW 1 rfl (.pointer (some ⟨p, 2, none⟩)) ?_
  refine zS 2 rfl (.int .i64 f.sectors) (fun W hW => by have c := qcell hW.2 2 (.int .i64 f.sectors) rfl; go_simp) ?_
  refine zW 3 rfl (.int .i64 (i / f.sectors)) (hy := .inl ⟨by kernel_rfl, by intro W _; go_simp; rw [if_neg NE.out, (IntWalk.i64_left _).trans D1.out]⟩) ?_
  refine zW 4 rfl (.int .i64 i) ?_
  refine zW 5 rfl (.pointer (some ⟨p, 2, none⟩)) ?_
  refine zS 6 rfl (.int .i64 f.sectors) (fun W hW => by have c := qcell hW.2 2 (.int .i64 f.sectors) rfl; go_simp) ?_
  refine zW 7 rfl (.int .i64 (i % f.sectors)) (hy := .inl ⟨by kernel_rfl, by intro W _; go_simp; rw [if_neg NE.out, D2.out]⟩) ?_
  refine zW 8 rfl (.agg #[.int .i64 (i / f.sectors), .int .i64 (i % f.sectors)]) ?_
  refine zR 9 rfl (fun K hK => ?_)
  rw [if_pos (by kernel_rfl)]
  refine qstore 41 _ _ rfl q #[.int .i64 0, .int .i64 0] #[.int .i64 (i / f.sectors), .int .i64 (i % f.sectors)] 41 rfl rfl Q0.out (J2.out _ _) rfl (by simp [Value.oneCell']) ?_
  intro X h8 hg8 hs8
  have BX := Lib.hid (BV.out.1.grown hg8 BV.out.1.size (fun k e => by cases e; exact GE.out))
  have PX := Lib.hid (qgrown hg8 BV.out.2 (fun e => NQ.out (Option.some.inj e)))
  have RX := Lib.hid h8
  clear h8 hg8 hs8
  refine zK hK ⟨BX.out, PX.out⟩ (fun hHeld => ?_)
  clear hK K
  refine zE ?_
  go_wp2_with fail
  refine bodyPost_ret (results_cell_row rfl _ X q 41 _ (0, 0) _ rfl RX.out Tryz.underlying41 rfl (J2.out _ _)) rfl ?_
  exact ⟨rfl, BX.out⟩
end Go.Proofs.YtimmadkbkimonaaGreatDoor
