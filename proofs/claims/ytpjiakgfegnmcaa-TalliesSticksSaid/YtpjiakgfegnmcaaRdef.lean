/- The reference's stick in memory: four rows of bytes. -/
import Derived.Test.YtpjiakgfegnmcaaCrash3
namespace Go.Proofs.Ytpjiakgfegnmcaa
open Go.RowKit

/-- The slice of bytes v holds l, in memory of the call's own. -/
def SlB (w : World) (v : Value) (l : List UInt8) : Prop := ∃ a c, v = .slice a l.length c ∧ w.ownsRow 0 5 1 (.slice a l.length c) l.length (l.map byteV)
theorem SlB.nil (w : World) : SlB w (.slice none 0 0) [] := ⟨none, 0, rfl, World.ownsRow_nil _ _ _ _⟩
theorem SlB.same {w w' : World} {v : Value} {l : List UInt8} {S : Nat → Prop} (h : SlB w v l) (hs : Same S w w') (hd : ∀ k, v.ownBlock = some k → ¬ S k) : SlB w' v l := by
  obtain ⟨a, c, rfl, h⟩ := h
  exact ⟨a, c, rfl, own_keep h hs hd⟩
theorem SlB.of_own {w : World} {base : Nat} {a : Option Addr} {n c : Nat} {l : List UInt8} (h : w.ownsRow base 5 1 (.slice a n c) n (l.map byteV)) : SlB w (.slice a n c) l := by
  have hl : l.length = n := by simpa using h.1
  exact ⟨a, c, by rw [hl], by rw [hl]; exact own_mono h (Nat.zero_le _)⟩
theorem SlB.lt {w : World} {v : Value} {l : List UInt8} (h : SlB w v l) : ∀ k, v.ownBlock = some k → k < w.heap.size := by
  obtain ⟨a, c, rfl, h⟩ := h
  exact fun k hk => (h.lt k hk).2
theorem SlB.rd {w : World} {v : Value} {l : List UInt8} (h : SlB w v l) : ∃ a c, v = .slice a l.length c ∧ RdB w a l.length c l := by
  obtain ⟨a, c, rfl, h⟩ := h
  exact ⟨a, c, rfl, RdB.of_own h⟩
theorem SlB.ne {w : World} {v : Value} {l : List UInt8} (h : SlB w v l) {p : Nat} {cur : Array Value} {e' : TypeId} {fr : Nat × Nat} (hp : w.heap[p]? = some (.cells cur e' fr)) (hne : 5 ≠ e') : v.ownBlock ≠ some p := by
  obtain ⟨a, c, rfl, h⟩ := h
  exact own_ne h hp hne

/-- The reference's stick at p holds four slices of bytes; G: the blocks where it lies. -/
structure RStk (w : World) (p : Nat) (G : Nat → Prop) (v0 v1 v2 v3 : Value) (SD SP FD FP : List UInt8) : Prop where
  blk : w.heap[p]? = some (.cells #[v0, v1, v2, v3] 53 (0, 0))
  s0 : SlB w v0 SD
  s1 : SlB w v1 SP
  s2 : SlB w v2 FD
  s3 : SlB w v3 FP
  g : ∀ k, G k ↔ (k = p ∨ v0.ownBlock = some k ∨ v1.ownBlock = some k ∨ v2.ownBlock = some k ∨ v3.ownBlock = some k)
theorem RStk.lt {w : World} {p : Nat} {G : Nat → Prop} {v0 v1 v2 v3 : Value} {SD SP FD FP : List UInt8} (h : RStk w p G v0 v1 v2 v3 SD SP FD FP) : ∀ k, G k → k < w.heap.size := by
  intro k hk
  rcases (h.g k).1 hk with rfl | h1 | h1 | h1 | h1
  · exact (Array.getElem?_eq_some_iff.1 h.blk).1
  · exact h.s0.lt k h1
  · exact h.s1.lt k h1
  · exact h.s2.lt k h1
  · exact h.s3.lt k h1
theorem RStk.plt {w : World} {p : Nat} {G : Nat → Prop} {v0 v1 v2 v3 : Value} {SD SP FD FP : List UInt8} (h : RStk w p G v0 v1 v2 v3 SD SP FD FP) : p < w.heap.size := (Array.getElem?_eq_some_iff.1 h.blk).1
theorem RStk.self {w : World} {p : Nat} {G : Nat → Prop} {v0 v1 v2 v3 : Value} {SD SP FD FP : List UInt8} (h : RStk w p G v0 v1 v2 v3 SD SP FD FP) : G p := (h.g p).2 (.inl rfl)
theorem RStk.same {w w' : World} {p : Nat} {G S : Nat → Prop} {v0 v1 v2 v3 : Value} {SD SP FD FP : List UInt8} (h : RStk w p G v0 v1 v2 v3 SD SP FD FP) (hs : Same S w w') (hd : ∀ k, S k → ¬ G k) : RStk w' p G v0 v1 v2 v3 SD SP FD FP := by
  refine ⟨(hs.block p h.plt (fun hS => hd p hS h.self)).trans h.blk, h.s0.same hs ?_, h.s1.same hs ?_, h.s2.same hs ?_, h.s3.same hs ?_, h.g⟩
  · exact fun k hk hS => hd k hS ((h.g k).2 (.inr (.inl hk)))
  · exact fun k hk hS => hd k hS ((h.g k).2 (.inr (.inr (.inl hk))))
  · exact fun k hk hS => hd k hS ((h.g k).2 (.inr (.inr (.inr (.inl hk)))))
  · exact fun k hk hS => hd k hS ((h.g k).2 (.inr (.inr (.inr (.inr hk)))))
theorem RStk.below {w w' : World} {p : Nat} {G : Nat → Prop} {v0 v1 v2 v3 : Value} {SD SP FD FP : List UInt8} (h : RStk w p G v0 v1 v2 v3 SD SP FD FP) (hb : Below w.heap.size w w') : RStk w' p G v0 v1 v2 v3 SD SP FD FP :=
  h.same (S := fun _ => False) (Same.of_below hb) (fun _ e => e.elim)
theorem RStk.cells {w : World} {p : Nat} {G : Nat → Prop} {v0 v1 v2 v3 : Value} {SD SP FD FP : List UInt8} (h : RStk w p G v0 v1 v2 v3 SD SP FD FP) :
    w.cell? ⟨p, 0, none⟩ = some v0 ∧ w.cell? ⟨p, 1, none⟩ = some v1 ∧ w.cell? ⟨p, 2, none⟩ = some v2 ∧ w.cell? ⟨p, 3, none⟩ = some v3 ∧
    w.frozen? ⟨p, 0, none⟩ = false ∧ w.frozen? ⟨p, 1, none⟩ = false ∧ w.frozen? ⟨p, 2, none⟩ = false ∧ w.frozen? ⟨p, 3, none⟩ = false := by
  have h1 := h.blk
  refine ⟨?_, ?_, ?_, ?_, ?_, ?_, ?_, ?_⟩ <;> simp [World.cell?, World.frozen?, h1]

theorem same_cell (w : World) (p o : Nat) (v : Value) : Same (fun k => k = p) w (w.setCell ⟨p, o, none⟩ v) :=
  Same.of_grown (row := some p) ⟨rfl, rfl, rfl, by simp [World.setCell], fun k _ hk => Below.heap_setCell w ⟨p, o, none⟩ _ k (fun e => hk (by rw [e]))⟩ (fun k e => by cases e; rfl)
/-- One of the four slices is replaced. -/
def foot (p : Nat) (v0 v1 v2 v3 : Value) (k : Nat) : Prop := k = p ∨ v0.ownBlock = some k ∨ v1.ownBlock = some k ∨ v2.ownBlock = some k ∨ v3.ownBlock = some k
section
variable {w : World} {p : Nat} {G : Nat → Prop} {v0 v1 v2 v3 : Value} {SD SP FD FP : List UInt8} (h : RStk w p G v0 v1 v2 v3 SD SP FD FP) {v : Value} {l : List UInt8} (hv : SlB w v l)
include h hv
theorem RStk.set0 : RStk (w.setCell ⟨p, 0, none⟩ v) p (foot p v v1 v2 v3) v v1 v2 v3 l SP FD FP := by
  refine ⟨?_, hv.same (same_cell w p 0 v) ?_, h.s1.same (same_cell w p 0 v) ?_, h.s2.same (same_cell w p 0 v) ?_, h.s3.same (same_cell w p 0 v) ?_, fun k => Iff.rfl⟩
  · rw [heap_setCell_same w p 0 _ 53 v h.blk]; rfl
  all_goals rintro k hk rfl
  · exact hv.ne h.blk (by decide) hk
  · exact h.s1.ne h.blk (by decide) hk
  · exact h.s2.ne h.blk (by decide) hk
  · exact h.s3.ne h.blk (by decide) hk
theorem RStk.set1 : RStk (w.setCell ⟨p, 1, none⟩ v) p (foot p v0 v v2 v3) v0 v v2 v3 SD l FD FP := by
  refine ⟨?_, h.s0.same (same_cell w p 1 v) ?_, hv.same (same_cell w p 1 v) ?_, h.s2.same (same_cell w p 1 v) ?_, h.s3.same (same_cell w p 1 v) ?_, fun k => Iff.rfl⟩
  · rw [heap_setCell_same w p 1 _ 53 v h.blk]; rfl
  all_goals rintro k hk rfl
  · exact h.s0.ne h.blk (by decide) hk
  · exact hv.ne h.blk (by decide) hk
  · exact h.s2.ne h.blk (by decide) hk
  · exact h.s3.ne h.blk (by decide) hk
theorem RStk.set2 : RStk (w.setCell ⟨p, 2, none⟩ v) p (foot p v0 v1 v v3) v0 v1 v v3 SD SP l FP := by
  refine ⟨?_, h.s0.same (same_cell w p 2 v) ?_, h.s1.same (same_cell w p 2 v) ?_, hv.same (same_cell w p 2 v) ?_, h.s3.same (same_cell w p 2 v) ?_, fun k => Iff.rfl⟩
  · rw [heap_setCell_same w p 2 _ 53 v h.blk]; rfl
  all_goals rintro k hk rfl
  · exact h.s0.ne h.blk (by decide) hk
  · exact h.s1.ne h.blk (by decide) hk
  · exact hv.ne h.blk (by decide) hk
  · exact h.s3.ne h.blk (by decide) hk
theorem RStk.set3 : RStk (w.setCell ⟨p, 3, none⟩ v) p (foot p v0 v1 v2 v) v0 v1 v2 v SD SP FD l := by
  refine ⟨?_, h.s0.same (same_cell w p 3 v) ?_, h.s1.same (same_cell w p 3 v) ?_, h.s2.same (same_cell w p 3 v) ?_, hv.same (same_cell w p 3 v) ?_, fun k => Iff.rfl⟩
  · rw [heap_setCell_same w p 3 _ 53 v h.blk]; rfl
  all_goals rintro k hk rfl
  · exact h.s0.ne h.blk (by decide) hk
  · exact h.s1.ne h.blk (by decide) hk
  · exact h.s2.ne h.blk (by decide) hk
  · exact hv.ne h.blk (by decide) hk
end
theorem SlB.keep {w : World} {p o : Nat} {v x : Value} {l : List UInt8} (hv : SlB w v l) {cur : Array Value} {e' : TypeId} {fr : Nat × Nat} (hp : w.heap[p]? = some (.cells cur e' fr)) (hne : 5 ≠ e') : SlB (w.setCell ⟨p, o, none⟩ x) v l :=
  hv.same (same_cell w p o x) (fun k hk e => hv.ne hp hne (by rw [hk, e]))
section
variable {w : World} {p : Nat} {G : Nat → Prop} {v0 v1 v2 v3 : Value} {SD SP FD FP : List UInt8} (h : RStk w p G v0 v1 v2 v3 SD SP FD FP) {u u' : Value} {l l' : List UInt8} (hu : SlB w u l) (hu' : SlB w u' l')
include h hu hu'
theorem RStk.set01 : RStk ((w.setCell ⟨p, 0, none⟩ u).setCell ⟨p, 1, none⟩ u') p (foot p u u' v2 v3) u u' v2 v3 l l' FD FP := (h.set0 hu).set1 (hu'.keep h.blk (by decide))
theorem RStk.set23 : RStk ((w.setCell ⟨p, 2, none⟩ u).setCell ⟨p, 3, none⟩ u') p (foot p v0 v1 u u') v0 v1 u u' SD SP l l' := (h.set2 hu).set3 (hu'.keep h.blk (by decide))
end
theorem same_cells2 (w : World) (p o o' : Nat) (v v' : Value) : Same (fun k => k = p) w ((w.setCell ⟨p, o, none⟩ v).setCell ⟨p, o', none⟩ v') := (same_cell w p o v).trans (same_cell _ p o' v')
theorem own_nil (k : Nat) : Value.ownBlock (.slice none 0 0) ≠ some k := by simp [Value.ownBlock]
/-- Bytes that are read lie in no block that holds no byte. -/
theorem RdB.keep {w : World} {a : Option Addr} {n c : Nat} {l : List UInt8} (h : RdB w a n c l) {p : Nat} {cur : Array Value} {e' : TypeId} {fr : Nat × Nat} (hp : w.heap[p]? = some (.cells cur e' fr)) (hno : ∀ (i : Nat) (b : UInt8), cur[i]? ≠ some (byteV b)) (o : Nat) (v : Value) :
    RdB (w.setCell ⟨p, o, none⟩ v) a n c l := by
  refine ⟨h.1, h.2.1, h.2.2.1, ?_⟩
  rcases h.2.2.2 with h4 | ⟨b, off, rfl, h4⟩
  · exact .inl h4
  · refine .inr ⟨b, off, rfl, fun i x hx => ?_⟩
    have h5 := h4 i x hx
    by_cases hb : b = p
    · subst hb
      exfalso
      have e1 : cur[off + i]? = some x := by simpa [World.cell?, hp] using h5
      rw [List.getElem?_map] at hx
      cases hl : l[i]? with
      | none => rw [hl] at hx; cases hx
      | some y => rw [hl] at hx; cases hx; exact hno _ _ e1
    · exact (World.cell?_of_block (a := ⟨b, off + i, none⟩) ((same_cell w p o v).block b (World.block_lt_of_cell? w _ h5) hb)).trans h5
theorem SlB.noByte {w : World} {v : Value} {l : List UInt8} (h : SlB w v l) (b : UInt8) : v ≠ byteV b := by
  obtain ⟨a, c, rfl, _⟩ := h
  intro e
  cases e
theorem RStk.rd {w : World} {p : Nat} {G : Nat → Prop} {v0 v1 v2 v3 : Value} {SD SP FD FP : List UInt8} (h : RStk w p G v0 v1 v2 v3 SD SP FD FP) {a : Option Addr} {n c : Nat} {l : List UInt8} (hr : RdB w a n c l) (o : Nat) (v : Value) :
    RdB (w.setCell ⟨p, o, none⟩ v) a n c l := by
  refine hr.keep h.blk (fun i b => ?_) o v
  match i with
  | 0 => intro e; exact h.s0.noByte b (by simpa using e)
  | 1 => intro e; exact h.s1.noByte b (by simpa using e)
  | 2 => intro e; exact h.s2.noByte b (by simpa using e)
  | 3 => intro e; exact h.s3.noByte b (by simpa using e)
  | i + 4 => simp
/-- A byte of a row of the call's own is turned. -/
theorem own_flipR {w : World} {base : Nat} {sa : Option Addr} {n c : Nat} {l : List UInt8} (h : w.ownsRow base 5 1 (.slice sa n c) n (l.map byteV)) (i : Nat) (hi : i < n) (x : UInt8) :
    ∃ g, sa = some ⟨g, 0, none⟩ ∧ base ≤ g ∧ w.cell? ⟨g, i, none⟩ = some (.int .u8 ((l[i]?.getD 0).toNat : Int)) ∧ w.frozen? ⟨g, i, none⟩ = false ∧
      (w.setCell ⟨g, i, none⟩ (.int .u8 (x.toNat : Int))).ownsRow base 5 1 (.slice sa n c) n ((l.set i x).map byteV) ∧ w.grownBy (w.setCell ⟨g, i, none⟩ (.int .u8 (x.toNat : Int))) (Value.ownBlock (.slice sa n c)) := by
  obtain ⟨b, off, hb, hcells⟩ := (RdB.of_own h).at (by omega)
  have hoff : off = 0 := by
    rcases h.2 with ⟨h, _⟩ | ⟨g, cap, cur, h, _⟩
    · rw [hb] at h; simp at h
    · rw [hb] at h; simp at h; exact h.1.2
  subst hb
  subst hoff
  have hc := hcells i hi
  rw [Nat.zero_add] at hc
  obtain ⟨hst, hgr⟩ := h.stored i (.int .u8 (x.toNat : Int))
  have hset : (l.map byteV).set i (.int .u8 (x.toNat : Int)) = (l.set i x).map byteV := by rw [List.map_set]; rfl
  rw [hset] at hst
  exact ⟨b, rfl, (h.lt b rfl).1, hc, h.frozenAt i, hst, hgr⟩
end Go.Proofs.Ytpjiakgfegnmcaa
