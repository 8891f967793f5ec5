/- Words for slices in memory, over any program: what a slice reads as, and append, reslicing, conversion to a string in these words. -/
import Derived.WalkKit
import Derived.WalkSpells
import Derived.WalkLawsBesides
import Derived.Laws.AppendOwnNone
import Derived.Lib.Hide
namespace Go.Proofs.YtpdmlklnbjegpaaGreat
open Go.RowKit

/-- The slice of address a, n elements of k cells and capacity c holds the cells xs. -/
def RdA (w : World) (k : Nat) (a : Option Addr) (n c : Nat) (xs : List Value) : Prop :=
  xs.length = n * k ∧ n ≤ c ∧ c ≤ maxLen ∧ (c = 0 ∨ ∃ b off, a = some ⟨b, off, none⟩ ∧ ∀ i x, xs[i]? = some x → w.cell? ⟨b, off + i, none⟩ = some x)

theorem RdA.len {w : World} {k : Nat} {a : Option Addr} {n c : Nat} {xs : List Value} (h : RdA w k a n c xs) : xs.length = n * k := h.1
theorem RdA.le {w : World} {k : Nat} {a : Option Addr} {n c : Nat} {xs : List Value} (h : RdA w k a n c xs) : n ≤ c := h.2.1
theorem RdA.max {w : World} {k : Nat} {a : Option Addr} {n c : Nat} {xs : List Value} (h : RdA w k a n c xs) : c ≤ maxLen := h.2.2.1
theorem RdA.maxn {w : World} {k : Nat} {a : Option Addr} {n c : Nat} {xs : List Value} (h : RdA w k a n c xs) : n ≤ 9223372036854775807 := by
  have h1 := h.2.1; have h2 := h.2.2.1; unfold maxLen at h2; omega
theorem RdA.nil (w : World) (k : Nat) : RdA w k none 0 0 [] := ⟨by simp, Nat.le_refl _, Nat.zero_le _, .inl rfl⟩

theorem RdA.at {w : World} {k : Nat} {a : Option Addr} {n c : Nat} {xs : List Value} (h : RdA w k a n c xs) (hn : 0 < n) :
    ∃ b off, a = some ⟨b, off, none⟩ ∧ ∀ i x, xs[i]? = some x → w.cell? ⟨b, off + i, none⟩ = some x := by
  rcases h.2.2.2 with hc | h4
  · have := h.2.1; omega
  · exact h4

/-- Nothing that was read turns where below the heap's end all stays. -/
theorem RdA.below {w w' : World} {k : Nat} {a : Option Addr} {n c : Nat} {xs : List Value} (h : RdA w k a n c xs) (hb : Below w.heap.size w w') : RdA w' k a n c xs := by
  refine ⟨h.1, h.2.1, h.2.2.1, ?_⟩
  rcases h.2.2.2 with h4 | ⟨b, off, rfl, h4⟩
  · exact .inl h4
  · refine .inr ⟨b, off, rfl, fun i x hx => ?_⟩
    have h5 := h4 i x hx
    exact (hb.cell (p := ⟨b, off + i, none⟩) (World.block_lt_of_cell? w _ h5)).trans h5

/-- The same where the blocks that are read lie below B. -/
theorem RdA.of_cells {w w' : World} {k : Nat} {a : Option Addr} {n c : Nat} {xs : List Value} (h : RdA w k a n c xs)
    (hb : ∀ b, (∃ off, a = some ⟨b, off, none⟩) → b < w.heap.size → w'.heap[b]? = w.heap[b]?) : RdA w' k a n c xs := by
  refine ⟨h.1, h.2.1, h.2.2.1, ?_⟩
  rcases h.2.2.2 with h4 | ⟨b, off, rfl, h4⟩
  · exact .inl h4
  · refine .inr ⟨b, off, rfl, fun i x hx => ?_⟩
    have h5 := h4 i x hx
    exact (World.cell?_of_block (a := ⟨b, off + i, none⟩) (hb b ⟨off, rfl⟩ (World.block_lt_of_cell? w _ h5))).trans h5

theorem RdA.of_own {w : World} {base : Nat} {e : TypeId} {k : Nat} {a : Option Addr} {n c : Nat} {xs : List Value} (h : w.ownsRow base e k (.slice a n c) n xs) : RdA w k a n c xs := by
  obtain ⟨h1, h2⟩ := h
  rcases h2 with ⟨h2, rfl⟩ | ⟨g, cap, cur, hv, _, hg, hn, hc, hs, ht⟩
  · simp only [Value.slice.injEq] at h2
    obtain ⟨rfl, _, rfl⟩ := h2
    exact ⟨h1, Nat.le_refl _, Nat.zero_le _, .inl rfl⟩
  · simp only [Value.slice.injEq] at hv
    obtain ⟨rfl, _, rfl⟩ := hv
    refine ⟨h1, hn, hc, .inr ⟨g, 0, rfl, fun i x hx => ?_⟩⟩
    rw [cell_of_row w g (0 + i) cur e (0, 0) hg]
    rw [← ht, List.getElem?_take] at hx
    split at hx
    · simpa using hx
    · cases hx

/-- Reslicing within the length. -/
theorem RdA.sliced {w : World} {k : Nat} {a : Option Addr} {n c : Nat} {xs : List Value} (h : RdA w k a n c xs) (lo hi : Nat) (h1 : lo ≤ hi) (h2 : hi ≤ n) :
    ∃ a', Go.sliced a lo hi c k = .slice a' (hi - lo) (c - lo) ∧ RdA w k a' (hi - lo) (c - lo) ((xs.drop (lo * k)).take ((hi - lo) * k)) := by
  have hl := h.1
  have hmul : lo * k + (hi - lo) * k ≤ n * k := by rw [← Nat.add_mul]; exact Nat.mul_le_mul_right _ (by omega)
  have hlen : ((xs.drop (lo * k)).take ((hi - lo) * k)).length = (hi - lo) * k := by
    simp only [List.length_take, List.length_drop, hl]; omega
  refine ⟨_, rfl, hlen, by have := h.2.1; omega, by have := h.2.2.1; omega, ?_⟩
  rcases h.2.2.2 with rfl | ⟨b, off, rfl, h4⟩
  · exact .inl (by omega)
  · by_cases hc : c = lo
    · refine .inr ⟨b, off, by rw [if_pos hc], fun i x hx => ?_⟩
      have : hi - lo = 0 := by have := h.2.1; omega
      rw [this] at hx
      simp at hx
    · refine .inr ⟨b, off + lo * k, by rw [if_neg hc]; simp only [Option.map_some, Addr.add]; split <;> simp_all, fun i x hx => ?_⟩
      rw [Nat.add_assoc]
      apply h4
      rw [List.getElem?_take] at hx
      split at hx
      · simpa [List.getElem?_drop] using hx
      · cases hx

section
variable {P : Program} (w : World)

theorem run_append_rd (base : Nat) (t ty e : TypeId) (i : TypeInfo) (z : Value) (size bytes : Nat) (ht : P.underlying t = some (.slice e)) (hi : P.info? e = some i) (hz : i.zero = some z)
    (hsize : i.size = size) (hby : i.bytes = bytes) (hzs : z.cells.size = size) (hsz : 0 < size)
    (sa : Option Addr) (sn sc : Nat) (xs : List Value) (hown : w.ownsRow base e size (.slice sa sn sc) sn xs)
    (xa : Option Addr) (m xc : Nat) (ys : List Value) (hrd : RdA w size xa m xc ys) (h1 : ∀ u ∈ ys, u.oneCell' = true)
    (h63 : sn + m ≤ maxLen) (hbytes : (sn + m) * bytes ≤ 140737488355328) (hbase : base ≤ w.heap.size) :
    ∃ a' c' w', (Builtin.append_ #[t, t] ty #[.slice sa sn sc, .slice xa m xc]).run P w = .ok (.slice a' (sn + m) c') w' ∧ w'.ownsRow base e size (.slice a' (sn + m) c') (sn + m) (xs ++ ys) ∧ w.grownBy w' (Value.ownBlock (.slice sa sn sc)) := by
  have hshape : ∀ (w' : World) (v : Value) (n : Nat) (zs : List Value), w'.ownsRow base e size v n zs → ∃ a c, v = .slice a n c := by
    intro w' v n zs h
    rcases h.2 with ⟨rfl, rfl⟩ | ⟨g, cap, cur, rfl, _⟩
    · exact ⟨_, _, rfl⟩
    · exact ⟨_, _, rfl⟩
  rcases hrd.2.2.2 with rfl | ⟨b, off, rfl, h4⟩
  · have hm : m = 0 := by have := hrd.2.1; omega
    subst hm
    have hy : ys = [] := List.eq_nil_of_length_eq_zero (by simpa using hrd.1)
    subst hy
    cases xa with
    | none =>
      refine ⟨sa, sc, w, ?_, by simpa using hown, World.grownBy.refl _ _⟩
      simpa using run_append_owned_none (P := P) (w := w) base t ty e i size ht hi _ sn xs hown
    | some ad =>
      obtain ⟨v', w', hr, ho, hg, _⟩ := run_append_own (P := P) w base t ty e i z size bytes ht hi hz hsize hby hzs hsz _ sn xs hown ad 0 0 [] (by simp)
        (fun j u hu => by simp at hu) h1 h63 hbytes hbase
      obtain ⟨a', c', rfl⟩ := hshape _ _ _ _ ho
      exact ⟨a', c', w', hr, ho, hg⟩
  · obtain ⟨v', w', hr, ho, hg, _⟩ := run_append_own (P := P) w base t ty e i z size bytes ht hi hz hsize hby hzs hsz _ sn xs hown ⟨b, off, none⟩ m xc ys hrd.1
      (fun j u hu => by rw [Addr.add_lit]; exact h4 j u hu) h1 h63 hbytes hbase
    obtain ⟨a', c', rfl⟩ := hshape _ _ _ _ ho
    exact ⟨a', c', w', hr, ho, hg⟩

theorem wpList_append_rd {ops : Array Oper} {rest : List Oper} {o : Oper} {a : Act} {Q : Exit → Act → World → Prop} (hgd : o.guard = none) (s x : Operand) (t : TypeId)
    (ho : o.op = .call { callee := .builtin .append, args := #[s, x], argTypes := #[t, t] })
    (base : Nat) (e : TypeId) (i : TypeInfo) (z : Value) (size bytes : Nat) (ht : P.underlying t = some (.slice e)) (hi : P.info? e = some i) (hz : i.zero = some z)
    (hsize : i.size = size) (hby : i.bytes = bytes) (hzs : z.cells.size = size) (hsz : 0 < size)
    (sa : Option Addr) (sn sc : Nat) (xs : List Value) (hs : a.eval s = .slice sa sn sc) (hown : w.ownsRow base e size (.slice sa sn sc) sn xs)
    (xa : Option Addr) (m xc : Nat) (ys : List Value) (hx : a.eval x = .slice xa m xc) (hrd : RdA w size xa m xc ys) (h1 : ∀ u ∈ ys, u.oneCell' = true)
    (h63 : sn + m ≤ maxLen) (hbytes : (sn + m) * bytes ≤ 140737488355328) (hbase : base ≤ w.heap.size)
    (h : ∀ a' c' w', w'.ownsRow base e size (.slice a' (sn + m) c') (sn + m) (xs ++ ys) → w.grownBy w' (Value.ownBlock (.slice sa sn sc)) → wpList P ops Q rest (a.put o.dst (.slice a' (sn + m) c')) w') : wpList P ops Q (o :: rest) a w := by
  refine wpList_plain hgd fun K hK => ?_
  obtain ⟨a', c', w', hr, h2, h3⟩ := run_append_rd (P := P) w base t o.type e i z size bytes ht hi hz hsize hby hzs hsz sa sn sc xs hown xa m xc ys hrd h1 h63 hbytes hbase
  unfold Oper.wp
  simp [execOp, ho, resolve, invoke, builtin, hs, hx, hr, Result.andThen]
  exact hK _ _ (h a' c' w' h2 h3)

/-- Reslicing, for the walk: the value is one slice again, whatever its address. -/
theorem wpList_slice_rd {ops : Array Oper} {rest : List Oper} {o : Oper} {a : Act} {Q : Exit → Act → World → Prop} (hgd : o.guard = none) (x : Operand) (lo hi : Option Operand) (t : TypeId)
    (ho : o.op = .slice t x lo hi none) (e : TypeId) (i : TypeInfo) (size : Nat) (ht : P.underlying t = some (.slice e)) (hi' : P.info? e = some i) (hsize : i.size = size)
    (xa : Option Addr) (n c : Nat) (xs : List Value) (hx : a.eval x = .slice xa n c) (hrd : RdA w size xa n c xs) (L H : Nat)
    (hl : (lo = none ∧ L = 0) ∨ ∃ q kd, lo = some q ∧ a.eval q = .int kd (L : Int)) (hh : (hi = none ∧ H = n) ∨ ∃ q kd, hi = some q ∧ a.eval q = .int kd (H : Int)) (h1 : L ≤ H) (h2 : H ≤ n)
    (h : ∀ a', RdA w size a' (H - L) (c - L) ((xs.drop (L * size)).take ((H - L) * size)) → wpList P ops Q rest (a.put o.dst (.slice a' (H - L) (c - L))) w) : wpList P ops Q (o :: rest) a w := by
  refine wpList_plain hgd fun K hK => ?_
  obtain ⟨a', hs, hr⟩ := hrd.sliced L H h1 h2
  have hnc := hrd.2.1
  have hrun : (Instr.sliceAt t (a.eval x) (lo.map a.eval) (hi.map a.eval) none).run P w = .ok (.slice a' (H - L) (c - L)) w := by
    rw [hx, ← hs]
    have hel : P.elem t = e := by simp [Program.elem, ht]
    rw [run_sliceAt_slice (P := P) w t _ _ _ _ (by rw [hel]; exact ht), run_slice_any (P := P) w t xa n c (by rw [hel]; exact ht)]
    have hb : (Instr.sliceBounds true n c (lo.map a.eval) (hi.map a.eval) none).run P w = .ok (L, H, c) w := by
      rcases hl with ⟨rfl, rfl⟩ | ⟨q, kd, rfl, hq⟩ <;> rcases hh with ⟨rfl, rfl⟩ | ⟨q', kd', rfl, hq'⟩
      · simp [Instr.sliceBounds]
      · simp [Instr.sliceBounds, hq', run_sliceBound, Result.andThen, (by omega : H ≤ c)]
      · simp [Instr.sliceBounds, hq, run_sliceBound, Result.andThen, h1]
      · simp [Instr.sliceBounds, hq, hq', run_sliceBound, Result.andThen, (by omega : H ≤ c), h1]
    rw [hb, hel]
    simp [Result.andThen, sizeOf, typeInfo, hi', hsize]
  unfold Oper.wp
  simp only [execOp, ho]
  simp [hrun, Result.andThen]
  exact hK _ _ (h a' hr)

end

/-- The value of a byte. -/
def byteV (b : UInt8) : Value := .int .u8 b.toNat
theorem byteV_one (l : List UInt8) : ∀ u ∈ l.map byteV, u.oneCell' = true := by
  intro u hu
  obtain ⟨_, _, rfl⟩ := List.mem_map.1 hu
  rfl

/-- The slice reads as the bytes l. -/
def RdB (w : World) (a : Option Addr) (n c : Nat) (l : List UInt8) : Prop := RdA w 1 a n c (l.map byteV)
theorem RdB.len {w : World} {a : Option Addr} {n c : Nat} {l : List UInt8} (h : RdB w a n c l) : l.length = n := by simpa using h.1
theorem RdB.below {w w' : World} {a : Option Addr} {n c : Nat} {l : List UInt8} (h : RdB w a n c l) (hb : Below w.heap.size w w') : RdB w' a n c l := RdA.below h hb
theorem RdB.at {w : World} {a : Option Addr} {n c : Nat} {l : List UInt8} (h : RdB w a n c l) (hn : 0 < n) :
    ∃ b off, a = some ⟨b, off, none⟩ ∧ ∀ i, i < n → w.cell? ⟨b, off + i, none⟩ = some (.int .u8 ((l[i]?.getD 0).toNat : Int)) := by
  obtain ⟨b, off, rfl, h4⟩ := RdA.at h hn
  refine ⟨b, off, rfl, fun i hi => h4 i _ ?_⟩
  have := h.len
  simp [byteV, List.getElem?_map, List.getElem?_eq_getElem (show i < l.length by omega)]

theorem loadCells_rd {P : Program} {w : World} {k : Nat} {b off n c : Nat} {xs : List Value} (h : RdA w k (some ⟨b, off, none⟩) n c xs) (m : Nat) (hm : m = xs.length) : (loadCells ⟨b, off, none⟩ m).run P w = .ok xs.toArray w := by
  have h4 : ∀ i x, xs[i]? = some x → w.cell? ⟨b, off + i, none⟩ = some x := by
    rcases h.2.2.2 with h5 | ⟨b', off', h5, h4⟩
    · have hn : n = 0 := by have := h.2.1; omega
      have hx : xs = [] := List.eq_nil_of_length_eq_zero (by rw [h.1, hn]; simp)
      subst hx
      intro i x hx
      simp at hx
    · cases h5
      exact h4
  subst hm
  have := run_firstCells_some (P := P) (w := w) 1 xs.length ⟨b, off, none⟩ 0 0 xs (by simp) (fun j v hv => by rw [Addr.add_lit]; exact h4 j v hv)
  simpa [Builtin.firstCells] using this

theorem foldl_push_bytes (l : List UInt8) : ∀ (s : ByteArray), (l.map fun b => ((b.toNat : Nat) : Int)).foldl (fun r n => r.push (UInt8.ofNat n.toNat)) s = ⟨s.data ++ l.toArray⟩ := by
  induction l with
  | nil => intro s; simp
  | cons b l ih =>
    intro s
    rw [List.map_cons, List.foldl_cons, ih]
    simp [ByteArray.push]

theorem run_convert_str {P : Program} {w : World} (src dst e : TypeId) (hs : P.underlying src = some (.slice e)) (he : P.underlying e = some (.int .u8)) (hd : P.underlying dst = some .string)
    {a : Option Addr} {n c : Nat} {l : List UInt8} (h : RdB w a n c l) : (convert src dst (.slice a n c)).run P w = .ok (.string ⟨l.toArray⟩) w := by
  rw [run_convert_bytes_string w src dst e a n c hs he hd]
  rcases h.2.2.2 with rfl | ⟨b, off, rfl, h4⟩
  · have hn : n = 0 := by have := h.2.1; omega
    have hl : l = [] := List.eq_nil_of_length_eq_zero (by rw [h.len, hn])
    subst hl
    subst hn
    cases a with
    | none =>
      simp [Conv.bytesToString]
      rfl
    | some ad =>
      rw [run_bytesToString w ad 0 0 [] (by simp [loadCells, loadCellsFrom])]
      rfl
  · have hld := loadCells_rd (P := P) h n (by simp [h.len])
    have hmap : l.map byteV = (l.map fun b => ((b.toNat : Nat) : Int)).map (Value.int .u8) := by simp [byteV]
    rw [hmap] at hld
    rw [run_bytesToString w ⟨b, off, none⟩ n c _ hld, foldl_push_bytes]
    simp
end Go.Proofs.YtpdmlklnbjegpaaGreat
