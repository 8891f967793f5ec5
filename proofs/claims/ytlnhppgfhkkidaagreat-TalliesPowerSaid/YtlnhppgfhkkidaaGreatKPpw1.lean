/- Parts of the proof, in this order: Words for slices in memory, over any program: what a slice reads as, and append, reslicing, conversion to a string in these words; The functions on bytes below Notch and Join: two, check, Grow, Equal, Clone and Concat of byte slices; Concat of byte slices; both halves of a tally: Notch of the program and of the reference; comparing lists of byte slices; Join of the reference; comparing lists of byte slices; Join of the reference; A range over a function whose iterator keeps state of its own in cells: one law, over any program, at the wide fence; Join of the program: a range over the iterator of tallies; Sticks: a journal's methods, and a stick's. -/
import Derived.WalkKit
import Derived.WalkSpells
import Derived.WalkLawsBesides
import Derived.Laws.AppendOwnNone
import Derived.Lib.Hide
import Derived.Test.YtlnhppgfhkkidaaGreatProg
import Derived.Lib.AppendZerosOnto
import Derived.Lib.Walk
import Derived.Deep.QuietTactic
import Derived.BigQuiet
import Derived.WalkSmall
import Derived.RangeFuncNested
import Derived.RangeFuncBound
import Derived.RangeFuncCalls
import Derived.RangeFuncLeaves
import Derived.OwnWalkIn
import Derived.TacticsInMore
import Derived.LoopNIn
import Derived.LoopIn
import Derived.Shelf.RegionOpen
import Derived.Sort.QuietIn
import Derived.Deep.RegionHeld3
import Derived.Deep.RegionWith
import Derived.StillTailTactics
set_option linter.unusedSimpArgs false
set_option linter.unusedVariables false
open List renaming getElem_toArray → lq0, getElem_cons_succ → lq1, getElem_cons_zero → lq2, setIfInBounds_toArray → lq3, set_cons_zero → lq4, set_cons_succ → lq5
namespace Go.Proofs.YtlnhppgfhkkidaaGreat
open Go.RowKit

def RdA (w : World) (k : Nat) (a : Option Addr) (n c : Nat) (xs : List Value) : Prop :=
  xs.length = n * k ∧ n ≤ c ∧ c ≤ maxLen ∧ (c = 0 ∨ ∃ b off, a = some ⟨b, off, none⟩ ∧ ∀ i x, xs[i]? = some x → w.cell? ⟨b, off + i, none⟩ = some x)

theorem RdA.len {w : World} {k : Nat} {a : Option Addr} {n c : Nat} {xs : List Value} (h : RdA w k a n c xs) : xs.length = n * k := h.1
theorem RdA.le {w : World} {k : Nat} {a : Option Addr} {n c : Nat} {xs : List Value} (h : RdA w k a n c xs) : n ≤ c := h.2.1
theorem RdA.max {w : World} {k : Nat} {a : Option Addr} {n c : Nat} {xs : List Value} (h : RdA w k a n c xs) : c ≤ maxLen := h.2.2.1
theorem RdA.maxn {w : World} {k : Nat} {a : Option Addr} {n c : Nat} {xs : List Value} (h : RdA w k a n c xs) : n ≤ 9223372036854775807 := by
  have h1 := h.2.1; have h2 := h.2.2.1; unfold maxLen at h2; omega
theorem RdA.nil (w : World) (k : Nat) : RdA w k none 0 0 [] := ⟨by simp, Nat.le_refl _, Nat.zero_le _, .inl rfl⟩

theorem RdA.at {w : World} {k : Nat} {a : Option Addr} {n c : Nat} {xs : List Value} (h : RdA w k a n c xs) (hn : 0 < n) :
    ∃ b off, a = some ⟨b, off, none⟩ ∧ ∀ i x, xs[i]? = some x → w.cell? ⟨b, off + i, none⟩ = some x := by
  rcases h.2.2.2 with hc | h4
  · have := h.2.1; omega
  · exact h4

theorem RdA.below {w w' : World} {k : Nat} {a : Option Addr} {n c : Nat} {xs : List Value} (h : RdA w k a n c xs) (hb : Below w.heap.size w w') : RdA w' k a n c xs := by
  refine ⟨h.1, h.2.1, h.2.2.1, ?_⟩
  rcases h.2.2.2 with h4 | ⟨b, off, rfl, h4⟩
  · exact .inl h4
  · refine .inr ⟨b, off, rfl, fun i x hx => ?_⟩
    have h5 := h4 i x hx
    exact (hb.cell (p := ⟨b, off + i, none⟩) (World.block_lt_of_cell? w _ h5)).trans h5

theorem RdA.of_cells {w w' : World} {k : Nat} {a : Option Addr} {n c : Nat} {xs : List Value} (h : RdA w k a n c xs)
    (hb : ∀ b, (∃ off, a = some ⟨b, off, none⟩) → b < w.heap.size → w'.heap[b]? = w.heap[b]?) : RdA w' k a n c xs := by
  refine ⟨h.1, h.2.1, h.2.2.1, ?_⟩
  rcases h.2.2.2 with h4 | ⟨b, off, rfl, h4⟩
  · exact .inl h4
  · refine .inr ⟨b, off, rfl, fun i x hx => ?_⟩
    have h5 := h4 i x hx
    exact (World.cell?_of_block (a := ⟨b, off + i, none⟩) (hb b ⟨off, rfl⟩ (World.block_lt_of_cell? w _ h5))).trans h5

theorem RdA.of_own {w : World} {base : Nat} {e : TypeId} {k : Nat} {a : Option Addr} {n c : Nat} {xs : List Value} (h : w.ownsRow base e k (.slice a n c) n xs) : RdA w k a n c xs := by
  obtain ⟨h1, h2⟩ := h
  rcases h2 with ⟨h2, rfl⟩ | ⟨g, cap, cur, hv, _, hg, hn, hc, hs, ht⟩
  · simp only [Value.slice.injEq] at h2
    obtain ⟨rfl, _, rfl⟩ := h2
    exact ⟨h1, Nat.le_refl _, Nat.zero_le _, .inl rfl⟩
  · simp only [Value.slice.injEq] at hv
    obtain ⟨rfl, _, rfl⟩ := hv
    refine ⟨h1, hn, hc, .inr ⟨g, 0, rfl, fun i x hx => ?_⟩⟩
    rw [cell_of_row w g (0 + i) cur e (0, 0) hg]
    rw [← ht, List.getElem?_take] at hx
    split at hx
    · simpa using hx
    · cases hx

theorem RdA.sliced {w : World} {k : Nat} {a : Option Addr} {n c : Nat} {xs : List Value} (h : RdA w k a n c xs) (lo hi : Nat) (h1 : lo ≤ hi) (h2 : hi ≤ n) :
    ∃ a', Go.sliced a lo hi c k = .slice a' (hi - lo) (c - lo) ∧ RdA w k a' (hi - lo) (c - lo) ((xs.drop (lo * k)).take ((hi - lo) * k)) := by
  have hl := h.1
  have hmul : lo * k + (hi - lo) * k ≤ n * k := by rw [← Nat.add_mul]; exact Nat.mul_le_mul_right _ (by omega)
  have hlen : ((xs.drop (lo * k)).take ((hi - lo) * k)).length = (hi - lo) * k := by
    simp only [List.length_take, List.length_drop, hl]; omega
  refine ⟨_, rfl, hlen, by have := h.2.1; omega, by have := h.2.2.1; omega, ?_⟩
  rcases h.2.2.2 with rfl | ⟨b, off, rfl, h4⟩
  · exact .inl (by omega)
  · by_cases hc : c = lo
    · refine .inr ⟨b, off, by rw [if_pos hc], fun i x hx => ?_⟩
      have : hi - lo = 0 := by have := h.2.1; omega
      rw [this] at hx
      simp at hx
    · refine .inr ⟨b, off + lo * k, by rw [if_neg hc]; simp only [Option.map_some, Addr.add]; split <;> simp_all, fun i x hx => ?_⟩
      rw [Nat.add_assoc]
      apply h4
      rw [List.getElem?_take] at hx
      split at hx
      · simpa [List.getElem?_drop] using hx
      · cases hx

section
variable {P : Program} (w : World)

theorem run_append_rd (base : Nat) (t ty e : TypeId) (i : TypeInfo) (z : Value) (size bytes : Nat) (ht : P.underlying t = some (.slice e)) (hi : P.info? e = some i) (hz : i.zero = some z)
    (hsize : i.size = size) (hby : i.bytes = bytes) (hzs : z.cells.size = size) (hsz : 0 < size)
    (sa : Option Addr) (sn sc : Nat) (xs : List Value) (hown : w.ownsRow base e size (.slice sa sn sc) sn xs)
    (xa : Option Addr) (m xc : Nat) (ys : List Value) (hrd : RdA w size xa m xc ys) (h1 : ∀ u ∈ ys, u.oneCell' = true)
    (h63 : sn + m ≤ maxLen) (hbytes : (sn + m) * bytes ≤ 140737488355328) (hbase : base ≤ w.heap.size) :
    ∃ a' c' w', (Builtin.append_ #[t, t] ty #[.slice sa sn sc, .slice xa m xc]).run P w = .ok (.slice a' (sn + m) c') w' ∧ w'.ownsRow base e size (.slice a' (sn + m) c') (sn + m) (xs ++ ys) ∧ w.grownBy w' (Value.ownBlock (.slice sa sn sc)) := by
  have hshape : ∀ (w' : World) (v : Value) (n : Nat) (zs : List Value), w'.ownsRow base e size v n zs → ∃ a c, v = .slice a n c := by
    intro w' v n zs h
    rcases h.2 with ⟨rfl, rfl⟩ | ⟨g, cap, cur, rfl, _⟩
    · exact ⟨_, _, rfl⟩
    · exact ⟨_, _, rfl⟩
  rcases hrd.2.2.2 with rfl | ⟨b, off, rfl, h4⟩
  · have hm : m = 0 := by have := hrd.2.1; omega
    subst hm
    have hy : ys = [] := List.eq_nil_of_length_eq_zero (by simpa using hrd.1)
    subst hy
    cases xa with
    | none =>
      refine ⟨sa, sc, w, ?_, by simpa using hown, World.grownBy.refl _ _⟩
      simpa using run_append_owned_none (P := P) (w := w) base t ty e i size ht hi _ sn xs hown
    | some ad =>
      obtain ⟨v', w', hr, ho, hg, _⟩ := run_append_own (P := P) w base t ty e i z size bytes ht hi hz hsize hby hzs hsz _ sn xs hown ad 0 0 [] (by simp)
        (fun j u hu => by simp at hu) h1 h63 hbytes hbase
      obtain ⟨a', c', rfl⟩ := hshape _ _ _ _ ho
      exact ⟨a', c', w', hr, ho, hg⟩
  · obtain ⟨v', w', hr, ho, hg, _⟩ := run_append_own (P := P) w base t ty e i z size bytes ht hi hz hsize hby hzs hsz _ sn xs hown ⟨b, off, none⟩ m xc ys hrd.1
      (fun j u hu => by rw [Addr.add_lit]; exact h4 j u hu) h1 h63 hbytes hbase
    obtain ⟨a', c', rfl⟩ := hshape _ _ _ _ ho
    exact ⟨a', c', w', hr, ho, hg⟩

theorem wpList_append_rd {ops : Array Oper} {rest : List Oper} {o : Oper} {a : Act} {Q : Exit → Act → World → Prop} (hgd : o.guard = none) (s x : Operand) (t : TypeId)
    (ho : o.op = .call { callee := .builtin .append, args := #[s, x], argTypes := #[t, t] })
    (base : Nat) (e : TypeId) (i : TypeInfo) (z : Value) (size bytes : Nat) (ht : P.underlying t = some (.slice e)) (hi : P.info? e = some i) (hz : i.zero = some z)
    (hsize : i.size = size) (hby : i.bytes = bytes) (hzs : z.cells.size = size) (hsz : 0 < size)
    (sa : Option Addr) (sn sc : Nat) (xs : List Value) (hs : a.eval s = .slice sa sn sc) (hown : w.ownsRow base e size (.slice sa sn sc) sn xs)
    (xa : Option Addr) (m xc : Nat) (ys : List Value) (hx : a.eval x = .slice xa m xc) (hrd : RdA w size xa m xc ys) (h1 : ∀ u ∈ ys, u.oneCell' = true)
    (h63 : sn + m ≤ maxLen) (hbytes : (sn + m) * bytes ≤ 140737488355328) (hbase : base ≤ w.heap.size)
    (h : ∀ a' c' w', w'.ownsRow base e size (.slice a' (sn + m) c') (sn + m) (xs ++ ys) → w.grownBy w' (Value.ownBlock (.slice sa sn sc)) → wpList P ops Q rest (a.put o.dst (.slice a' (sn + m) c')) w') : wpList P ops Q (o :: rest) a w := by
  refine wpList_plain hgd fun K hK => ?_
  obtain ⟨a', c', w', hr, h2, h3⟩ := run_append_rd (P := P) w base t o.type e i z size bytes ht hi hz hsize hby hzs hsz sa sn sc xs hown xa m xc ys hrd h1 h63 hbytes hbase
  unfold Oper.wp
  simp [execOp, ho, resolve, invoke, builtin, hs, hx, hr, Result.andThen]
  exact hK _ _ (h a' c' w' h2 h3)

theorem wpList_slice_rd {ops : Array Oper} {rest : List Oper} {o : Oper} {a : Act} {Q : Exit → Act → World → Prop} (hgd : o.guard = none) (x : Operand) (lo hi : Option Operand) (t : TypeId)
    (ho : o.op = .slice t x lo hi none) (e : TypeId) (i : TypeInfo) (size : Nat) (ht : P.underlying t = some (.slice e)) (hi' : P.info? e = some i) (hsize : i.size = size)
    (xa : Option Addr) (n c : Nat) (xs : List Value) (hx : a.eval x = .slice xa n c) (hrd : RdA w size xa n c xs) (L H : Nat)
    (hl : (lo = none ∧ L = 0) ∨ ∃ q kd, lo = some q ∧ a.eval q = .int kd (L : Int)) (hh : (hi = none ∧ H = n) ∨ ∃ q kd, hi = some q ∧ a.eval q = .int kd (H : Int)) (h1 : L ≤ H) (h2 : H ≤ n)
    (h : ∀ a', RdA w size a' (H - L) (c - L) ((xs.drop (L * size)).take ((H - L) * size)) → wpList P ops Q rest (a.put o.dst (.slice a' (H - L) (c - L))) w) : wpList P ops Q (o :: rest) a w := by
  refine wpList_plain hgd fun K hK => ?_
  obtain ⟨a', hs, hr⟩ := hrd.sliced L H h1 h2
  have hnc := hrd.2.1
  have hrun : (Instr.sliceAt t (a.eval x) (lo.map a.eval) (hi.map a.eval) none).run P w = .ok (.slice a' (H - L) (c - L)) w := by
    rw [hx, ← hs]
    have hel : P.elem t = e := by simp [Program.elem, ht]
    rw [run_sliceAt_slice (P := P) w t _ _ _ _ (by rw [hel]; exact ht), run_slice_any (P := P) w t xa n c (by rw [hel]; exact ht)]
    have hb : (Instr.sliceBounds true n c (lo.map a.eval) (hi.map a.eval) none).run P w = .ok (L, H, c) w := by
      rcases hl with ⟨rfl, rfl⟩ | ⟨q, kd, rfl, hq⟩ <;> rcases hh with ⟨rfl, rfl⟩ | ⟨q', kd', rfl, hq'⟩
      · simp [Instr.sliceBounds]
      · simp [Instr.sliceBounds, hq', run_sliceBound, Result.andThen, (by omega : H ≤ c)]
      · simp [Instr.sliceBounds, hq, run_sliceBound, Result.andThen, h1]
      · simp [Instr.sliceBounds, hq, hq', run_sliceBound, Result.andThen, (by omega : H ≤ c), h1]
    rw [hb, hel]
    simp [Result.andThen, sizeOf, typeInfo, hi', hsize]
  unfold Oper.wp
  simp only [execOp, ho]
  simp [hrun, Result.andThen]
  exact hK _ _ (h a' hr)

end

def byteV (b : UInt8) : Value := .int .u8 b.toNat
theorem byteV_one (l : List UInt8) : ∀ u ∈ l.map byteV, u.oneCell' = true := by
  intro u hu
  obtain ⟨_, _, rfl⟩ := List.mem_map.1 hu
  rfl

def RdB (w : World) (a : Option Addr) (n c : Nat) (l : List UInt8) : Prop := RdA w 1 a n c (l.map byteV)
theorem RdB.len {w : World} {a : Option Addr} {n c : Nat} {l : List UInt8} (h : RdB w a n c l) : l.length = n := by simpa using h.1
theorem RdB.below {w w' : World} {a : Option Addr} {n c : Nat} {l : List UInt8} (h : RdB w a n c l) (hb : Below w.heap.size w w') : RdB w' a n c l := RdA.below h hb
theorem RdB.at {w : World} {a : Option Addr} {n c : Nat} {l : List UInt8} (h : RdB w a n c l) (hn : 0 < n) :
    ∃ b off, a = some ⟨b, off, none⟩ ∧ ∀ i, i < n → w.cell? ⟨b, off + i, none⟩ = some (.int .u8 ((l[i]?.getD 0).toNat : Int)) := by
  obtain ⟨b, off, rfl, h4⟩ := RdA.at h hn
  refine ⟨b, off, rfl, fun i hi => h4 i _ ?_⟩
  have := h.len
  simp [byteV, List.getElem?_map, List.getElem?_eq_getElem (show i < l.length by omega)]

theorem loadCells_rd {P : Program} {w : World} {k : Nat} {b off n c : Nat} {xs : List Value} (h : RdA w k (some ⟨b, off, none⟩) n c xs) (m : Nat) (hm : m = xs.length) : (loadCells ⟨b, off, none⟩ m).run P w = .ok xs.toArray w := by
  have h4 : ∀ i x, xs[i]? = some x → w.cell? ⟨b, off + i, none⟩ = some x := by
    rcases h.2.2.2 with h5 | ⟨b', off', h5, h4⟩
    · have hn : n = 0 := by have := h.2.1; omega
      have hx : xs = [] := List.eq_nil_of_length_eq_zero (by rw [h.1, hn]; simp)
      subst hx
      intro i x hx
      simp at hx
    · cases h5
      exact h4
  subst hm
  have := run_firstCells_some (P := P) (w := w) 1 xs.length ⟨b, off, none⟩ 0 0 xs (by simp) (fun j v hv => by rw [Addr.add_lit]; exact h4 j v hv)
  simpa [Builtin.firstCells] using this

theorem foldl_push_bytes (l : List UInt8) : ∀ (s : ByteArray), (l.map fun b => ((b.toNat : Nat) : Int)).foldl (fun r n => r.push (UInt8.ofNat n.toNat)) s = ⟨s.data ++ l.toArray⟩ := by
  induction l with
  | nil => intro s; simp
  | cons b l ih =>
    intro s
    rw [List.map_cons, List.foldl_cons, ih]
    simp [ByteArray.push]

theorem run_convert_str {P : Program} {w : World} (src dst e : TypeId) (hs : P.underlying src = some (.slice e)) (he : P.underlying e = some (.int .u8)) (hd : P.underlying dst = some .string)
    {a : Option Addr} {n c : Nat} {l : List UInt8} (h : RdB w a n c l) : (convert src dst (.slice a n c)).run P w = .ok (.string ⟨l.toArray⟩) w := by
  rw [run_convert_bytes_string w src dst e a n c hs he hd]
  rcases h.2.2.2 with rfl | ⟨b, off, rfl, h4⟩
  · have hn : n = 0 := by have := h.2.1; omega
    have hl : l = [] := List.eq_nil_of_length_eq_zero (by rw [h.len, hn])
    subst hl
    subst hn
    cases a with
    | none =>
      simp [Conv.bytesToString]
      rfl
    | some ad =>
      rw [run_bytesToString w ad 0 0 [] (by simp [loadCells, loadCellsFrom])]
      rfl
  · have hld := loadCells_rd (P := P) h n (by simp [h.len])
    have hmap : l.map byteV = (l.map fun b => ((b.toNat : Nat) : Int)).map (Value.int .u8) := by simp [byteV]
    rw [hmap] at hld
    rw [run_bytesToString w ⟨b, off, none⟩ n c _ hld, foldl_push_bytes]
    simp
end Go.Proofs.YtlnhppgfhkkidaaGreat
namespace Go.Proofs.YtlnhppgfhkkidaaGreat
open Go.RowKit

theorem infoByte : (Tryz.prog.info? 5).map (fun i => (i.zero, i.size, i.bytes)) = some (some (.int .u8 0), 1, 1) := by kernel_rfl

def chkTo (l : List UInt8) : Nat → Int
  | 0 => 1
  | k+1 => (chkTo l k + (k+1) * (l[k]?.getD 0).toNat) % 65521
def chk (l : List UInt8) : Nat := (chkTo l l.length).toNat

theorem chkTo_bd (l : List UInt8) (k : Nat) : 0 ≤ chkTo l k ∧ chkTo l k < 65521 := by
  cases k with
  | zero => simp [chkTo]
  | succ k => simp only [chkTo]; omega
theorem chk_eq (l : List UInt8) : (chk l : Int) = chkTo l l.length := by
  have := chkTo_bd l l.length
  unfold chk; omega
theorem chk_lt (l : List UInt8) : chk l < 65521 := by
  have := chkTo_bd l l.length
  unfold chk; omega

def two (n : Nat) : List UInt8 := [UInt8.ofNat n, UInt8.ofNat (n / 256)]

theorem byte_toNat (l : List UInt8) (k : Nat) : ((l[k]?.getD 0).toNat : Int) < 256 := by have := (l[k]?.getD 0).toNat_lt; omega

theorem chk_step {l : List UInt8} {k n : Nat} (hn : n ≤ 140737488355328) (hlt : k < n) : 0 ≤ ((k : Int) + 1) * ((l[k]?.getD 0).toNat : Int) ∧ ((k : Int) + 1) * ((l[k]?.getD 0).toNat : Int) ≤ 140737488355328 * 256 := by
  have hB := byte_toNat l k
  exact ⟨Int.mul_nonneg (by omega) (by omega), Int.mul_le_mul (by omega) (by omega) (by omega) (by omega)⟩

theorem check_any (a : Option Addr) (n c : Nat) (l : List UInt8) (w : World) (hn : n ≤ 140737488355328) (hr : RdB w a n c l) :
    Calls Tryz.prog 162 #[.slice a n c] w fun e w' => e = .returned (.int .i64 (chk l)) ∧ w = w' := by
  have hle := hr.len
  go_enter Tryz.func162, Tryz.ntmps162
  go_wp2
  go_loop [3, 4, 5, 8] (fun s _ _ i => ∃ k : Nat, k ≤ n ∧ i = .int .i64 k ∧ s = .int .i64 (chkTo l k)) (fun _ _ _ i => n - (intOf i).toNat)
  case atStart => exact ⟨0, Nat.zero_le _, rfl, rfl⟩
  case round =>
    obtain ⟨k, hk, rfl, rfl⟩ := hrel
    by_cases hlt : k < n
    · obtain ⟨b, off, rfl, hc⟩ := hr.at (by omega)
      have hb := chkTo_bd l k
      have hcell := hc k hlt
      have hB := byte_toNat l k
      obtain ⟨hM, hM2⟩ := chk_step (l := l) hn hlt
      clear hc hr hle
      go_wp2
      go_round
      case rel => exact ⟨k + 1, by omega, by go_num, by simp [chkTo]⟩
      case measure => simp [intOf]; omega
    · clear hle
      go_wp2
      go_ret
      have : k = l.length := by rw [hr.len]; omega
      subst this
      exact ⟨by rw [chk_eq]; rfl, rfl⟩

theorem two_vals (n : Nat) : (two n).map byteV = [.int .u8 ((n : Int) % 256), .int .u8 ((n : Int) / 256 % 256)] := by
  simp only [two, byteV, List.map_cons, List.map_nil, UInt8.toNat_ofNat']
  simp
theorem two_own (n : Nat) (w : World) (hn : n < 65536) : (w.alloc (Obj.cells #[Value.int IntKind.u8 ((n : Int) % 256), Value.int IntKind.u8 ((n : Int) / 256)] 5)).ownsRow w.heap.size 5 1 (.slice (some ⟨w.heap.size, 0, none⟩) 2 2) 2 ((two n).map byteV) := by
  have h := World.ownsRow_lit (base := w.heap.size) (e := 5) (size := 1) w #[Value.int IntKind.u8 ((n : Int) % 256), Value.int IntKind.u8 ((n : Int) / 256)] 2 (Nat.le_refl _) (by unfold maxLen; omega) rfl
  rw [two_vals, show (n : Int) / 256 % 256 = (n : Int) / 256 by omega]
  exact h

theorem two_any (n : Nat) (w : World) (hn : n < 65536) :
    Calls Tryz.prog 161 #[.int .i64 n] w fun e w' => ∃ a c, e = .returned (.slice a 2 c) ∧ w'.ownsRow w.heap.size 5 1 (.slice a 2 c) 2 ((two n).map byteV) ∧ Below w.heap.size w w' := by
  go_enter Tryz.func161, Tryz.ntmps161
  go_wp2
  go_ret
  exact ⟨_, _, rfl, two_own n w hn, (Below.refl _ _).alloc (Nat.le_refl _) _⟩
theorem grow_nil (n : Nat) (w : World) (hn : n ≤ 140737488355328) :
    Calls Tryz.prog 198 #[.slice none 0 0, .int .i64 n] w fun e w' => ∃ a c, e = .returned (.slice a 0 c) ∧ w'.ownsRow w.heap.size 5 1 (.slice a 0 c) 0 [] ∧ Below w.heap.size w w' := by
  obtain ⟨i, hi, hz0, hz1, hz2⟩ := info_parts infoByte
  by_cases h0 : n = 0
  · subst h0
    go_enter Tryz.func198, Tryz.ntmps198
    go_wp2
    go_ret
    exact ⟨_, _, rfl, World.ownsRow_nil _ _ _ _, Below.refl _ _⟩
  · have hG : n ≤ grownCap w n 0 5 := grownCap_ge w _ _ _
    have hGm : grownCap w n 0 5 ≤ maxLen := grownCap_le_maxLen w n 0 5 (by unfold maxLen; omega)
    have hrz : ∀ ty, (Builtin.append_ #[41, 3] ty #[.slice none 0 0, .int .i64 (n : Int)]).run Tryz.prog w =
        .ok (.slice (some ⟨w.heap.size, 0, none⟩) n (grownCap w n 0 5)) (w.drew.alloc (.cells (Builtin.zeroCells (Value.int .u8 0).cells n ++ Builtin.zeroCells (Value.int .u8 0).cells (grownCap w n 0 5 - n)) 5)) := fun ty => by
      have h := Lib.run_append_grow_zeros w 41 3 ty 5 i (.int .u8 0) .i64 .i64 Tryz.underlying41 Tryz.underlying3 hi hz0 none 0 0 [] (run_firstCells_none (P := Tryz.prog) (w := w.drew) i.size 0 0 0) n (by omega) (by omega) (by omega) (by omega) (by rw [hz2]; omega)
        (by rw [hz2]; exact growslice_fits (by omega) (by omega))
      simpa using h
    have hpos : 0 < (n : Int) := by omega
    obtain ⟨G, hG'⟩ : ∃ G, G = grownCap w n 0 5 := ⟨_, rfl⟩
    rw [← hG'] at hrz hG hGm
    have hsz : (Builtin.zeroCells (Value.int .u8 0).cells n ++ Builtin.zeroCells (Value.int .u8 0).cells (G - n)).size = G * 1 := by
      simp only [Array.size_append, size_zeroCells, Value.cells]; simp; omega
    obtain ⟨Z, hZ⟩ : ∃ Z, Z = Builtin.zeroCells (Value.int .u8 0).cells n ++ Builtin.zeroCells (Value.int .u8 0).cells (G - n) := ⟨_, rfl⟩
    rw [← hZ] at hrz hsz
    have HG := Lib.hid hG'; clear hG'
    have HZ := Lib.hid hZ; clear hZ
    have HS := Lib.hid hsz; clear hsz
    clear hi hz0 hz1 hz2
    unfold maxLen at hGm
    go_enter Tryz.func198, Tryz.ntmps198
    go_wp2_with (at_builtin; refine Lib.wpList_append_run _ rfl _ _ _ _ rfl _ _ rfl rfl _ _ (hrz _) ?_)
    go_ret
    exact ⟨_, _, rfl, World.ownsRow_made w.drew Z G (Nat.le_refl _) (by unfold maxLen; omega) HS.out, ((Below.refl _ _).drew).alloc (Nat.le_refl _) _⟩

theorem byte_ne {x y : UInt8} (h : x ≠ y) : (((x.toNat : Nat) : Int) != ((y.toNat : Nat) : Int)) = true := by
  rw [bne_iff_ne]
  intro e
  exact h (UInt8.toNat_inj.1 (by omega))
theorem byte_eq {x y : UInt8} (h : x = y) : (((x.toNat : Nat) : Int) != ((y.toNat : Nat) : Int)) = false := by
  subst h; simp

theorem list_ext_to {l m : List UInt8} (hl : l.length = m.length) (h : ∀ j, j < l.length → l[j]?.getD 0 = m[j]?.getD 0) : l = m := by
  apply List.ext_getElem hl
  intro i h1 h2
  have := h i h1
  simpa [List.getElem?_eq_getElem h1, List.getElem?_eq_getElem h2] using this

theorem equal_any (a : Option Addr) (n c : Nat) (l : List UInt8) (a' : Option Addr) (n' c' : Nat) (l' : List UInt8) (w : World) (hr : RdB w a n c l) (hr' : RdB w a' n' c' l') :
    Calls Tryz.prog 116 #[.slice a n c, .slice a' n' c'] w fun e w' => ∃ b : Bool, e = .returned (.bool b) ∧ (b = true ↔ l = l') ∧ ∃ q, w' = w.drewN q := by
  have hm := RdA.maxn hr
  have hl := Lib.hid hr.len
  have hl' := Lib.hid hr'.len
  by_cases hnn : n = n'
  · subst hnn
    go_enter Tryz.func116, Tryz.ntmps116
    go_wp2
    go_loopw [5, 13] (fun _ i wr => ∃ k : Nat, k ≤ n ∧ i = .int .i64 k ∧ (∀ j, j < k → l[j]?.getD 0 = l'[j]?.getD 0) ∧ ∃ q, wr = w.drewN q) (fun _ i _ => n - (intOf i).toNat)
    case atStart => exact ⟨0, Nat.zero_le _, rfl, fun j hj => by omega, 0, rfl⟩
    case round =>
      obtain ⟨k, hk, rfl, hrl, q, rfl⟩ := hrel
      have HR := Lib.hid hrl; clear hrl
      by_cases hlt : k < n
      · obtain ⟨b, off, rfl, hc⟩ := hr.at (by omega)
        obtain ⟨b', off', rfl, hc'⟩ := hr'.at (by omega)
        have hx := hc k hlt
        have hx' := hc' k hlt
        clear hc hc' hr hr'
        have hk64 : (k : Int) ≤ 9223372036854775807 := by omega
        by_cases he : l[k]?.getD 0 = l'[k]?.getD 0
        · have hb := byte_eq he
          have HE := Lib.hid he; clear he
          go_wp2
          go_quiet (fail)
          go_wp2
          go_roundw
          case rel => exact ⟨k + 1, by omega, by go_num, fun j hj => by
            rcases Nat.lt_succ_iff_lt_or_eq.1 hj with h | h
            · exact HR.out j h
            · rw [h]; exact HE.out, _, rfl⟩
          case measure => simp [intOf]; omega
        · have hb := byte_ne he
          have HE := Lib.hid he; clear he
          go_wp2
          go_quiet (fail)
          go_wp2
          go_ret
          exact ⟨false, rfl, ⟨fun h => by simp at h, fun h => absurd (by rw [h]) HE.out⟩, _, World.drewN_drewN _ _ _⟩
      · go_wp2
        go_ret
        have hkn : k = n := by omega
        exact ⟨true, rfl, ⟨fun _ => list_ext_to (by rw [hl.out, hl'.out]) (fun j hj => HR.out j (by rw [hl.out] at hj; omega)), fun _ => rfl⟩, _, rfl⟩
  · have hb : (((n : Nat) : Int) != ((n' : Nat) : Int)) = true := by rw [bne_iff_ne]; omega
    have hm' := RdA.maxn hr'
    have HN := Lib.hid hnn; clear hnn
    go_enter Tryz.func116, Tryz.ntmps116
    go_wp2
    go_ret
    exact ⟨false, rfl, ⟨fun h => by simp at h, fun h => absurd (by rw [← hl.out, ← hl'.out, h]) HN.out⟩, 0, rfl⟩

theorem app_bytes (w : World) {ops : Array Oper} {rest : List Oper} {o : Oper} {a : Act} {Q : Exit → Act → World → Prop} (hgd : o.guard = none) (s x : Operand)
    (ho : o.op = .call { callee := .builtin .append, args := #[s, x], argTypes := #[41, 41] }) (base : Nat)
    (sa : Option Addr) (sn sc : Nat) (xs : List UInt8) (hs : a.eval s = .slice sa sn sc) (hown : w.ownsRow base 5 1 (.slice sa sn sc) sn (xs.map byteV))
    (xa : Option Addr) (m xc : Nat) (ys : List UInt8) (hx : a.eval x = .slice xa m xc) (hrd : RdB w xa m xc ys) (hbytes : sn + m ≤ 140737488355328) (hbase : base ≤ w.heap.size)
    (h : ∀ a' c' w', w'.ownsRow base 5 1 (.slice a' (sn + m) c') (sn + m) ((xs ++ ys).map byteV) → w.grownBy w' (Value.ownBlock (.slice sa sn sc)) → wpList Tryz.prog ops Q rest (a.put o.dst (.slice a' (sn + m) c')) w') :
    wpList Tryz.prog ops Q (o :: rest) a w := by
  obtain ⟨i, hi, hz0, hz1, hz2⟩ := info_parts infoByte
  exact wpList_append_rd w hgd s x 41 ho base 5 i (.int .u8 0) 1 1 Tryz.underlying41 hi hz0 hz1 hz2 rfl (by decide) sa sn sc _ hs hown xa m xc _ hx hrd (byteV_one _) (by unfold maxLen; omega) (by omega) hbase
    (fun a' c' w' h1 h2 => h a' c' w' (by rw [List.map_append]; exact h1) h2)

theorem clone_any (a : Option Addr) (n c : Nat) (l : List UInt8) (w : World) (hn : n ≤ 140737488355328) (hr : RdB w a n c l) :
    Calls Tryz.prog 102 #[.slice a n c] w fun e w' => ∃ a' c', e = .returned (.slice a' n c') ∧ w'.ownsRow w.heap.size 5 1 (.slice a' n c') n (l.map byteV) ∧ Below w.heap.size w w' := by
  have hnc := hr.le
  by_cases ha : a = none
  · subst ha
    have hc : n = 0 ∧ c = 0 := by
      rcases hr.2.2.2 with h | ⟨b, off, h, _⟩
      · omega
      · cases h
    obtain ⟨rfl, rfl⟩ := hc
    have hl : l = [] := List.eq_nil_of_length_eq_zero hr.len
    subst hl
    clear hr hnc
    have heq : ∀ w, (binOp .eql 41 (.slice none 0 0) (.slice none 0 0)).run Tryz.prog w = .ok (.bool true) w := fun w => Lib.run_eql_slice_nil (P := Tryz.prog) w 41 5 none 0 0 0 0 Tryz.underlying41
    go_enter Tryz.func102, Tryz.ntmps102
    go_wp2
    go_ret
    exact ⟨_, _, rfl, World.ownsRow_nil _ _ _ _, Below.refl _ _⟩
  · obtain ⟨ad, rfl⟩ := Option.ne_none_iff_exists'.1 ha
    clear ha
    have heq : ∀ w, (binOp .eql 41 (.slice (some ad) n c) (.slice none 0 0)).run Tryz.prog w = .ok (.bool false) w := fun w => Lib.run_eql_slice_nil (P := Tryz.prog) w 41 5 (some ad) n c 0 0 Tryz.underlying41
    have hown := World.ownsRow_lit (base := w.heap.size) (e := 5) (size := 1) w #[] 0 (Nat.le_refl _) (by unfold maxLen; omega) rfl
    have hr1 := hr.below ((Below.refl w.heap.size w).alloc (Nat.le_refl _) (Obj.cells #[] 5))
    go_enter Tryz.func102, Tryz.ntmps102
    go_wp2_with (at_builtin; refine app_bytes _ rfl _ _ rfl w.heap.size _ _ _ [] rfl hown _ _ _ l rfl hr1 (by omega) (by simp) ?_)
    intro a' c' w' h1 h2
    go_wp2
    go_ret
    exact ⟨_, _, rfl, h1, ((Below.refl _ _).alloc (Nat.le_refl _) _).grown h2 (by simp) (fun k hk => by simp [Value.ownBlock] at hk; omega)⟩

end Go.Proofs.YtlnhppgfhkkidaaGreat
namespace Go.Proofs.YtlnhppgfhkkidaaGreat
open Go.RowKit

def RdBB (w : World) (a : Option Addr) (n c : Nat) (ls : List (List UInt8)) : Prop :=
  ∃ vs : List Value, RdA w 1 a n c vs ∧ ls.length = n ∧ ∀ i, i < n → ∃ ai ci, vs[i]? = some (.slice ai (ls[i]?.getD []).length ci) ∧ RdB w ai (ls[i]?.getD []).length ci (ls[i]?.getD [])

theorem RdBB.len {w : World} {a : Option Addr} {n c : Nat} {ls : List (List UInt8)} (h : RdBB w a n c ls) : ls.length = n := by obtain ⟨_, _, h, _⟩ := h; exact h
theorem RdBB.maxn {w : World} {a : Option Addr} {n c : Nat} {ls : List (List UInt8)} (h : RdBB w a n c ls) : n ≤ 9223372036854775807 := by obtain ⟨_, h, _⟩ := h; exact h.maxn
theorem RdBB.below {w w' : World} {a : Option Addr} {n c : Nat} {ls : List (List UInt8)} (h : RdBB w a n c ls) (hb : Below w.heap.size w w') : RdBB w' a n c ls := by
  obtain ⟨vs, h1, h2, h3⟩ := h
  refine ⟨vs, h1.below hb, h2, fun i hi => ?_⟩
  obtain ⟨ai, ci, h4, h5⟩ := h3 i hi
  exact ⟨ai, ci, h4, h5.below hb⟩
theorem RdBB.at {w : World} {a : Option Addr} {n c : Nat} {ls : List (List UInt8)} (h : RdBB w a n c ls) (hn : 0 < n) :
    ∃ b off, a = some ⟨b, off, none⟩ ∧ ∀ i, i < n → ∃ ai ci, w.cell? ⟨b, off + i, none⟩ = some (.slice ai (ls[i]?.getD []).length ci) ∧ RdB w ai (ls[i]?.getD []).length ci (ls[i]?.getD []) := by
  obtain ⟨vs, h1, h2, h3⟩ := h
  obtain ⟨b, off, rfl, h4⟩ := h1.at hn
  refine ⟨b, off, rfl, fun i hi => ?_⟩
  obtain ⟨ai, ci, h5, h6⟩ := h3 i hi
  exact ⟨ai, ci, h4 i _ h5, h6⟩
theorem RdBB.nil (w : World) : RdBB w none 0 0 [] := ⟨[], RdA.nil w 1, rfl, fun i hi => by omega⟩

def totTo (ls : List (List UInt8)) : Nat → Nat
  | 0 => 0
  | k+1 => totTo ls k + (ls[k]?.getD []).length
def catTo (ls : List (List UInt8)) : Nat → List UInt8
  | 0 => []
  | k+1 => catTo ls k ++ (ls[k]?.getD [])
theorem totTo_mono (ls : List (List UInt8)) {j k : Nat} (h : j ≤ k) : totTo ls j ≤ totTo ls k := by
  induction k with
  | zero => obtain rfl : j = 0 := by omega
            exact Nat.le_refl _
  | succ k ih =>
    rcases Nat.lt_or_ge j (k + 1) with h1 | h1
    · exact Nat.le_trans (ih (by omega)) (Nat.le_add_right _ _)
    · obtain rfl : j = k + 1 := by omega
      exact Nat.le_refl _
set_option maxHeartbeats 400000 in
theorem concat_any (a : Option Addr) (n c : Nat) (ls : List (List UInt8)) (w : World) (hr : RdBB w a n c ls) (hn : totTo ls n ≤ 140737488355328) :
    Calls Tryz.prog 160 #[.slice a n c] w fun e w' => ∃ a' c', e = .returned (.slice a' (totTo ls n) c') ∧ w'.ownsRow w.heap.size 5 1 (.slice a' (totTo ls n) c') (totTo ls n) ((catTo ls n).map byteV) ∧ Below w.heap.size w w' := by
  have hm := hr.maxn
  go_enter Tryz.func160, Tryz.ntmps160
  go_wp2
  go_loop [3, 5, 11] (fun s _ i => ∃ k : Nat, k ≤ n ∧ i = .int .i64 k ∧ s = .int .i64 (totTo ls k)) (fun _ _ i => n - (intOf i).toNat)
  case atStart => exact ⟨0, Nat.zero_le _, rfl, rfl⟩
  case round =>
    obtain ⟨k, hk, rfl, rfl⟩ := hrel
    have hk1 := totTo_mono ls hk
    by_cases hlt : k < n
    · obtain ⟨b, off, rfl, hc⟩ := hr.at (by omega)
      obtain ⟨ai, ci, hcell, _⟩ := hc k hlt
      have hk2 := totTo_mono ls (show k + 1 ≤ n from hlt)
      simp only [totTo] at hk2
      clear hc
      go_wp2
      go_round
      case rel => exact ⟨k + 1, by omega, by go_num, by simp [totTo]⟩
      case measure => simp [intOf]; omega
    · obtain rfl : k = n := by omega
      clear hk1
      go_wp2_with (go_at_call 198; refine (grow_nil _ _ hn).mono ?_; rintro e w1 ⟨ga, gc, rfl, hown, hb⟩)
      go_loopw [6, 8, 27] (fun v _ i wr => ∃ (j : Nat) (ja : Option Addr) (jc : Nat), j ≤ k ∧ i = .int .i64 j ∧ v = .slice ja (totTo ls j) jc ∧ wr.ownsRow w.heap.size 5 1 (.slice ja (totTo ls j) jc) (totTo ls j) ((catTo ls j).map byteV) ∧ Below w.heap.size w wr) (fun _ _ i _ => k - (intOf i).toNat)
      case atStart => exact ⟨0, ga, gc, Nat.zero_le _, rfl, rfl, hown, hb⟩
      case round =>
        obtain ⟨j, ja, jc, hj, rfl, rfl, hownj, hbj⟩ := hrel
        by_cases hlt : j < k
        · obtain ⟨b, off, rfl, hc⟩ := (hr.below hbj).at (by omega)
          obtain ⟨ai, ci, hcell, hrd⟩ := hc j hlt
          have hk2 := totTo_mono ls (show j + 1 ≤ k from hlt)
          simp only [totTo] at hk2
          have hsz := hbj.size
          clear hc hr hown hb
          go_wp2_with (at_builtin; refine app_bytes _ rfl _ _ rfl w.heap.size _ _ _ _ rfl hownj _ _ _ _ rfl hrd (by omega) hsz ?_; intro a' c' w' h1 h2)
          go_roundw
          case rel => exact ⟨j + 1, a', c', by omega, by go_num, rfl, h1, hbj.grown h2 hsz (fun q hq => (hownj.lt q hq).1)⟩
          case measure => simp [intOf]; omega
        · obtain rfl : j = k := by omega
          go_wp2
          go_ret
          exact ⟨ja, jc, rfl, hownj, hbj⟩

theorem RdBB.pair {w : World} {a1 a2 : Option Addr} {n1 n2 c1 c2 : Nat} {l1 l2 : List UInt8} (h1 : RdB w a1 n1 c1 l1) (h2 : RdB w a2 n2 c2 l2) :
    RdBB (w.alloc (.cells #[.slice a1 n1 c1, .slice a2 n2 c2] 41)) (some ⟨w.heap.size, 0, none⟩) 2 2 [l1, l2] := by
  have hb := (Below.refl w.heap.size w).alloc (Nat.le_refl _) (.cells #[.slice a1 n1 c1, .slice a2 n2 c2] 41)
  have hown := World.ownsRow_lit (base := w.heap.size) (e := 41) (size := 1) w #[.slice a1 n1 c1, .slice a2 n2 c2] 2 (Nat.le_refl _) (by unfold maxLen; omega) rfl
  refine ⟨[.slice a1 n1 c1, .slice a2 n2 c2], RdA.of_own hown, rfl, fun i hi => ?_⟩
  obtain rfl := h1.len
  obtain rfl := h2.len
  rcases (show i = 0 ∨ i = 1 by omega) with rfl | rfl
  · exact ⟨a1, c1, rfl, h1.below hb⟩
  · exact ⟨a2, c2, rfl, h2.below hb⟩

theorem concat_two (a1 a2 : Option Addr) (n1 n2 c1 c2 : Nat) (l1 l2 : List UInt8) (w : World) (r : List UInt8) (hr : r = l1 ++ l2) (h1 : RdB w a1 n1 c1 l1) (h2 : RdB w a2 n2 c2 l2) (hn : n1 + n2 ≤ 140737488355328) :
    Calls Tryz.prog 160 #[.slice (some ⟨w.heap.size, 0, none⟩) 2 2] (w.alloc (.cells #[.slice a1 n1 c1, .slice a2 n2 c2] 41)) fun e w' => ∃ a' c', e = .returned (.slice a' r.length c') ∧ w'.ownsRow w.heap.size 5 1 (.slice a' r.length c') r.length (r.map byteV) ∧ Below w.heap.size w w' := by
  subst hr
  have hl1 := h1.len
  have hl2 := h2.len
  have e1 : totTo [l1, l2] 2 = (l1 ++ l2).length := by simp [totTo]
  have e2 : catTo [l1, l2] 2 = l1 ++ l2 := by simp [catTo]
  refine (concat_any _ 2 2 [l1, l2] _ (RdBB.pair h1 h2) (by rw [e1, List.length_append]; omega)).mono ?_
  rintro e w' ⟨a', c', rfl, ho, hb⟩
  rw [e1, e2] at *
  have hb' := ((Below.refl w.heap.size w).alloc (Nat.le_refl _) (.cells #[.slice a1 n1 c1, .slice a2 n2 c2] 41)).trans (hb.mono (by simp))
  refine ⟨a', c', rfl, ⟨ho.1, ?_⟩, hb'⟩
  rcases ho.2 with h | ⟨g, cap, cur, h, hg, hr⟩
  · exact .inl h
  · exact .inr ⟨g, cap, cur, h, by simp at hg; omega, hr⟩

def stockOf (l : List UInt8) : List UInt8 := two l.length ++ l
def foilOf (l : List UInt8) : List UInt8 := two l.length ++ two (chk l)
theorem two_len (n : Nat) : (two n).length = 2 := rfl
theorem stockOf_len (l : List UInt8) : (stockOf l).length = l.length + 2 := by simp [stockOf, two]; 
theorem foilOf_len (l : List UInt8) : (foilOf l).length = 4 := rfl

theorem own_mono {w : World} {B base : Nat} {e : TypeId} {k : Nat} {v : Value} {n : Nat} {xs : List Value} (h : w.ownsRow base e k v n xs) (hB : B ≤ base) : w.ownsRow B e k v n xs := by
  refine ⟨h.1, ?_⟩
  rcases h.2 with h | ⟨g, cap, cur, h, hg, hr⟩
  · exact .inl h
  · exact .inr ⟨g, cap, cur, h, by omega, hr⟩
theorem own_below {w w' : World} {base : Nat} {e : TypeId} {k : Nat} {v : Value} {n : Nat} {xs : List Value} (h : w.ownsRow base e k v n xs) (hb : Below w.heap.size w w') : w'.ownsRow base e k v n xs := by
  refine ⟨h.1, ?_⟩
  rcases h.2 with h | ⟨g, cap, cur, h, hg, hgg, hr⟩
  · exact .inl h
  · exact .inr ⟨g, cap, cur, h, hg, (hb.block g (Array.getElem?_eq_some_iff.1 hgg).1).trans hgg, hr⟩

theorem RdB.of_own {w : World} {base : Nat} {e : TypeId} {a : Option Addr} {n c : Nat} {l : List UInt8} (h : w.ownsRow base e 1 (.slice a n c) n (l.map byteV)) : RdB w a n c l := RdA.of_own h

set_option maxHeartbeats 400000 in
theorem halves_any (a : Option Addr) (n c : Nat) (l : List UInt8) (w : World) (hr : RdB w a n c l) (hn : n < 65536) :
    Calls Tryz.prog 107 #[.slice a n c] w fun e w' => ∃ a1 c1 a2 c2, e = .returned (.tuple #[.slice a1 (stockOf l).length c1, .slice a2 (foilOf l).length c2]) ∧
      w'.ownsRow w.heap.size 5 1 (.slice a1 (stockOf l).length c1) (stockOf l).length ((stockOf l).map byteV) ∧ w'.ownsRow w.heap.size 5 1 (.slice a2 (foilOf l).length c2) (foilOf l).length ((foilOf l).map byteV) ∧ Below w.heap.size w w' := by
  have hl := hr.len
  have HL := Lib.hid hl; clear hl
  have hk := chk_lt l
  go_enter Tryz.func107, Tryz.ntmps107
  go_wp2_with fail
  refine (two_any n _ hn).mono ?_
  rintro e w1 ⟨a1, c1, rfl, ho1, hb1⟩
  have h1 := RdB.of_own ho1
  have hr1 := hr.below hb1
  go_wp2_with fail
  refine (concat_two _ _ _ _ _ _ _ _ _ (stockOf l) (by rw [stockOf, HL.out]) h1 hr1 (by omega)).mono ?_
  rintro e w2 ⟨a2, c2, rfl, ho2, hb2⟩
  have hb12 := hb1.trans (hb2.mono hb1.size)
  go_wp2_with fail
  refine (two_any n _ hn).mono ?_
  rintro e w3 ⟨a3, c3, rfl, ho3, hb3⟩
  have h3 := RdB.of_own ho3
  have hb13 := hb12.trans (hb3.mono hb12.size)
  have hr3 := hr.below hb13
  go_wp2_with fail
  refine (check_any _ n c l _ (by omega) hr3).mono ?_
  rintro e w' ⟨rfl, rfl⟩
  go_wp2_with fail
  refine (two_any (chk l) _ (by omega)).mono ?_
  rintro e w4 ⟨a4, c4, rfl, ho4, hb4⟩
  have h4 := RdB.of_own ho4
  have h34 := h3.below hb4
  have hb14 := hb13.trans (hb4.mono hb13.size)
  go_wp2_with fail
  refine (concat_two _ _ _ _ _ _ _ _ _ (foilOf l) (by rw [foilOf, HL.out]) h34 h4 (by omega)).mono ?_
  rintro e w5 ⟨a5, c5, rfl, ho5, hb5⟩
  have hb15 := hb14.trans (hb5.mono hb14.size)
  have h25 := own_mono (own_below (own_below (own_below ho2 hb3) hb4) hb5) hb1.size
  have h5 := own_mono ho5 hb14.size
  clear ho1 ho2 ho3 ho4 ho5 h1 h3 h4 h34 hr1 hr3
  go_wp2_with fail
  go_ret2
  exact ⟨a2, c2, a5, c5, rfl, h25, h5, hb15⟩

theorem notch_any (a : Option Addr) (n c : Nat) (l : List UInt8) (w : World) (hr : RdB w a n c l) (hn : n ≤ 8192) :
    Calls Tryz.prog 46 #[.slice a n c] w fun e w' => ∃ a1 c1 a2 c2, e = .returned (.tuple #[.slice a1 (stockOf l).length c1, .slice a2 (foilOf l).length c2, .int .i64 0]) ∧
      RdB w' a1 (stockOf l).length c1 (stockOf l) ∧ RdB w' a2 (foilOf l).length c2 (foilOf l) ∧ Below w.heap.size w w' := by
  go_enter Tryz.func46, Tryz.ntmps46
  go_wp2_with fail
  refine (halves_any _ _ _ l _ hr (by omega)).mono ?_
  rintro e w1 ⟨a1, c1, a2, c2, rfl, h1, h2, hb⟩
  go_wp2_with fail
  go_ret3
  exact ⟨a1, c1, a2, c2, rfl, RdB.of_own h1, RdB.of_own h2, hb⟩

end Go.Proofs.YtlnhppgfhkkidaaGreat
namespace Go.Proofs.YtlnhppgfhkkidaaGreat
open Go.RowKit

def atN (l : List UInt8) (i : Nat) : Nat := (l[i]?.getD 0).toNat + 256 * (l[i+1]?.getD 0).toNat
theorem atN_lt (l : List UInt8) (i : Nat) : atN l i < 65536 := by
  have h1 := (l[i]?.getD 0).toNat_lt
  have h2 := (l[i+1]?.getD 0).toNat_lt
  unfold atN; omega

def joinF : Nat → List UInt8 → List UInt8 → List (List UInt8)
  | 0, _, _ => []
  | k+1, st, fo =>
    if 2 ≤ st.length ∧ 4 ≤ fo.length ∧ atN st 0 ≤ 8192 ∧ atN st 0 + 2 ≤ st.length ∧ fo.take 4 = foilOf ((st.drop 2).take (atN st 0)) then
      ((st.drop 2).take (atN st 0)) :: joinF k (st.drop (atN st 0 + 2)) (fo.drop 4)
    else []
def joinOf (st fo : List UInt8) : List (List UInt8) := joinF (fo.length / 4) st fo
def sOf (ls : List (List UInt8)) : Nat := (ls.map fun b => b.length + 2).sum

theorem joinF_more : ∀ (k m : Nat) (st fo : List UInt8), fo.length / 4 ≤ k → fo.length / 4 ≤ m → joinF k st fo = joinF m st fo
  | 0, 0, _, _, _, _ => rfl
  | 0, m+1, st, fo, h, _ => by
    simp only [joinF]
    rw [if_neg (by omega)]
  | k+1, 0, st, fo, _, h => by
    simp only [joinF]
    rw [if_neg (by omega)]
  | k+1, m+1, st, fo, h1, h2 => by
    simp only [joinF]
    split
    · rename_i h
      rw [joinF_more k m]
      · simp only [List.length_drop]; omega
      · simp only [List.length_drop]; omega
    · rfl
theorem joinOf_yes {st fo : List UInt8} (h1 : 2 ≤ st.length) (h2 : 4 ≤ fo.length) (h3 : atN st 0 ≤ 8192) (h4 : atN st 0 + 2 ≤ st.length) (h5 : fo.take 4 = foilOf ((st.drop 2).take (atN st 0))) :
    joinOf st fo = ((st.drop 2).take (atN st 0)) :: joinOf (st.drop (atN st 0 + 2)) (fo.drop 4) := by
  unfold joinOf
  obtain ⟨k, hk⟩ : ∃ k, fo.length / 4 = k + 1 := ⟨fo.length / 4 - 1, by omega⟩
  rw [hk, joinF, if_pos ⟨h1, h2, h3, h4, h5⟩]
  congr 1
  apply joinF_more
  · simp only [List.length_drop]; omega
  · simp
theorem joinOf_no {st fo : List UInt8} (h : ¬ (2 ≤ st.length ∧ 4 ≤ fo.length ∧ atN st 0 ≤ 8192 ∧ atN st 0 + 2 ≤ st.length ∧ fo.take 4 = foilOf ((st.drop 2).take (atN st 0)))) : joinOf st fo = [] := by
  unfold joinOf
  cases hk : fo.length / 4 with
  | zero => rfl
  | succ k => rw [joinF, if_neg h]

theorem atN_drop (l : List UInt8) (i j : Nat) : atN (l.drop i) j = atN l (i + j) := by
  simp [atN, List.getElem?_drop, Nat.add_assoc]
theorem foil_iff {fo b : List UInt8} (h : 4 ≤ fo.length) (hb : b.length < 65536) : fo.take 4 = foilOf b ↔ atN fo 0 = b.length ∧ atN fo 2 = chk b := by
  obtain ⟨x, y, z, u, r, rfl⟩ : ∃ x y z u r, fo = x :: y :: z :: u :: r := by
    match fo, h with
    | x :: y :: z :: u :: r, _ => exact ⟨x, y, z, u, r, rfl⟩
  have hc := chk_lt b
  have tw : ∀ (x y : UInt8) (n : Nat), n < 65536 → ([x, y] = two n ↔ x.toNat + 256 * y.toNat = n) := by
    intro x y n hn
    have hx := x.toNat_lt
    have hy := y.toNat_lt
    simp only [two, List.cons.injEq, and_true, ← UInt8.toNat_inj, UInt8.toNat_ofNat']
    omega
  have e1 : (x :: y :: z :: u :: r).take 4 = [x, y] ++ [z, u] := rfl
  rw [e1, foilOf, show atN (x :: y :: z :: u :: r) 0 = x.toNat + 256 * y.toNat from rfl, show atN (x :: y :: z :: u :: r) 2 = z.toNat + 256 * u.toNat from rfl, ← tw x y _ hb, ← tw z u _ (by omega)]
  constructor
  · intro h
    exact List.append_inj h rfl
  · rintro ⟨h1, h2⟩
    rw [h1, h2]

def OwnBB (w : World) (base : Nat) (a : Option Addr) (n c : Nat) (ls : List (List UInt8)) : Prop :=
  ∃ vs : List Value, w.ownsRow base 41 1 (.slice a n c) n vs ∧ ls.length = n ∧ ∀ i, i < n → ∃ ai ci, vs[i]? = some (.slice ai (ls[i]?.getD []).length ci) ∧ w.ownsRow 0 5 1 (.slice ai (ls[i]?.getD []).length ci) (ls[i]?.getD []).length ((ls[i]?.getD []).map byteV)

theorem OwnBB.rd {w : World} {base : Nat} {a : Option Addr} {n c : Nat} {ls : List (List UInt8)} (h : OwnBB w base a n c ls) : RdBB w a n c ls := by
  obtain ⟨vs, h1, h2, h3⟩ := h
  refine ⟨vs, RdA.of_own h1, h2, fun i hi => ?_⟩
  obtain ⟨ai, ci, h4, h5⟩ := h3 i hi
  exact ⟨ai, ci, h4, RdB.of_own h5⟩
theorem OwnBB.nil (w : World) (base : Nat) : OwnBB w base none 0 0 [] := ⟨[], World.ownsRow_nil _ _ _ _, rfl, fun i hi => by omega⟩
theorem OwnBB.below {w w' : World} {base : Nat} {a : Option Addr} {n c : Nat} {ls : List (List UInt8)} (h : OwnBB w base a n c ls) (hb : Below w.heap.size w w') : OwnBB w' base a n c ls := by
  obtain ⟨vs, h1, h2, h3⟩ := h
  refine ⟨vs, own_below h1 hb, h2, fun i hi => ?_⟩
  obtain ⟨ai, ci, h4, h5⟩ := h3 i hi
  exact ⟨ai, ci, h4, own_below h5 hb⟩
theorem OwnBB.lt {w : World} {base : Nat} {a : Option Addr} {n c : Nat} {ls : List (List UInt8)} (h : OwnBB w base a n c ls) : ∀ k, Value.ownBlock (.slice a n c) = some k → base ≤ k ∧ k < w.heap.size := by
  obtain ⟨vs, h1, _⟩ := h
  exact h1.lt

theorem own_other {w w' : World} {base base' : Nat} {e e' : TypeId} (hne : e ≠ e') {k k' : Nat} {v v' : Value} {n n' : Nat} {xs xs' : List Value} (h : w.ownsRow base e k v n xs) (h' : w.ownsRow base' e' k' v' n' xs') (hg : w.grownBy w' v'.ownBlock) : w'.ownsRow base e k v n xs := by
  refine h.kept hg ?_
  rcases h.2 with ⟨rfl, _⟩ | ⟨g, cap, cur, rfl, _, hgg, _⟩
  · exact .inl rfl
  · right
    rcases h'.2 with ⟨rfl, _⟩ | ⟨g', cap', cur', rfl, _, hgg', _⟩
    · simp [Value.ownBlock]
    · simp only [Value.ownBlock, ne_eq, Option.some.injEq]
      intro e
      subst e
      rw [hgg] at hgg'
      simp only [Option.some.injEq, Obj.cells.injEq] at hgg'
      exact hne hgg'.2.1

theorem infoBytes : (Tryz.prog.info? 41).map (fun i => (i.zero, i.size, i.bytes)) = some (some (.slice none 0 0), 1, 24) := by kernel_rfl

theorem run_app_bb1 (w : World) (ty : TypeId) (base : Nat) (sa : Option Addr) (sn sc : Nat) (xs : List (List UInt8)) (hown : OwnBB w base sa sn sc xs)
    (g : Nat) (ya : Option Addr) (m yc : Nat) (l : List UInt8) (hc : w.cell? ⟨g, 0, none⟩ = some (.slice ya m yc))
    (hy : w.ownsRow 0 5 1 (.slice ya m yc) m (l.map byteV)) (hbytes : sn + 1 ≤ 16777216) (hbase : base ≤ w.heap.size) :
    ∃ a' c' w', (Builtin.append_ #[98, 98] ty #[.slice sa sn sc, .slice (some ⟨g, 0, none⟩) 1 1]).run Tryz.prog w = .ok (.slice a' (sn + 1) c') w' ∧ OwnBB w' base a' (sn + 1) c' (xs ++ [l]) ∧ w.grownBy w' (Value.ownBlock (.slice sa sn sc)) := by
  obtain ⟨i, hi, hz0, hz1, hz2⟩ := info_parts infoBytes
  obtain ⟨vs, h1, h2, h3⟩ := hown
  have hlen : l.length = m := by simpa using hy.1
  subst hlen
  have hrd : RdA w 1 (some ⟨g, 0, none⟩) 1 1 [.slice ya l.length yc] := by
    refine ⟨rfl, Nat.le_refl _, by unfold maxLen; omega, .inr ⟨g, 0, rfl, fun i x hx => ?_⟩⟩
    match i, hx with
    | 0, hx => simp at hx; subst hx; exact hc
  obtain ⟨a', c', w', hr, ho', hg'⟩ := run_append_rd (P := Tryz.prog) w base 98 ty 41 i (.slice none 0 0) 1 24 Tryz.underlying98 hi hz0 hz1 hz2 rfl (by decide) sa sn sc vs h1 _ 1 1 _ hrd (by intro u hu; simp at hu; subst hu; rfl) (by unfold maxLen; omega) (by omega) hbase
  refine ⟨a', c', w', hr, ⟨_, ho', by simp [h2], fun i hi => ?_⟩, hg'⟩
  have hvl : vs.length = sn := by simpa using h1.1
  by_cases hin : i < sn
  · obtain ⟨ai, ci, h4, h5⟩ := h3 i hin
    have e1 : (xs ++ [l])[i]? = xs[i]? := List.getElem?_append_left (by omega)
    have e2 : (vs ++ [.slice ya l.length yc])[i]? = vs[i]? := List.getElem?_append_left (by omega)
    rw [e1, e2]
    exact ⟨ai, ci, h4, own_other (by decide) h5 h1 hg'⟩
  · have hi' : i = sn := by omega
    have e1 : (xs ++ [l])[i]? = some l := by rw [List.getElem?_append_right (by omega)]; simp [hi', h2]
    have e2 : (vs ++ [.slice ya l.length yc])[i]? = some (.slice ya l.length yc) := by rw [List.getElem?_append_right (by omega)]; simp [hi', hvl]
    rw [e1, e2]
    exact ⟨ya, yc, rfl, own_other (by decide) hy h1 hg'⟩

theorem slice_bytes (w : World) {ops : Array Oper} {rest : List Oper} {o : Oper} {a : Act} {Q : Exit → Act → World → Prop} (hgd : o.guard = none) (x : Operand) (lo hi : Option Operand)
    (ho : o.op = .slice 41 x lo hi none) (xa : Option Addr) (n c : Nat) (l : List UInt8) (hx : a.eval x = .slice xa n c) (hrd : RdB w xa n c l) (L H : Nat)
    (hl : (lo = none ∧ L = 0) ∨ ∃ q kd, lo = some q ∧ a.eval q = .int kd (L : Int)) (hh : (hi = none ∧ H = n) ∨ ∃ q kd, hi = some q ∧ a.eval q = .int kd (H : Int)) (h1 : L ≤ H) (h2 : H ≤ n)
    (h : ∀ a', RdB w a' (H - L) (c - L) ((l.drop L).take (H - L)) → wpList Tryz.prog ops Q rest (a.put o.dst (.slice a' (H - L) (c - L))) w) : wpList Tryz.prog ops Q (o :: rest) a w := by
  obtain ⟨i, hi', hz0, hz1, hz2⟩ := info_parts infoByte
  refine wpList_slice_rd w hgd x lo hi 41 ho 5 i 1 Tryz.underlying41 hi' hz1 xa n c _ hx hrd L H hl hh h1 h2 (fun a' hr => h a' ?_)
  unfold RdB
  rw [List.map_take, List.map_drop]
  simpa using hr
end Go.Proofs.YtlnhppgfhkkidaaGreat
namespace Go.Proofs.YtlnhppgfhkkidaaGreat
open Go.RowKit

theorem sOf_snoc (d : List (List UInt8)) (b : List UInt8) : sOf (d ++ [b]) = sOf d + (b.length + 2) := by simp [sOf]

def bodyAt (st : List UInt8) (S : Nat) : List UInt8 := (st.drop (S + 2)).take (atN st S)
def CanJoin (st fo : List UInt8) (S F : Nat) : Prop :=
  S + 2 ≤ st.length ∧ F + 4 ≤ fo.length ∧ atN st S ≤ 8192 ∧ S + 2 + atN st S ≤ st.length ∧ atN fo F = atN st S ∧ atN fo (F + 2) = chk (bodyAt st S)

theorem bodyAt_len {st : List UInt8} {S : Nat} (h : S + 2 + atN st S ≤ st.length) : (bodyAt st S).length = atN st S := by
  simp only [bodyAt, List.length_take, List.length_drop]; omega

theorem canJoin_iff (st fo : List UInt8) (S F : Nat) : CanJoin st fo S F ↔
    (2 ≤ (st.drop S).length ∧ 4 ≤ (fo.drop F).length ∧ atN (st.drop S) 0 ≤ 8192 ∧ atN (st.drop S) 0 + 2 ≤ (st.drop S).length ∧ (fo.drop F).take 4 = foilOf (((st.drop S).drop 2).take (atN (st.drop S) 0))) := by
  have hb : ((st.drop S).drop 2).take (atN (st.drop S) 0) = bodyAt st S := by rw [List.drop_drop, atN_drop, bodyAt, Nat.add_zero]
  rw [hb, atN_drop, Nat.add_zero]
  simp only [List.length_drop]
  constructor
  · rintro ⟨h1, h2, h3, h4, h5, h6⟩
    refine ⟨by omega, by omega, h3, by omega, ?_⟩
    rw [foil_iff (by simp only [List.length_drop]; omega) (by rw [bodyAt_len h4]; omega), bodyAt_len h4, atN_drop, atN_drop]
    exact ⟨h5, h6⟩
  · rintro ⟨h1, h2, h3, h4, h5⟩
    have h4' : S + 2 + atN st S ≤ st.length := by omega
    rw [foil_iff (by simp only [List.length_drop]; omega) (by rw [bodyAt_len h4']; omega), bodyAt_len h4', atN_drop, atN_drop] at h5
    exact ⟨by omega, by omega, h3, h4', h5.1, h5.2⟩
theorem join_stop {st fo : List UInt8} {S F : Nat} (h : ¬ CanJoin st fo S F) : joinOf (st.drop S) (fo.drop F) = [] := joinOf_no (fun h' => h ((canJoin_iff st fo S F).2 h'))
theorem join_go {st fo : List UInt8} {S F : Nat} (h : CanJoin st fo S F) : joinOf (st.drop S) (fo.drop F) = bodyAt st S :: joinOf (st.drop (S + (2 + atN st S))) (fo.drop (F + 4)) := by
  obtain ⟨h1, h2, h3, h4, h5⟩ := (canJoin_iff st fo S F).1 h
  rw [joinOf_yes h1 h2 h3 h4 h5]
  simp only [List.drop_drop, atN_drop, Nat.add_zero, bodyAt]
  rw [show S + (atN st S + 2) = S + (2 + atN st S) by omega]

end Go.Proofs.YtlnhppgfhkkidaaGreat
namespace Go.Proofs.YtlnhppgfhkkidaaGreat
open Go.RowKit

def LoopAt (rec : LoopState → Option Code → Loop) (D : Nat) (st : LoopState) (pe : Option Code) (W : World) : Prop :=
  W.heap[D + 1]? = some (.loop (rec st pe)) ∧ W.heap[D]? = some (.deferred (some []))

theorem LoopAt.kept {rec : LoopState → Option Code → Loop} {D : Nat} {st : LoopState} {pe : Option Code} {W W' : World} (h : LoopAt rec D st pe W) (hk : KeepsFrom D W W') : LoopAt rec D st pe W' :=
  ⟨hk.same _ _ (by omega) h.1 rfl, hk.same _ _ (Nat.le_refl _) h.2 rfl⟩

def roundEnd (D : Nat) (B : World → Prop) (X : Code → World → Prop) (W : World) : Exit → Act → World → Prop
  | .normal, _, W' => KeepsFrom D W W' ∧ B W'
  | .ret, _, W' => KeepsFrom D W W' ∧ X .ret W'
  | .exit id, _, W' => KeepsFrom D W W' ∧ X (.exit id) W'
  | .goto t, _, W' => KeepsFrom D W W' ∧ X (.goto t) W'
  | .panic _, _, _ => False
  | .outgrown, _, _ => False

theorem wp_range_own {P : Program} {σ : Type} {n : Nat} {g : Operand} {ps : Array Tmp} {assign body : Code} {Q : Exit → Act → World → Prop} {a : Act} {w : World}
    {gf : Nat} {lb : Array Value} (hg : a.eval g = .func (.func gf) #[] lb) (eg : ∀ args w, (callFunc gf args).run P w = .ok (.enter gf args) w)
    (encs : σ → Array Value) (hps : ∀ x, (encs x).size = ps.size)
    (A B : σ → World → Prop) (X : Code → σ → World → Prop) (Done : World → Prop) (Stop : Code → World → Prop)
    (hA : ∀ s W o, A s W → (∃ r, W.heap[w.heap.size + 1]? = some (.loop r)) → A s (W.putObj (w.heap.size + 1) (.loop o)))
    (hB : ∀ s W o, B s W → (∃ r, W.heap[w.heap.size + 1]? = some (.loop r)) → B s (W.putObj (w.heap.size + 1) (.loop o)))
    (hX : ∀ c s W o, X c s W → (∃ r, W.heap[w.heap.size + 1]? = some (.loop r)) → X c s (W.putObj (w.heap.size + 1) (.loop o)))
    (hDone : ∀ W o, Done W → (∃ r, W.heap[w.heap.size + 1]? = some (.loop r)) → Done (W.putObj (w.heap.size + 1) (.loop o)))
    (hStop : ∀ c W o, Stop c W → (∃ r, W.heap[w.heap.size + 1]? = some (.loop r)) → Stop c (W.putObj (w.heap.size + 1) (.loop o)))
    (a₁ : σ → Act)
    (hassign : ∀ (s : σ) (W : World) (K : Act → World → Prop), A s W → K (a₁ s) W →
      assign.wpIn (Fence.wide.inRound (w.heap.size + 1)) (n - 1) P (Exit.then K (fun _ _ _ => False)) { tmps := (ps.zip (encs s)).foldl (fun t (p, v) => t.setIfInBounds p v) a.tmps, defers := [] } W)
    (hbody : ∀ (s : σ) (W : World), A s W → (∃ r, W.heap[w.heap.size + 1]? = some (.loop r)) → W.heap[w.heap.size]? = some (.deferred (some [])) → body.wpIn (Fence.wide.inRound (w.heap.size + 1)) (n - 1) P (roundEnd w.heap.size (B s) (fun c => X c s) W) (a₁ s) W)
    (hiter : ∀ (rec : LoopState → Option Code → Loop),
      LoopAt rec w.heap.size .ready none ((w.alloc (.deferred (some []))).alloc (.loop (rec .ready none))) →
      (∀ s W, A s W → LoopAt rec w.heap.size .ready none W → YieldAt Fence.wide (n - 1) P (w.heap.size + 1) (encs s) W fun e W' =>
        (e = .returned (.bool true) ∧ B s W' ∧ LoopAt rec w.heap.size .ready none W') ∨ (∃ c, e = .returned (.bool false) ∧ X c s W' ∧ LoopAt rec w.heap.size .done (some c) W')) →
      CallsIn Fence.wide n P gf (#[.func (.yield (w.heap.size + 1)) #[] #[]] ++ lb) ((w.alloc (.deferred (some []))).alloc (.loop (rec .ready none))) fun e W' =>
        (∃ v, e = .returned v) ∧ ((Done W' ∧ LoopAt rec w.heap.size .ready none W') ∨ (∃ c, Stop c W' ∧ LoopAt rec w.heap.size .done (some c) W')))
    (hdone : ∀ (W : World), Done W → W.heap[w.heap.size]? = some (.deferred (some [])) → Q .normal { a with defers := { target := .collected w.heap.size, args := #[] } :: a.defers } W)
    (hstop : ∀ (c : Code) (W : World), Stop c W → W.heap[w.heap.size]? = some (.deferred (some [])) → c.wpIn Fence.wide (n + 1) P Q { a with defers := { target := .collected w.heap.size, args := #[] } :: a.defers } W) :
    (Code.rangeFunc g ps assign body).wpIn Fence.wide (n + 1) P Q a w := by
  refine wpIn_rangeFunc ?_
  intro fn hfn
  obtain ⟨rec, hrec⟩ : ∃ rec : LoopState → Option Code → Loop, rec = fun st pe => { state := st, pending := pe, fn, tmps := a.tmps, params := ps, assign, body, defers := w.heap.size } := ⟨_, rfl⟩
  have hnew : LoopAt rec w.heap.size .ready none ((w.alloc (.deferred (some []))).alloc (.loop (rec .ready none))) := by
    refine ⟨?_, (Below.heap_alloc _ _ _ (by simp)).trans (World.alloc_heap_new w _)⟩
    have := World.alloc_heap_new (w.alloc (.deferred (some []))) (.loop (rec .ready none))
    rwa [World.size_alloc] at this
  have hput : ∀ (W : World) (st st' : LoopState) (pe pe' : Option Code), LoopAt rec w.heap.size st pe W → LoopAt rec w.heap.size st' pe' (W.putObj (w.heap.size + 1) (.loop (rec st' pe'))) :=
    fun W st st' pe pe' h => ⟨World.putObj_heap_same (Array.getElem?_eq_some_iff.1 h.1).1, (World.putObj_heap_other (by omega)).trans h.2⟩
  refine ⟨w.heap.size + 1, [{ target := .collected w.heap.size, args := #[] }], (w.alloc (.deferred (some []))).alloc (.loop (rec .ready none)), { target := .fn (.func gf) lb, args := #[.func (.yield (w.heap.size + 1)) #[] #[]] }, (w.alloc (.deferred (some []))).alloc (.loop (rec .ready none)), gf,
    #[.func (.yield (w.heap.size + 1)) #[] #[]] ++ lb, (w.alloc (.deferred (some []))).alloc (.loop (rec .ready none)), ?_, ?_, ?_, ?_, ?_, ?_⟩
  · rw [hrec]; exact run_enterLoop_outer _ _ _ _ _
  · simp only [resolve, hg]
    simp [go_sem]
  · intro f' _
    trivial
  · simp [invoke, go_sem, eg]
  · intro h
    simp [Fence.wide] at h
  · rw [Nat.add_sub_cancel]
    refine (hiter rec hnew ?_).mono ?_
    · intro s W hs hl
      have hy := run_yield (P := P) (args := encs s) hl.1 (by rw [hrec]; exact hps s)
      rw [hrec] at hy
      refine ⟨fn, _, assign, body, hy, roundIn_of_wpIn hfn (hassign s W _ hs ⟨_, run_beginRound hl.1 (by rw [hrec]), ?_⟩)⟩
      have hbusy : ({ rec .ready none with state := .busy } : Loop) = rec .busy none := by rw [hrec]
      rw [hbusy]
      have hl2 := hput W .ready .busy none none hl
      refine wpIn_mono (hbody s _ (hA s W _ hs ⟨_, hl.1⟩) ⟨_, hl2.1⟩ hl2.2) ?_
      have fin : ∀ (jump : Option Code) (W3 : World), KeepsFrom w.heap.size (W.putObj (w.heap.size + 1) (.loop (rec .busy none))) W3 →
          (Instr.endRound (w.heap.size + 1) jump).run P W3 = .ok (.bool jump.isNone) (W3.putObj (w.heap.size + 1) (.loop (rec (if jump.isNone then .ready else .done) jump))) ∧
          LoopAt rec w.heap.size .busy none W3 ∧ LoopAt rec w.heap.size (if jump.isNone then .ready else .done) jump (W3.putObj (w.heap.size + 1) (.loop (rec (if jump.isNone then .ready else .done) jump))) := fun jump W3 hk => by
        have h3 := hl2.kept hk
        have hr := run_endRound (P := P) jump h3.1
        rw [hrec] at hr ⊢
        exact ⟨hr, by rw [hrec] at h3; exact h3, by have := hput W3 .busy (if jump.isNone then .ready else .done) none jump h3; rw [hrec] at this; exact this⟩
      rintro e a3 W3 hp
      cases e with
      | normal =>
        obtain ⟨hk, hb⟩ := hp
        obtain ⟨hr, h3, h4⟩ := fin none W3 hk
        exact ⟨_, _, hr, .inl ⟨rfl, hB s W3 _ hb ⟨_, h3.1⟩, h4⟩⟩
      | ret =>
        obtain ⟨hk, hb⟩ := hp
        obtain ⟨hr, h3, h4⟩ := fin (some .ret) W3 hk
        exact ⟨_, _, hr, .inr ⟨.ret, rfl, hX _ s W3 _ hb ⟨_, h3.1⟩, h4⟩⟩
      | exit id =>
        obtain ⟨hk, hb⟩ := hp
        obtain ⟨hr, h3, h4⟩ := fin (some (.exit id)) W3 hk
        exact ⟨_, _, hr, .inr ⟨.exit id, rfl, hX _ s W3 _ hb ⟨_, h3.1⟩, h4⟩⟩
      | goto t =>
        obtain ⟨hk, hb⟩ := hp
        obtain ⟨hr, h3, h4⟩ := fin (some (.goto t)) W3 hk
        exact ⟨_, _, hr, .inr ⟨.goto t, rfl, hX _ s W3 _ hb ⟨_, h3.1⟩, h4⟩⟩
      | panic ch => exact hp.elim
      | outgrown => exact hp.elim
    · rintro e W2 ⟨⟨v, rfl⟩, (⟨hd, hl⟩ | ⟨c, hs, hl⟩)⟩
      · refine ⟨none, _, by have := run_endLoop (P := P) hl.1 (by rw [hrec]; simp); rw [hrec] at this; exact this, ?_⟩
        exact hdone _ (hDone W2 _ hd ⟨_, hl.1⟩) ((World.putObj_heap_other (by omega)).trans hl.2)
      · refine ⟨some c, _, by have := run_endLoop (P := P) hl.1 (by rw [hrec]; simp); rw [hrec] at this; exact this, ?_⟩
        exact hstop c _ (hStop c W2 _ hs ⟨_, hl.1⟩) ((World.putObj_heap_other (by omega)).trans hl.2)
end Go.Proofs.YtlnhppgfhkkidaaGreat
namespace Go.Proofs.YtlnhppgfhkkidaaGreat
open Go.RowKit
attribute [local go_sem] Oper.semAt_some

theorem app_bb1In {F : Fence} {n : Nat} (w : World) {ops : Array Oper} {rest : List Oper} {o : Oper} {a : Act} {Q : Exit → Act → World → Prop} (hgd : o.guard = none) (s x : Operand)
    (ho : o.op = .call { callee := .builtin .append, args := #[s, x], argTypes := #[98, 98] }) (base : Nat)
    (sa : Option Addr) (sn sc : Nat) (xs : List (List UInt8)) (hs : a.eval s = .slice sa sn sc) (hown : OwnBB w base sa sn sc xs)
    (g : Nat) (ya : Option Addr) (m yc : Nat) (l : List UInt8) (hx : a.eval x = .slice (some ⟨g, 0, none⟩) 1 1) (hc : w.cell? ⟨g, 0, none⟩ = some (.slice ya m yc))
    (hy : w.ownsRow 0 5 1 (.slice ya m yc) m (l.map byteV)) (hbytes : sn + 1 ≤ 16777216) (hbase : base ≤ w.heap.size)
    (h : ∀ a' c' w', OwnBB w' base a' (sn + 1) c' (xs ++ [l]) → w.grownBy w' (Value.ownBlock (.slice sa sn sc)) → wpListIn F n Tryz.prog ops Q rest (a.put o.dst (.slice a' (sn + 1) c')) w') :
    wpListIn F n Tryz.prog ops Q (o :: rest) a w := by
  obtain ⟨a', c', w', hr, h2, h3⟩ := run_app_bb1 w o.type base sa sn sc xs hown g ya m yc l hc hy hbytes hbase
  refine wpListIn_plain hgd fun K hK => ?_
  unfold Oper.wpIn
  refine ⟨?_, ?_⟩
  · simp [Oper.about, ho, resolve, Target.leads, Sem.run_pure]
  · rw [Oper.semAt_plain F _ _ (by rw [ho]; intro c hc'; cases hc')]
    simp [execOp, ho, resolve, invoke, builtin, hs, hx, hr, Result.andThen]
    exact hK _ _ (h a' c' w' h2 h3)

structure Same (S : Nat → Prop) (W W' : World) : Prop where
  os : W'.os = W.os
  tape : W'.tape = W.tape
  output : W'.output = W.output
  size : W.heap.size ≤ W'.heap.size
  block : ∀ k, k < W.heap.size → ¬ S k → W'.heap[k]? = W.heap[k]?

theorem Same.of_below {S : Nat → Prop} {W W' : World} (h : Below W.heap.size W W') : Same S W W' := ⟨h.os, h.tape, h.output, h.size, fun k hk _ => h.block k hk⟩
theorem Same.of_grown {S : Nat → Prop} {W W' : World} {row : Option Nat} (h : W.grownBy W' row) (hr : ∀ k, row = some k → S k) : Same S W W' :=
  ⟨h.os, h.tape, h.output, h.size, fun k hk hs => h.block k hk (fun e => hs (hr k e.symm))⟩
theorem Same.trans {S : Nat → Prop} {A B C : World} (h : Same S A B) (k : Same S B C) : Same S A C :=
  ⟨k.os.trans h.os, k.tape.trans h.tape, k.output.trans h.output, Nat.le_trans h.size k.size, fun i hi hs => (k.block i (Nat.lt_of_lt_of_le hi h.size) hs).trans (h.block i hi hs)⟩
theorem Same.below {S : Nat → Prop} {B : Nat} {A W W' : World} (h : Same S W W') (hb : Below B A W) (hB : B ≤ W.heap.size) (hs : ∀ k, S k → B ≤ k) : Below B A W' :=
  hb.trans ⟨h.os, h.tape, h.output, h.size, fun k hk => h.block k (by omega) (fun e => by have := hs k e; omega)⟩

theorem own_same {S : Nat → Prop} {W W' : World} {base : Nat} {e : TypeId} {k : Nat} {v : Value} {n : Nat} {xs : List Value} (h : W.ownsRow base e k v n xs) (hs : Same S W W')
    (hd : ∀ b cur fr, S b → W.heap[b]? ≠ some (.cells cur e fr) ∨ b < base) : W'.ownsRow base e k v n xs := by
  refine ⟨h.1, ?_⟩
  rcases h.2 with h | ⟨g, cap, cur, h, hg, hgg, hr⟩
  · exact .inl h
  · refine .inr ⟨g, cap, cur, h, hg, (hs.block g (Array.getElem?_eq_some_iff.1 hgg).1 (fun hsg => ?_)).trans hgg, hr⟩
    rcases hd g cur (0, 0) hsg with h' | h'
    · exact h' hgg
    · omega
theorem OwnBB.same {S : Nat → Prop} {W W' : World} {base : Nat} {a : Option Addr} {n c : Nat} {ls : List (List UInt8)} (h : OwnBB W base a n c ls) (hs : Same S W W')
    (h1 : ∀ b cur fr, S b → W.heap[b]? ≠ some (.cells cur 41 fr) ∨ b < base) (h2 : ∀ b cur fr, S b → W.heap[b]? ≠ some (.cells cur 5 fr)) : OwnBB W' base a n c ls := by
  obtain ⟨vs, k1, k2, k3⟩ := h
  refine ⟨vs, own_same k1 hs h1, k2, fun i hi => ?_⟩
  obtain ⟨ai, ci, k4, k5⟩ := k3 i hi
  exact ⟨ai, ci, k4, own_same k5 hs (fun b cur fr hb => .inl (h2 b cur fr hb))⟩

theorem tallies_any (v v' : Value) (hv : ∃ a n c, v = .slice a n c) (hv' : ∃ a n c, v' = .slice a n c) (w : World) :
    Calls Tryz.prog 108 #[v, v'] w fun e w' => e = .returned (.func (.func 163) #[] #[.pointer (some ⟨w.heap.size, 0, none⟩), .pointer (some ⟨w.heap.size + 1, 0, none⟩)]) ∧
      (w.alloc (.cells #[v] 41)).alloc (.cells #[v'] 41) = w' := by
  obtain ⟨a, n, c, rfl⟩ := hv
  obtain ⟨a', n', c', rfl⟩ := hv'
  go_enter Tryz.func108, Tryz.ntmps108
  go_wp2
  go_ret
  exact ⟨rfl, rfl⟩

def Box (W : World) (b : Nat) (t : TypeId) (v : Value) : Prop := W.heap[b]? = some (.cells #[v] t (0, 0))
theorem Box.cell {W : World} {b : Nat} {t : TypeId} {v : Value} (h : Box W b t v) : W.cell? ⟨b, 0, none⟩ = some v := cell_of_one h
theorem Box.free {W : World} {b : Nat} {t : TypeId} {v : Value} (h : Box W b t v) : W.frozen? ⟨b, 0, none⟩ = false := free_of_one h
theorem Box.same {S : Nat → Prop} {W W' : World} {b : Nat} {t : TypeId} {v : Value} (h : Box W b t v) (hs : Same S W W') (hn : ¬ S b) : Box W' b t v :=
  (hs.block b (Array.getElem?_eq_some_iff.1 h).1 hn).trans h

theorem Box.new (W : World) (t : TypeId) (v : Value) {b : Nat} (hb : b = W.heap.size) : Box (W.alloc (.cells #[v] t)) b t v := by subst hb; exact heap_alloc_new W _
theorem Box.alloc {W : World} {b : Nat} {t : TypeId} {v : Value} (h : Box W b t v) (o : Obj) : Box (W.alloc o) b t v := h.same (Same.of_below (S := fun _ => False) ((Below.refl _ _).alloc (Nat.le_refl _) o)) id
theorem Box.set {W : World} {b : Nat} {t : TypeId} {v : Value} (h : Box W b t v) (u : Value) : Box (W.setCell ⟨b, 0, none⟩ u) b t u := one_setCell h
theorem Box.set_other {W : World} {b b' : Nat} {t : TypeId} {v : Value} (h : Box W b t v) (u : Value) (hne : b ≠ b') : Box (W.setCell ⟨b', 0, none⟩ u) b t v :=
  (Below.heap_setCell W ⟨b', 0, none⟩ u b hne).trans h
theorem Same.setCell {S : Nat → Prop} {W : World} {b : Nat} (u : Value) (h : S b) : Same S W (W.setCell ⟨b, 0, none⟩ u) := Same.of_grown (grownBy_setCell' W b u) (fun k e => by cases e; exact h)

def Told (w : World) (W : World) (d : List (List UInt8)) : Prop :=
  ∃ oa oc, Box W w.heap.size 98 (.slice oa d.length oc) ∧ OwnBB W (w.heap.size + 5) oa d.length oc d ∧ Box W (w.heap.size + 1) 3 (.int .i64 (sOf d)) ∧ Box W (w.heap.size + 2) 3 (.int .i64 (4 * (d.length : Int))) ∧ Below w.heap.size w W ∧ w.heap.size + 5 ≤ W.heap.size
def Left (w : World) (W : World) (l1 l2 : List UInt8) : Prop :=
  ∃ sa sc fa fc, Box W (w.heap.size + 3) 41 (.slice sa l1.length sc) ∧ RdB w sa l1.length sc l1 ∧ Box W (w.heap.size + 4) 41 (.slice fa l2.length fc) ∧ RdB w fa l2.length fc l2

theorem Told.same {w W W' : World} {d : List (List UInt8)} (h : Told w W d) {S : Nat → Prop} (hs : Same S W W') (hS : ∀ k, S k → w.heap.size + 3 ≤ k)
    (hd : ∀ b cur fr, S b → (W.heap[b]? ≠ some (.cells cur 41 fr) ∨ b < w.heap.size + 5) ∧ W.heap[b]? ≠ some (.cells cur 5 fr)) : Told w W' d := by
  obtain ⟨oa, oc, h1, h2, h3, h4, h5, h6⟩ := h
  exact ⟨oa, oc, h1.same hs (fun e => by have := hS _ e; omega), h2.same hs (fun b cur fr hb => (hd b cur fr hb).1) (fun b cur fr hb => (hd b cur fr hb).2),
    h3.same hs (fun e => by have := hS _ e; omega), h4.same hs (fun e => by have := hS _ e; omega), hs.below h5 h5.size (fun k e => by have := hS k e; omega), Nat.le_trans h6 hs.size⟩
theorem Left.same {w W W' : World} {l1 l2 : List UInt8} (h : Left w W l1 l2) {S : Nat → Prop} (hs : Same S W W') (h3 : ¬ S (w.heap.size + 3)) (h4 : ¬ S (w.heap.size + 4)) : Left w W' l1 l2 := by
  obtain ⟨sa, sc, fa, fc, k1, k2, k3, k4⟩ := h
  exact ⟨sa, sc, fa, fc, k1.same hs h3, k2, k3.same hs h4, k4⟩

theorem Told.putObj {w W : World} {d : List (List UInt8)} (h : Told w W d) (o : Loop) (hl : ∃ r, W.heap[w.heap.size + 5 + 1]? = some (.loop r)) : Told w (W.putObj (w.heap.size + 5 + 1) (.loop o)) d := by
  obtain ⟨r, hl⟩ := hl
  refine h.same (S := fun k => k = w.heap.size + 5 + 1) (Same.of_grown (grownBy_putObj' W _ _) (fun k e => by cases e; rfl)) (fun k e => by omega) (fun b cur fr hb => ?_)
  subst hb
  rw [hl]
  exact ⟨.inl (by simp), by simp⟩
theorem Left.putObj {w W : World} {l1 l2 : List UInt8} (h : Left w W l1 l2) (o : Loop) : Left w (W.putObj (w.heap.size + 5 + 1) (.loop o)) l1 l2 :=
  h.same (S := fun k => k = w.heap.size + 5 + 1) (Same.of_grown (grownBy_putObj' W _ _) (fun k e => by cases e; rfl)) (by omega) (by omega)
theorem Told.below {w W W' : World} {d : List (List UInt8)} (h : Told w W d) (hb : Below W.heap.size W W') : Told w W' d :=
  h.same (S := fun _ => False) (Same.of_below hb) (fun _ e => e.elim) (fun _ _ _ e => e.elim)
theorem Left.below {w W W' : World} {l1 l2 : List UInt8} (h : Left w W l1 l2) (hb : Below W.heap.size W W') : Left w W' l1 l2 :=
  h.same (S := fun _ => False) (Same.of_below hb) id id

theorem Told.step {w W W3 : World} {d : List (List UInt8)} {b : List UInt8} {oa a' : Option Addr} {oc c' : Nat} (h1 : Box W w.heap.size 98 (.slice oa d.length oc)) (h3 : Box W (w.heap.size + 1) 3 (.int .i64 (sOf d)))
    (h4 : Box W (w.heap.size + 2) 3 (.int .i64 (4 * (d.length : Int)))) (h5 : Below w.heap.size w W) (h6 : w.heap.size + 5 ≤ W.heap.size) (hs : Same (fun k => w.heap.size + 5 ≤ k) W W3)
    (ho : OwnBB W3 (w.heap.size + 5) a' (d.length + 1) c' (d ++ [b])) :
    Told w (((W3.setCell ⟨w.heap.size, 0, none⟩ (.slice a' (d.length + 1) c')).setCell ⟨w.heap.size + 1, 0, none⟩ (.int .i64 ((sOf d : Int) + ((b.length : Int) + 2)))).setCell ⟨w.heap.size + 1 + 1, 0, none⟩ (.int .i64 (4 * (d.length : Int) + 4))) (d ++ [b]) := by
  have k1 := h1.same hs (by omega)
  have k3 := h3.same hs (by omega)
  have k4 := h4.same hs (by omega)
  have hA := Same.setCell (S := fun k => k = w.heap.size ∨ k = w.heap.size + 1 ∨ k = w.heap.size + 2) (W := W3) (b := w.heap.size) (.slice a' (d.length + 1) c') (.inl rfl)
  have hB := Same.setCell (S := fun k => k = w.heap.size ∨ k = w.heap.size + 1 ∨ k = w.heap.size + 2) (W := W3.setCell ⟨w.heap.size, 0, none⟩ (.slice a' (d.length + 1) c')) (b := w.heap.size + 1) (.int .i64 ((sOf d : Int) + ((b.length : Int) + 2))) (.inr (.inl rfl))
  have hC := Same.setCell (S := fun k => k = w.heap.size ∨ k = w.heap.size + 1 ∨ k = w.heap.size + 2) (W := (W3.setCell ⟨w.heap.size, 0, none⟩ (.slice a' (d.length + 1) c')).setCell ⟨w.heap.size + 1, 0, none⟩ (.int .i64 ((sOf d : Int) + ((b.length : Int) + 2)))) (b := w.heap.size + 1 + 1) (.int .i64 (4 * (d.length : Int) + 4)) (.inr (.inr rfl))
  have hall := (hA.trans hB).trans hC
  have hlen : (d ++ [b]).length = d.length + 1 := by simp
  refine ⟨a', c', ?_, ?_, ?_, ?_, ?_, ?_⟩
  · rw [hlen]
    exact ((k1.set _).set_other _ (by omega)).set_other _ (by omega)
  · rw [hlen]
    refine ho.same hall (fun q cur fr hq => .inr (by omega)) (fun q cur fr hq => ?_)
    rcases hq with rfl | rfl | rfl
    · rw [show W3.heap[w.heap.size]? = _ from k1]; simp
    · rw [show W3.heap[w.heap.size + 1]? = _ from k3]; simp
    · rw [show W3.heap[w.heap.size + 2]? = _ from k4]; simp
  · have e : ((sOf (d ++ [b]) : Nat) : Int) = (sOf d : Int) + ((b.length : Int) + 2) := by rw [sOf_snoc]; omega
    rw [e]
    exact ((k3.set_other _ (by omega)).set _).set_other _ (by omega)
  · have e : (4 * ((d ++ [b]).length : Int)) = 4 * (d.length : Int) + 4 := by rw [hlen]; omega
    rw [e]
    exact ((k4.set_other _ (by omega)).set_other _ (by omega)).set _
  · exact hall.below (hs.below h5 h5.size (fun k e => by omega)) (Nat.le_trans h5.size hs.size) (fun k e => by omega)
  · exact Nat.le_trans h6 (Nat.le_trans hs.size hall.size)


def boxLen (W : World) (b : Nat) : Nat := match W.cell? ⟨b, 0, none⟩ with | some (.slice _ n _) => n | _ => 0
theorem Left.boxLen {w W : World} {l1 l2 : List UInt8} (h : Left w W l1 l2) : boxLen W (w.heap.size + 4) = l2.length := by
  obtain ⟨sa, sc, fa, fc, k1, k2, k3, k4⟩ := h
  simp [Go.Proofs.YtlnhppgfhkkidaaGreat.boxLen, k3.cell]

theorem or_bytes (x y : Nat) (hx : x < 256) (hy : y < 256) : bits .or .i64 (x : Int) ((y : Int) * 256) = ((x + 256 * y : Nat) : Int) := by
  have h := (bits_nat .i64 16 (by decide) (fun n h0 h1 => by rw [IntKind.wrap_i64]; omega) x (256 * y) (by omega) (by omega)).2
  have e : (256 * y : Nat) = 2 ^ 8 * y := by omega
  rw [show ((y : Int) * 256) = ((256 * y : Nat) : Int) by omega, h, Nat.or_comm, e, ← Nat.two_pow_add_eq_or_of_lt (by omega) y]
  omega

theorem cut_eq {w : World} {xa : Option Addr} {n c : Nat} {l : List UInt8} (hrd : RdB w xa n c l) (L H : Nat) (lo hi : Option Value)
    (hl : (lo = none ∧ L = 0) ∨ ∃ kd, lo = some (.int kd (L : Int))) (hh : (hi = none ∧ H = n) ∨ ∃ kd, hi = some (.int kd (H : Int))) (h1 : L ≤ H) (h2 : H ≤ n) :
    ∃ a', (∀ W, (Instr.sliceAt 41 (.slice xa n c) lo hi none).run Tryz.prog W = .ok (.slice a' (H - L) (c - L)) W) ∧ RdB w a' (H - L) (c - L) ((l.drop L).take (H - L)) := by
  obtain ⟨i, hi', hz0, hz1, hz2⟩ := info_parts infoByte
  obtain ⟨a', hs, hr⟩ := RdA.sliced hrd L H h1 h2
  have hnc := hrd.2.1
  refine ⟨a', fun W => ?_, ?_⟩
  · rw [← hs]
    have hel : Tryz.prog.elem 41 = 5 := by simp [Program.elem, Tryz.underlying41]
    rw [run_sliceAt_slice (P := Tryz.prog) W 41 _ _ _ _ (by rw [hel]; exact Tryz.underlying41), run_slice_any (P := Tryz.prog) W 41 xa n c (by rw [hel]; exact Tryz.underlying41)]
    have hb : (Instr.sliceBounds true n c lo hi none).run Tryz.prog W = .ok (L, H, c) W := by
      rcases hl with ⟨rfl, rfl⟩ | ⟨kd, rfl⟩ <;> rcases hh with ⟨rfl, rfl⟩ | ⟨kd', rfl⟩
      · simp [Instr.sliceBounds]
      · simp [Instr.sliceBounds, run_sliceBound, Result.andThen, (by omega : H ≤ c)]
      · simp [Instr.sliceBounds, run_sliceBound, Result.andThen, h1]
      · simp [Instr.sliceBounds, run_sliceBound, Result.andThen, (by omega : H ≤ c), h1]
    rw [hb, hel]
    simp [Result.andThen, sizeOf, typeInfo, hi', hz1]
  · unfold RdB
    rw [List.map_take, List.map_drop]
    simpa using hr

theorem Left.step {w W : World} {d : List (List UInt8)} {m1 m2 : List UInt8} {v1 v2 : Value} (hT : Told w W d) (j1 : Box W (w.heap.size + 3) 41 v1) (j3 : Box W (w.heap.size + 4) 41 v2)
    {na ma : Option Addr} {nn mn nc mc : Nat} (h1 : RdB w na nn nc m1) (h2 : RdB w ma mn mc m2) {rec : LoopState → Option Code → Loop} (hl : LoopAt rec (w.heap.size + 5) .ready none W) :
    Told w ((W.setCell ⟨w.heap.size + 3, 0, none⟩ (.slice na nn nc)).setCell ⟨w.heap.size + 4, 0, none⟩ (.slice ma mn mc)).drew d ∧
    Left w ((W.setCell ⟨w.heap.size + 3, 0, none⟩ (.slice na nn nc)).setCell ⟨w.heap.size + 4, 0, none⟩ (.slice ma mn mc)).drew m1 m2 ∧
    LoopAt rec (w.heap.size + 5) .ready none ((W.setCell ⟨w.heap.size + 3, 0, none⟩ (.slice na nn nc)).setCell ⟨w.heap.size + 4, 0, none⟩ (.slice ma mn mc)).drew := by
  have hA := Same.setCell (S := fun k => k = w.heap.size + 3 ∨ k = w.heap.size + 4) (W := W) (b := w.heap.size + 3) (.slice na nn nc) (.inl rfl)
  have hB := Same.setCell (S := fun k => k = w.heap.size + 3 ∨ k = w.heap.size + 4) (W := W.setCell ⟨w.heap.size + 3, 0, none⟩ (.slice na nn nc)) (b := w.heap.size + 4) (.slice ma mn mc) (.inr rfl)
  have hC := (hA.trans hB)
  have hall : Same (fun k => k = w.heap.size + 3 ∨ k = w.heap.size + 4) W ((W.setCell ⟨w.heap.size + 3, 0, none⟩ (.slice na nn nc)).setCell ⟨w.heap.size + 4, 0, none⟩ (.slice ma mn mc)).drew := ⟨hC.os, hC.tape, hC.output, hC.size, hC.block⟩
  refine ⟨hT.same hall (fun k e => by omega) (fun b cur fr hb => ?_), ?_, ?_⟩
  · rcases hb with rfl | rfl
    · rw [show W.heap[w.heap.size + 3]? = _ from j1]
      exact ⟨.inr (by omega), by simp⟩
    · rw [show W.heap[w.heap.size + 4]? = _ from j3]
      exact ⟨.inr (by omega), by simp⟩
  · obtain rfl := h1.len
    obtain rfl := h2.len
    exact ⟨na, nc, ma, mc, (j1.set _).set_other _ (by omega), h1, (j3.set_other _ (by omega)).set _, h2⟩
  · exact ⟨(hall.block _ (Array.getElem?_eq_some_iff.1 hl.1).1 (by omega)).trans hl.1, (hall.block _ (Array.getElem?_eq_some_iff.1 hl.2).1 (by omega)).trans hl.2⟩

theorem OwnBB.cells {W : World} {base : Nat} {a : Option Addr} {n c : Nat} {ls : List (List UInt8)} (h : OwnBB W base a n c ls) : ∀ (j : Nat) (o : Obj), Value.ownBlock (.slice a n c) = some j → W.heap[j]? = some o → o.isCells = true := by
  obtain ⟨vs, h1, _⟩ := h
  intro j o hj ho
  rcases h1.2 with ⟨h2, _⟩ | ⟨g, cap, cur, h2, _, hg, _⟩
  · rw [h2] at hj; simp [Value.ownBlock] at hj
  · rw [h2] at hj
    simp only [Value.ownBlock, Option.some.injEq] at hj
    subst hj
    rw [hg] at ho
    cases ho
    rfl
theorem OwnBB.mono {W : World} {base B : Nat} {a : Option Addr} {n c : Nat} {ls : List (List UInt8)} (h : OwnBB W base a n c ls) (hB : B ≤ base) : OwnBB W B a n c ls := by
  obtain ⟨vs, h1, h2, h3⟩ := h
  exact ⟨vs, own_mono h1 hB, h2, h3⟩
theorem Left.step3 {w W W3 : World} {l1 l2 : List UInt8} (h : Left w W l1 l2) (hs : Same (fun k => w.heap.size + 5 ≤ k) W W3) (v0 v1 v2 : Value) :
    Left w (((W3.setCell ⟨w.heap.size, 0, none⟩ v0).setCell ⟨w.heap.size + 1, 0, none⟩ v1).setCell ⟨w.heap.size + 1 + 1, 0, none⟩ v2) l1 l2 := by
  obtain ⟨sa, sc, fa, fc, k1, k2, k3, k4⟩ := h
  have j1 := k1.same hs (by omega)
  have j3 := k3.same hs (by omega)
  exact ⟨sa, sc, fa, fc, ((j1.set_other _ (by omega)).set_other _ (by omega)).set_other _ (by omega), k2, ((j3.set_other _ (by omega)).set_other _ (by omega)).set_other _ (by omega), k4⟩

structure YieldSt where
  d : List (List UInt8)
  l1 : List UInt8
  l2 : List UInt8
  b : List UInt8
  xa : Option Addr
  xc : Nat

def AtYield (w : World) (s : YieldSt) (W : World) : Prop :=
  Told w W s.d ∧ Left w W s.l1 s.l2 ∧ W.ownsRow 0 5 1 (.slice s.xa s.b.length s.xc) s.b.length (s.b.map byteV) ∧ s.d.length + 1 ≤ 4194304 ∧ sOf s.d ≤ 16777216 ∧ s.b.length ≤ 16777216

theorem LoopAt.below {rec : LoopState → Option Code → Loop} {D : Nat} {st : LoopState} {pe : Option Code} {W W' : World} (h : LoopAt rec D st pe W) (hb : Below W.heap.size W W') : LoopAt rec D st pe W' :=
  ⟨(hb.block _ (Array.getElem?_eq_some_iff.1 h.1).1).trans h.1, (hb.block _ (Array.getElem?_eq_some_iff.1 h.2).1).trans h.2⟩

set_option maxHeartbeats 2000000 in
theorem iter_any (k : Nat) (w : World) (st fo : List UInt8) (hst : st.length ≤ 16777216) (hfo : fo.length ≤ 16777216) (rec : LoopState → Option Code → Loop) (W1 : World) (h0 : Told w W1 []) (hL : Left w W1 st fo) (hl : LoopAt rec (w.heap.size + 5) .ready none W1)
    (hY : ∀ s W, AtYield w s W → LoopAt rec (w.heap.size + 5) .ready none W → YieldAt Fence.wide (k - 1) Tryz.prog (w.heap.size + 5 + 1) #[.slice s.xa s.b.length s.xc] W fun e W' =>
        (e = .returned (.bool true) ∧ (Told w W' (s.d ++ [s.b]) ∧ Left w W' s.l1 s.l2) ∧ LoopAt rec (w.heap.size + 5) .ready none W') ∨ (∃ c, e = .returned (.bool false) ∧ False ∧ LoopAt rec (w.heap.size + 5) .done (some c) W')) :
    CallsIn Fence.wide k Tryz.prog 163 #[.func (.yield (w.heap.size + 5 + 1)) #[] #[], .pointer (some ⟨w.heap.size + 3, 0, none⟩), .pointer (some ⟨w.heap.size + 4, 0, none⟩)] W1 fun e W' =>
        (∃ v, e = .returned v) ∧ ((Told w W' (joinOf st fo) ∧ LoopAt rec (w.heap.size + 5) .ready none W') ∨ (∃ c : Code, False ∧ LoopAt rec (w.heap.size + 5) .done (some c) W')) := by
  refine callsIn_of_wp Tryz.func163 rfl trivial ?_
  simp only [Tryz.ntmps163, List.size_toArray, List.length_cons, List.length_nil, Nat.reduceAdd, Nat.reduceSub, Array.replicate_succ, Array.replicate_zero, List.push_toArray, List.append_toArray, List.nil_append, List.cons_append]
  gi_wp2
  gi_loopw [4, 5, 6, 7] (fun _ _ _ _ wr => ∃ (d : List (List UInt8)) (l1 l2 : List UInt8), Told w wr d ∧ Left w wr l1 l2 ∧ LoopAt rec (w.heap.size + 5) .ready none wr ∧ Hid (joinOf st fo = d ++ joinOf l1 l2) ∧ Hid (sOf d + l1.length = st.length) ∧ Hid (4 * d.length + l2.length = fo.length)) (fun _ _ _ _ wr => boxLen wr (w.heap.size + 4))
  case atStart => exact ⟨[], st, fo, h0, hL, hl, show _ = _ by simp, show _ = _ by simp [sOf], show _ = _ by simp⟩
  case round =>
    obtain ⟨d, l1, l2, hT, hLf, hla, HJ, HS, HD⟩ := hrel
    have hbl := Lib.hid hLf.boxLen
    obtain ⟨sa, sc, fa, fc, k1, k2, k3, k4⟩ := hLf
    have c1 := k1.cell
    have c2 := k3.cell
    have m1 := RdA.maxn k2
    have m2 := RdA.maxn k4
    have hbw : Below w.heap.size w wr := by obtain ⟨_, _, _, _, _, _, h, _⟩ := hT; exact h
    have HE : Hid (¬ CanJoin l1 l2 0 0 → joinOf st fo = d) := by
      intro h
      have := join_stop h
      rw [List.drop_zero, List.drop_zero] at this
      rw [HJ.out, this, List.append_nil]
    by_cases h1 : 2 ≤ l1.length
    · by_cases h2 : 4 ≤ l2.length
      · have g1 : decide ((2 : Int) ≤ (l1.length : Int)) = true := by simp; omega
        have g2 : decide ((4 : Int) ≤ (l2.length : Int)) = true := by simp; omega
        have k2w := k2.below hbw
        have k4w := k4.below hbw
        obtain ⟨b, off, rfl, hc⟩ := k2w.at (by omega)
        have hc0 := hc 0 (by omega)
        have hc1 := hc 1 (by omega)
        rw [Nat.add_zero] at hc0
        clear hc
        have q1 : (0 : Int) < (l1.length : Int) := by omega
        have q2 : (1 : Int) < (l1.length : Int) := by omega
        have q3 := byte_toNat l1 0
        have q4 := byte_toNat l1 1
        gi_wp2
        gi_quiet (fail)
        have hor := or_bytes (l1[0]?.getD 0).toNat (l1[1]?.getD 0).toNat (by omega) (by omega)
        have hN := atN_lt l1 0
        have hat : (l1[0]?.getD 0).toNat + 256 * (l1[1]?.getD 0).toNat = atN l1 0 := rfl
        rw [hat] at hor
        rw [hor]
        clear hor hat hc0 hc1 q3 q4
        generalize hNe : atN l1 0 = N at *
        have HN := Lib.hid hNe; clear hNe
        have hT1 := hT.below (below_drewN (Below.refl _ _) nq)
        have hla1 := hla.below (below_drewN (Below.refl _ _) nq)
        have k1' : Box (wr.drewN nq) (w.heap.size + 3) 41 _ := k1
        have k3' : Box (wr.drewN nq) (w.heap.size + 4) 41 _ := k3
        by_cases h3 : N ≤ 8192
        · have g3 : decide ((8192 : Int) < (N : Int)) = false := by simp; omega
          by_cases h4 : N + 2 ≤ l1.length
          · have g4 : decide ((l1.length : Int) < (N : Int) + 2) = false := by simp; omega
            obtain ⟨ba, hcut, hbr⟩ := cut_eq k2 2 (N + 2) (some (.int .i64 2)) (some (.int .i64 ((N : Int) + 2))) (.inr ⟨_, rfl⟩) (.inr ⟨_, by go_num⟩) (by omega) h4
            have hBe : (l1.drop 2).take (N + 2 - 2) = bodyAt l1 0 := by rw [bodyAt, HN.out, Nat.zero_add, Nat.add_sub_cancel]
            have hkb : RdB w ba N (sc - 2) (bodyAt l1 0) := by rw [hBe, Nat.add_sub_cancel] at hbr; exact hbr
            have hBl : (bodyAt l1 0).length = N := hkb.len
            have HB := Lib.hid hBl; clear hBl
            have hbw2 : Below w.heap.size w (wr.drewN nq) := below_drewN hbw nq
            obtain ⟨fa4, hcutf, hbf⟩ := cut_eq k4 0 4 none (some (.int .i64 4)) (.inl ⟨rfl, rfl⟩) (.inr ⟨_, rfl⟩) (by omega) h2
            clear hbr hBe k1 k3 hla hT k2w k4w
            gi_wp2_with fail
            clear c1 c2
            generalize wr.drewN nq = W2 at *
            refine ⟨trivial, fun h => by simp [Fence.wide] at h, ?_⟩
            refine (callsIn_wide.2 (halves_any _ _ _ (bodyAt l1 0) _ (hkb.below hbw2) (by omega))).mono ?_
            rintro e W3 ⟨a1, c1, a2, c2, rfl, hw1, hw2', hb3⟩
            have hw2 := RdB.of_own hw2'
            clear hw2'
            have hT3 := hT1.below hb3
            have hla3 := hla1.below hb3
            have k13 := k1'.same (Same.of_below (S := fun _ => False) hb3) id
            have k33 := k3'.same (Same.of_below (S := fun _ => False) hb3) id
            have hbw3 := hbw2.trans (hb3.mono hbw2.size)
            have d1 := k13.cell
            have d2 := k33.cell
            clear hT1 hla1 k1' k3' hw1
            gi_wp2_with fail
            refine ⟨trivial, fun h => by simp [Fence.wide] at h, ?_⟩
            refine (callsIn_wide.2 (equal_any _ _ _ _ _ _ _ _ _ hw2 (hbf.below hbw3))).mono ?_
            rintro e W4 ⟨bq, rfl, hiff, q, rfl⟩
            have hiff' : bq = true ↔ CanJoin l1 l2 0 0 := by
              rw [hiff, canJoin_iff]
              simp only [List.drop_zero, Nat.sub_zero]
              constructor
              · intro h
                exact ⟨h1, h2, by rw [HN.out]; exact h3, by rw [HN.out]; exact h4, by rw [← h, HN.out]; simp only [bodyAt, HN.out, Nat.zero_add]⟩
              · intro h
                rw [h.2.2.2.2, HN.out]; simp only [bodyAt, HN.out, Nat.zero_add]
            have HI := Lib.hid hiff'
            clear hiff hiff' hw2
            have hbq : Below W3.heap.size W3 (W3.drewN q) := below_drewN (Below.refl _ _) q
            have hT4 := hT3.below hbq
            have hla4 := hla3.below hbq
            have hbw4 := hbw3.trans (hbq.mono hbw3.size)
            have k14 := k13.same (Same.of_below (S := fun _ => False) hbq) id
            have k34 := k33.same (Same.of_below (S := fun _ => False) hbq) id
            clear hT3 hla3 k13 k33 hbf hb3
            cases bq with
            | false =>
              gi_wp2
              refine ⟨trivial, ?_⟩
              gi_wp2
              refine ⟨fun _ h => (by cases h), ?_⟩
              gi_wp2
              refine bodyPost_ret (results_none rfl _ _ _) rfl ?_
              exact ⟨⟨_, rfl⟩, .inl ⟨by rw [HE.out (fun h => by have := HI.out.2 h; cases this)]; exact hT4, hla4⟩⟩
            | true =>
              gi_wp2_with fail
              generalize W3.drewN q = W4 at *
              refine ⟨trivial, fun h => by simp [Fence.wide] at h, ?_⟩
              refine (callsIn_wide.2 (clone_any _ _ _ _ _ (by omega) (hkb.below hbw4))).mono ?_
              rintro e W5 ⟨xa, xc, rfl, hox, hb5⟩
              have hT5 := hT4.below hb5
              have hla5 := hla4.below hb5
              have k15 := k14.same (Same.of_below (S := fun _ => False) hb5) id
              have k35 := k34.same (Same.of_below (S := fun _ => False) hb5) id
              have hL5 : Left w W5 l1 l2 := ⟨_, _, _, _, k15, k2, k35, k4⟩
              have hox5 : W5.ownsRow 0 5 1 (.slice xa (bodyAt l1 0).length xc) (bodyAt l1 0).length ((bodyAt l1 0).map byteV) := by
                rw [HB.out]; exact own_mono hox (Nat.zero_le _)
              obtain ⟨fn, tmps, assign, body, hy, hR⟩ := hY ⟨d, l1, l2, bodyAt l1 0, xa, xc⟩ W5 ⟨hT5, hL5, hox5, by have := HD.out; show d.length + 1 ≤ _; omega, by have := HS.out; show sOf d ≤ _; omega, by show (bodyAt l1 0).length ≤ _; rw [HB.out]; omega⟩ hla5
              dsimp only at hy
              rw [HB.out] at hy
              clear hox hox5 hL5 hT5 hT4 hla4 hla5 k14 k34 k15 k35 hb5 d1 d2
              gi_wp2_with fail
              refine ⟨fun h => by simp [Fence.wide] at h, ?_⟩
              refine hR.mono ?_
              rintro e W6 (⟨rfl, ⟨hT6, hL6⟩, hla6⟩ | ⟨c, _, hf, _⟩)
              · clear hR hy
                obtain ⟨sa', sc', fa', fc', j1, j2, j3, j4⟩ := hL6
                obtain ⟨na, hcn, hrn⟩ := cut_eq j2 (N + 2) l1.length (some (.int .i64 ((N : Int) + 2))) none (.inr ⟨_, by go_num⟩) (.inl ⟨rfl, rfl⟩) h4 (Nat.le_refl _)
                obtain ⟨ma, hcm, hrm⟩ := cut_eq j4 4 l2.length (some (.int .i64 4)) none (.inr ⟨_, rfl⟩) (.inl ⟨rfl, rfl⟩) h2 (Nat.le_refl _)
                have d1 := j1.cell
                have d2 := j3.cell
                have f1 := j1.free
                have f2 := j3.free
                gi_wp2
                gi_region
                have hrn' : RdB w na (l1.length - (N + 2)) (sc' - (N + 2)) (l1.drop (N + 2)) := by
                  rw [List.take_of_length_le (by simp)] at hrn; exact hrn
                have hrm' : RdB w ma (l2.length - 4) (fc' - 4) (l2.drop 4) := by
                  rw [List.take_of_length_le (by simp)] at hrm; exact hrm
                obtain ⟨hT7, hL7, hla7⟩ := Left.step hT6 j1 j3 hrn' hrm' hla6
                have hgo := join_go (HI.out.1 trivial)
                rw [List.drop_zero, List.drop_zero, HN.out, Nat.zero_add, Nat.zero_add, Nat.add_comm 2 N] at hgo
                have HG := Lib.hid hgo
                have HB7 := Lib.hid hL7.boxLen
                clear hgo j1 j2 j3 j4 hcn hrn hcm hrm d1 d2 f1 f2 hrn' hrm' hT6 hla6
                have E1 : Hid (joinOf st fo = (d ++ [bodyAt l1 0]) ++ joinOf (l1.drop (N + 2)) (l2.drop 4)) := by
                  show _ = _
                  rw [HJ.out, HG.out, List.append_assoc]; rfl
                have E2 : Hid (sOf (d ++ [bodyAt l1 0]) + (l1.drop (N + 2)).length = st.length) := by
                  show _ = _
                  rw [sOf_snoc, HB.out, List.length_drop, ← HS.out]; omega
                have E3 : Hid (4 * (d ++ [bodyAt l1 0]).length + (l2.drop 4).length = fo.length) := by
                  show _ = _
                  rw [List.length_append, List.length_drop, ← HD.out]; simp; omega
                go_roundw
                case rel =>
                  (repeat apply Exists.intro)
                  exact ⟨⟨d ++ [bodyAt l1 0], l1.drop (N + 2), l2.drop 4, hT7, hL7, hla7, E1, E2, E3⟩, rfl⟩
                case measure => rw [HB7.out, hbl.out, List.length_drop]; omega
              · exact hf.elim
          · have g4 : decide ((l1.length : Int) < (N : Int) + 2) = true := by simp; omega
            gi_wp2
            refine bodyPost_ret (results_none rfl _ _ _) rfl ?_
            exact ⟨⟨_, rfl⟩, .inl ⟨by rw [HE.out (fun h => h4 (by have := h.2.2.2.1; rw [HN.out] at this; omega))]; exact hT1, hla1⟩⟩
        · have g3 : decide ((8192 : Int) < (N : Int)) = true := by simp; omega
          gi_wp2
          refine bodyPost_ret (results_none rfl _ _ _) rfl ?_
          exact ⟨⟨_, rfl⟩, .inl ⟨by rw [HE.out (fun h => h3 (by have := h.2.2.1; rw [HN.out] at this; omega))]; exact hT1, hla1⟩⟩
      · have g1 : decide ((2 : Int) ≤ (l1.length : Int)) = true := by simp; omega
        have g2 : decide ((4 : Int) ≤ (l2.length : Int)) = false := by simp; omega
        gi_wp2
        go_end0
        exact ⟨⟨_, rfl⟩, .inl ⟨by rw [HE.out (fun h => h2 (by have := h.2.1; omega))]; exact hT, hla⟩⟩
    · have g1 : decide ((2 : Int) ≤ (l1.length : Int)) = false := by simp; omega
      gi_wp2
      go_end0
      exact ⟨⟨_, rfl⟩, .inl ⟨by rw [HE.out (fun h => h1 (by have := h.1; omega))]; exact hT, hla⟩⟩

set_option maxHeartbeats 2000000 in
theorem join_any (a : Option Addr) (n c : Nat) (st : List UInt8) (a' : Option Addr) (n' c' : Nat) (fo : List UInt8) (w : World) (hr : RdB w a n c st) (hr' : RdB w a' n' c' fo) (hn : n ≤ 16777216) (hn' : n' ≤ 16777216) :
    Calls Tryz.prog 47 #[.slice a n c, .slice a' n' c'] w fun e w' => ∃ oa oc, e = .returned (.tuple #[.slice oa (joinOf st fo).length oc, .int .i64 (sOf (joinOf st fo)), .int .i64 (4 * ((joinOf st fo).length : Int))]) ∧
      OwnBB w' w.heap.size oa (joinOf st fo).length oc (joinOf st fo) ∧ Below w.heap.size w w' := by
  have hl := hr.len
  have hl' := hr'.len
  have hst : st.length ≤ 16777216 := by omega
  have hfo : fo.length ≤ 16777216 := by omega
  subst hl
  subst hl'
  refine (callsIn_wide (n := 4)).1 ?_
  refine callsIn_of_wp_marks Tryz.func47 rfl trivial ?_
  simp only [Tryz.ntmps47, List.size_toArray, List.length_cons, List.length_nil, Nat.reduceAdd, Nat.reduceSub, Array.replicate_succ, Array.replicate_zero, List.push_toArray, List.append_toArray, List.nil_append, List.cons_append]
  gi_wp2_with (refine ⟨trivial, ?_⟩; gi_at_call 108; refine (callsIn_wide.2 (tallies_any _ _ ⟨_, _, _, rfl⟩ ⟨_, _, _, rfl⟩ _)).mono ?_; rintro e w' ⟨rfl, rfl⟩)
  have hsz : (((((w.alloc (.cells #[.slice none 0 0] 98)).alloc (.cells #[.int .i64 0] 3)).alloc (.cells #[.int .i64 0] 3)).alloc (.cells #[.slice a st.length c] 41)).alloc (.cells #[.slice a' fo.length c'] 41)).heap.size = w.heap.size + 5 := by simp
  have hbl : Below w.heap.size w (((((w.alloc (.cells #[.slice none 0 0] 98)).alloc (.cells #[.int .i64 0] 3)).alloc (.cells #[.int .i64 0] 3)).alloc (.cells #[.slice a st.length c] 41)).alloc (.cells #[.slice a' fo.length c'] 41)) :=
    (((((Below.refl _ _).alloc (Nat.le_refl _) _).alloc (by simp) _).alloc (by simp; omega) _).alloc (by simp; omega) _).alloc (by simp; omega) _
  have hT : Told w (((((w.alloc (.cells #[.slice none 0 0] 98)).alloc (.cells #[.int .i64 0] 3)).alloc (.cells #[.int .i64 0] 3)).alloc (.cells #[.slice a st.length c] 41)).alloc (.cells #[.slice a' fo.length c'] 41)) [] := by
    exact ⟨none, 0, ((((Box.new w _ _ rfl).alloc _).alloc _).alloc _).alloc _, OwnBB.nil _ _, (((Box.new _ _ _ (by simp)).alloc _).alloc _).alloc _, ((Box.new _ _ _ (by simp)).alloc _).alloc _, hbl, by rw [hsz]; omega⟩
  have hL : Left w (((((w.alloc (.cells #[.slice none 0 0] 98)).alloc (.cells #[.int .i64 0] 3)).alloc (.cells #[.int .i64 0] 3)).alloc (.cells #[.slice a st.length c] 41)).alloc (.cells #[.slice a' fo.length c'] 41)) st fo := by
    exact ⟨a, c, a', c', (Box.new _ _ _ (by simp)).alloc _, hr, Box.new _ _ _ (by simp), hr'⟩
  generalize (((((w.alloc (.cells #[.slice none 0 0] 98)).alloc (.cells #[.int .i64 0] 3)).alloc (.cells #[.int .i64 0] 3)).alloc (.cells #[.slice a st.length c] 41)).alloc (.cells #[.slice a' fo.length c'] 41)) = W5 at *
  refine wp_range_own (n := 3) (σ := YieldSt) (w := W5) (gf := 163) (lb := #[.pointer (some ⟨w.heap.size + 3, 0, none⟩), .pointer (some ⟨w.heap.size + 4, 0, none⟩)]) rfl (enters_of Tryz.func163 (by kernel_rfl) rfl)
    (fun s => #[.slice s.xa s.b.length s.xc]) (fun _ => rfl) (fun s W => AtYield w s W) (fun s W => Told w W (s.d ++ [s.b]) ∧ Left w W s.l1 s.l2) (fun _ _ _ => False) (fun W => Told w W (joinOf st fo)) (fun _ _ => False) ?hA ?hB ?hX ?hD ?hS
    (fun s => { tmps := #[.slice a st.length c, .slice a' fo.length c', undef, undef, .pointer (some ⟨w.heap.size, 0, none⟩), .pointer (some ⟨w.heap.size + 1, 0, none⟩), .pointer (some ⟨w.heap.size + 1 + 1, 0, none⟩), .slice s.xa s.b.length s.xc, .slice a st.length c, .slice a' fo.length c', .func (.func 163) #[] #[.pointer (some ⟨w.heap.size + 3, 0, none⟩), .pointer (some ⟨w.heap.size + 4, 0, none⟩)], .slice s.xa s.b.length s.xc, undef, undef, undef, undef, undef, undef, undef, undef, undef, undef, undef, undef, undef, undef], defers := [] })
    ?assign ?body ?iter ?done ?stop
  case hA =>
    rw [hsz]
    rintro s W o ⟨h1, h2, h3, h4⟩ hlp
    obtain ⟨r, hr⟩ := hlp
    exact ⟨h1.putObj o ⟨r, hr⟩, h2.putObj o, ownsRow_putObj h3 _ hr rfl, h4⟩
  case hB =>
    rw [hsz]
    rintro s W o ⟨h1, h2⟩ hlp
    exact ⟨h1.putObj o hlp, h2.putObj o⟩
  case hX => intro _ _ _ _ h _; exact h.elim
  case hD =>
    rw [hsz]
    intro W o h hlp
    exact h.putObj o hlp
  case hS => intro _ _ _ h _; exact h.elim
  case assign =>
    intro s W K hs hK
    gi_wp2
    exact hK
  case body =>
    rw [hsz]
    rintro s W ⟨⟨oa, oc, t1, t2, t3, t4, t5, t6⟩, hLf, hox, hb1, hb2, hb3⟩ hlp hdp
    have b1 := t1.cell
    have b2 := t3.cell
    have b3 := t4.cell
    have e1 := t1.free
    have e2 := t3.free
    have e3 := t4.free
    have hal := (Below.refl W.heap.size W).alloc (Nat.le_refl _) (Obj.cells #[Value.slice s.xa s.b.length s.xc] 41)
    have t2' := t2.below hal
    have hy' := own_below hox hal
    gi_wp2_with (gi_at_builtin; refine app_bb1In _ rfl _ _ rfl (w.heap.size + 5) _ _ _ s.d rfl t2' W.heap.size _ _ _ s.b rfl (cell_of_one (heap_alloc_new W _)) hy' (by omega) (by simp; omega) ?_; intro a5 c5 w5 ho5 hg5; refine Hid.out ?_)
    refine Lib.hid ?_
    have hW5 : Same (fun k => w.heap.size + 5 ≤ k) W w5 := (Same.of_below hal).trans (Same.of_grown hg5 (fun k hk => (t2.lt k hk).1))
    have hko : KeepsOthers W w5 := (KeepsOthers.alloc W _).trans (KeepsOthers.of_grownBy hg5 t2'.cells)
    have u1 := t1.same hW5 (by omega)
    have u2 := t3.same hW5 (by omega)
    have u3 := t4.same hW5 (by omega)
    have b1 := u1.cell
    have b2 := u2.cell
    have b3 := u3.cell
    have e1 := u1.free
    have e2 := u2.free
    have e3 := u3.free
    have hst := Told.step t1 t3 t4 t5 t6 hW5 ho5
    have hlf := hLf.step3 hW5 (.slice a5 (s.d.length + 1) c5) (.int .i64 ((sOf s.d : Int) + ((s.b.length : Int) + 2))) (.int .i64 (4 * (s.d.length : Int) + 4))
    clear hal t2' hy' hg5 ho5 u1 u2 u3 hW5 hox t1 t2 t3 t4
    gi_wp2
    exact ⟨((hko.trans (KeepsOthers.setCell _ _ _)).trans (KeepsOthers.setCell _ _ _)).trans (KeepsOthers.setCell _ _ _) |>.from _, hst, hlf⟩
  case iter =>
    intro rec hlr hY
    rw [hsz] at hlr hY ⊢
    have hbb := ((Below.refl W5.heap.size W5).alloc (Nat.le_refl _) (.deferred (some []))).alloc (by simp) (.loop (rec .ready none))
    exact iter_any 3 w st fo hst hfo rec _ (hT.below hbb) (hL.below hbb) hlr hY
  case done =>
    rw [hsz]
    rintro W ⟨oa, oc, t1, t2, t3, t4, t5, t6⟩ hK
    have b1 := t1.cell
    have b2 := t3.cell
    have b3 := t4.cell
    have e1 := t1.free
    have e2 := t3.free
    have e3 := t4.free
    gi_wp2
    gi_region
    have hS : Same (fun k => k = w.heap.size ∨ k = w.heap.size + 1 ∨ k = w.heap.size + 2) W (((W.setCell ⟨w.heap.size, 0, none⟩ (.slice oa (joinOf st fo).length oc)).setCell ⟨w.heap.size + 1, 0, none⟩ (.int .i64 (sOf (joinOf st fo)))).setCell ⟨w.heap.size + 1 + 1, 0, none⟩ (.int .i64 (4 * ((joinOf st fo).length : Int)))).drew := by
      have h := ((Same.setCell (S := fun k => k = w.heap.size ∨ k = w.heap.size + 1 ∨ k = w.heap.size + 2) (W := W) (.slice oa (joinOf st fo).length oc) (.inl rfl)).trans (Same.setCell (.int .i64 (sOf (joinOf st fo))) (.inr (.inl rfl)))).trans (Same.setCell (.int .i64 (4 * ((joinOf st fo).length : Int))) (.inr (.inr rfl)))
      exact ⟨h.os, h.tape, h.output, h.size, h.block⟩
    have r1 : Box (((W.setCell ⟨w.heap.size, 0, none⟩ (.slice oa (joinOf st fo).length oc)).setCell ⟨w.heap.size + 1, 0, none⟩ (.int .i64 (sOf (joinOf st fo)))).setCell ⟨w.heap.size + 1 + 1, 0, none⟩ (.int .i64 (4 * ((joinOf st fo).length : Int)))).drew w.heap.size 98 _ := ((t1.set _).set_other _ (by omega)).set_other _ (by omega)
    have r2 : Box (((W.setCell ⟨w.heap.size, 0, none⟩ (.slice oa (joinOf st fo).length oc)).setCell ⟨w.heap.size + 1, 0, none⟩ (.int .i64 (sOf (joinOf st fo)))).setCell ⟨w.heap.size + 1 + 1, 0, none⟩ (.int .i64 (4 * ((joinOf st fo).length : Int)))).drew (w.heap.size + 1) 3 _ := ((t3.set_other _ (by omega)).set _).set_other _ (by omega)
    have r3 : Box (((W.setCell ⟨w.heap.size, 0, none⟩ (.slice oa (joinOf st fo).length oc)).setCell ⟨w.heap.size + 1, 0, none⟩ (.int .i64 (sOf (joinOf st fo)))).setCell ⟨w.heap.size + 1 + 1, 0, none⟩ (.int .i64 (4 * ((joinOf st fo).length : Int)))).drew (w.heap.size + 1 + 1) 3 _ := ((t4.set_other _ (by omega)).set_other _ (by omega)).set _
    have hK' := (hS.block _ (Array.getElem?_eq_some_iff.1 hK).1 (by omega)).trans hK
    have ho' := t2.same hS (fun b cur fr hb => .inr (by omega)) (fun b cur fr hb => by
      rcases hb with rfl | rfl | rfl
      · rw [show W.heap[w.heap.size]? = _ from t1]; simp
      · rw [show W.heap[w.heap.size + 1]? = _ from t3]; simp
      · rw [show W.heap[w.heap.size + 2]? = _ from t4]; simp)
    have hb' := hS.below t5 t5.size (fun k e => by omega)
    generalize (((W.setCell ⟨w.heap.size, 0, none⟩ (.slice oa (joinOf st fo).length oc)).setCell ⟨w.heap.size + 1, 0, none⟩ (.int .i64 (sOf (joinOf st fo)))).setCell ⟨w.heap.size + 1 + 1, 0, none⟩ (.int .i64 (4 * ((joinOf st fo).length : Int)))).drew = W7 at *
    gi_wp2
    refine ⟨by simp, .inl ⟨_, _, rfl, run_takeDeferred hK', ?_⟩⟩
    have hp : Same (fun k => k = w.heap.size + 5) W7 (W7.putObj (w.heap.size + 5) (.deferred none)) := Same.of_grown (grownBy_putObj' W7 _ _) (fun k e => by cases e; rfl)
    have s1 := (r1.same hp (by omega)).cell
    have s2 := (r2.same hp (by omega)).cell
    have s3 := (r3.same hp (by omega)).cell
    have hb'' := hp.below hb' hb'.size (fun k e => by omega)
    have ho'' := ho'.same hp (fun b cur fr hb => .inl (by subst hb; rw [hK']; simp)) (fun b cur fr hb => by subst hb; rw [hK']; simp)
    generalize W7.putObj (w.heap.size + 5) (.deferred none) = W8 at *
    clear hS r1 r2 r3 hp
    refine ⟨.tuple #[.slice oa (joinOf st fo).length oc, .int .i64 (sOf (joinOf st fo)), .int .i64 (4 * ((joinOf st fo).length : Int))], ?_, oa, oc, rfl, ho''.mono (by omega), hb''⟩
    simp [results, Tryz.results47, go_sem, s1, s2, s3]
  case stop => intro c W h; exact h.elim
end Go.Proofs.YtlnhppgfhkkidaaGreat
namespace Go.Proofs.YtlnhppgfhkkidaaGreat
open Go.RowKit

theorem run_append_loc {P : Program} (w : World) (base : Nat) (t ty e : TypeId) (i : TypeInfo) (z : Value) (size bytes : Nat) (ht : P.underlying t = some (.slice e)) (hi : P.info? e = some i) (hz : i.zero = some z)
    (hsize : i.size = size) (hby : i.bytes = bytes)
    (sa : Option Addr) (sn sc : Nat) (xs : List Value) (hown : w.ownsRow base e size (.slice sa sn sc) sn xs)
    (xa : Option Addr) (m xc : Nat) (ys : List Value) (hrd : RdA w size xa m xc ys) (h1 : ∀ u ∈ ys, u.oneCell' = true)
    (h63 : sn + m ≤ maxLen) (hbytes : (sn + m) * bytes ≤ 140737488355328) (v : Value) (w' : World) (hr : (Builtin.append_ #[t, t] ty #[.slice sa sn sc, .slice xa m xc]).run P w = .ok v w') :
    (∃ n' c', v = .slice sa n' c') ∨ ∃ n' c', v = .slice (some ⟨w.heap.size, 0, none⟩) n' c' := by
  subst hsize
  subst hby
  have hsmall : ((sn + m : Nat) : Int) ≤ 9223372036854775807 := by simp only [maxLen] at h63; omega
  have hkind : (xa = none ∧ m = 0 ∧ xc = 0) ∨ ∃ ad, xa = some ad ∧ ∀ j u, ys[j]? = some u → w.cell? (ad.add j) = some u := by
    rcases hrd.2.2.2 with rfl | ⟨b, off, rfl, h4⟩
    · have hm : m = 0 := by have := hrd.2.1; omega
      subst hm
      have hy : ys = [] := List.eq_nil_of_length_eq_zero (by simpa using hrd.1)
      cases xa with
      | none => exact .inl ⟨rfl, rfl, rfl⟩
      | some ad => exact .inr ⟨ad, rfl, fun j u hu => by rw [hy] at hu; simp at hu⟩
    · exact .inr ⟨_, rfl, fun j u hu => by rw [Addr.add_lit]; exact h4 j u hu⟩
  rcases hkind with ⟨rfl, rfl, rfl⟩ | ⟨ad, rfl, hnews⟩
  · rw [run_append_owned_none (P := P) (w := w) base t ty e i i.size ht hi _ sn xs hown] at hr
    cases hr
    exact .inl ⟨_, _, rfl⟩
  · rcases hown.2 with ⟨h2, rfl⟩ | ⟨g, cap, cur, h2, hbg, hg, hnc, hcm, hcs, htake⟩
    · simp only [Value.slice.injEq] at h2
      obtain ⟨rfl, _, rfl⟩ := h2
      by_cases hm : m = 0
      · subst hm
        have hy : ys = [] := List.eq_nil_of_length_eq_zero (by simpa using hrd.1)
        have hr' : (Builtin.append_ #[t, t] ty #[.slice none 0 0, .slice (some ad) 0 xc]).run P w = .ok (.slice none 0 0) w := by
          simp [Builtin.append_, run_underlying ht, sizeOf, typeInfo, hi, Builtin.lenOf, Builtin.firstCells, loadCells, loadCellsFrom]
        rw [hr'] at hr
        cases hr
        exact .inl ⟨_, _, rfl⟩
      · rw [run_append_nil (P := P) w t ty e i z ht hi hz ad m xc ys hrd.1 hnews (by omega) (by omega) (by have hb := hbytes; simp only [Nat.zero_add] at hb; omega)] at hr
        cases hr
        exact .inr ⟨_, _, rfl⟩
    · simp only [Value.slice.injEq] at h2
      obtain ⟨rfl, _, rfl⟩ := h2
      by_cases hroom : sn + m ≤ sc
      · have hfit : sn * i.size + ys.length ≤ cur.size := by rw [hrd.1, hcs, ← Nat.add_mul]; exact Nat.mul_le_mul_right _ hroom
        rw [run_append_room (P := P) w t ty e i ht hi g sn sc cur hg ad m xc ys hrd.1 hnews h1 hroom hfit] at hr
        cases hr
        exact .inl ⟨_, _, rfl⟩
      · have holds : ∀ j u, xs[j]? = some u → w.cell? ((⟨g, 0, none⟩ : Addr).add j) = some u := hown.cells (g := g) rfl
        rw [run_append_grow (P := P) w t ty e i z ht hi hz ⟨g, 0, none⟩ sn sc xs hown.1 holds ad m xc ys hrd.1 hnews (by omega) hsmall (growslice_fits (by omega) hbytes)] at hr
        cases hr
        exact .inr ⟨_, _, rfl⟩

theorem app_bytes_at (w : World) {ops : Array Oper} {rest : List Oper} {o : Oper} {a : Act} {Q : Exit → Act → World → Prop} (hgd : o.guard = none) (s x : Operand)
    (ho : o.op = .call { callee := .builtin .append, args := #[s, x], argTypes := #[41, 41] }) (base : Nat)
    (sa : Option Addr) (sn sc : Nat) (xs : List UInt8) (hs : a.eval s = .slice sa sn sc) (hown : w.ownsRow base 5 1 (.slice sa sn sc) sn (xs.map byteV))
    (xa : Option Addr) (m xc : Nat) (ys : List UInt8) (hx : a.eval x = .slice xa m xc) (hrd : RdB w xa m xc ys) (hbytes : sn + m ≤ 140737488355328) (hbase : base ≤ w.heap.size)
    (h : ∀ a' c' w', (a' = sa ∨ a' = some ⟨w.heap.size, 0, none⟩) → w'.ownsRow base 5 1 (.slice a' (sn + m) c') (sn + m) ((xs ++ ys).map byteV) → w.grownBy w' (Value.ownBlock (.slice sa sn sc)) → wpList Tryz.prog ops Q rest (a.put o.dst (.slice a' (sn + m) c')) w') :
    wpList Tryz.prog ops Q (o :: rest) a w := by
  obtain ⟨i, hi, hz0, hz1, hz2⟩ := info_parts infoByte
  refine wpList_plain hgd fun K hK => ?_
  obtain ⟨a', c', w', hr, h2, h3⟩ := run_append_rd (P := Tryz.prog) w base 41 o.type 5 i (.int .u8 0) 1 1 Tryz.underlying41 hi hz0 hz1 hz2 rfl (by decide) sa sn sc _ hown xa m xc _ hrd (byteV_one _) (by unfold maxLen; omega) (by omega) hbase
  have hloc := run_append_loc (P := Tryz.prog) w base 41 o.type 5 i (.int .u8 0) 1 1 Tryz.underlying41 hi hz0 hz1 hz2 sa sn sc _ hown xa m xc _ hrd (byteV_one _) (by unfold maxLen; omega) (by omega) _ _ hr
  have hloc' : a' = sa ∨ a' = some ⟨w.heap.size, 0, none⟩ := by
    rcases hloc with ⟨n', c'', h⟩ | ⟨n', c'', h⟩
    · simp only [Value.slice.injEq] at h; exact .inl h.1
    · simp only [Value.slice.injEq] at h; exact .inr h.1
  unfold Oper.wp
  simp [execOp, ho, resolve, invoke, builtin, hs, hx, hr, Result.andThen]
  exact hK _ _ (h a' c' w' hloc' (by rw [List.map_append]; exact h2) h3)

structure JAt (w : World) (p o : Nat) (a : Option Addr) (n c : Nat) (d : Nat) : Prop where
  c0 : w.cell? ⟨p, o, none⟩ = some (.slice a n c)
  c1 : w.cell? ⟨p, o + 1, none⟩ = some (.int .i64 d)
  f0 : w.frozen? ⟨p, o, none⟩ = false
  f1 : w.frozen? ⟨p, o + 1, none⟩ = false

theorem jsync_any (w : World) (p o : Nat) (a : Option Addr) (n c d : Nat) (h : JAt w p o a n c d) :
    Calls Tryz.prog 128 #[.pointer (some ⟨p, o, none⟩)] w fun e w' => e = .returned (.tuple #[]) ∧ w.setCell ⟨p, o + 1, none⟩ (.int .i64 n) = w' := by
  obtain ⟨c0, c1, f0, f1⟩ := h
  go_enter Tryz.func128, Tryz.ntmps128
  go_wp2
  go_end0
  exact ⟨rfl, rfl⟩

theorem jpending_any (w : World) (p o : Nat) (a : Option Addr) (n c d : Nat) (h : JAt w p o a n c d) (hd : d ≤ n) (hn : n ≤ 9223372036854775807) :
    Calls Tryz.prog 110 #[.pointer (some ⟨p, o, none⟩)] w fun e w' => e = .returned (.int .i64 ((n : Int) - d)) ∧ ∃ q, w' = w.drewN q := by
  obtain ⟨c0, c1, f0, f1⟩ := h
  go_enter Tryz.func110, Tryz.ntmps110
  go_wp2
  go_quiet (fail)
  go_wp2
  go_ret
  exact ⟨rfl, _, rfl⟩

theorem jkeep_any (w : World) (p o : Nat) (a : Option Addr) (n c d : Nat) (l : List UInt8) (h : JAt w p o a n c d) (hr : RdB w a n c l) (m : Nat) (hm : d + m ≤ n) (hn : n ≤ 16777216) :
    Calls Tryz.prog 111 #[.pointer (some ⟨p, o, none⟩), .int .i64 m] w fun e w' => e = .returned (.tuple #[]) ∧ ∃ a' c' w1, w1.ownsRow w.heap.size 5 1 (.slice a' (d + m) c') (d + m) ((l.take (d + m)).map byteV) ∧ Below w.heap.size w w1 ∧ w' = w1.setCell ⟨p, o, none⟩ (.slice a' (d + m) c') := by
  obtain ⟨c0, c1, f0, f1⟩ := h
  obtain ⟨ka, hcut, hrk⟩ := cut_eq hr 0 (d + m) none (some (.int .i64 ((d : Int) + m))) (.inl ⟨rfl, rfl⟩) (.inr ⟨_, by go_num⟩) (Nat.zero_le _) hm
  rw [Nat.sub_zero, Nat.sub_zero, List.drop_zero] at hrk
  have hw : IntKind.i64.wrap ((d : Int) + m) = (d : Int) + m := by rw [IntKind.wrap_i64]; omega
  go_enter Tryz.func111, Tryz.ntmps111
  go_wp2
  have hlt : p < w.heap.size := World.block_lt_of_cell? w ⟨p, o, none⟩ c0
  go_region_with (go_at_call 102; refine (clone_any ka (d + m) c (l.take (d + m)) _ (by omega) (hrk.below (Below.refl _ _).drew)).mono ?_; rintro e w1 ⟨a', c', rfl, ho, hb⟩; have d0 := (hb.cell (p := ⟨p, o, none⟩) hlt).trans c0; have e0 := (hb.frozen (p := ⟨p, o, none⟩) hlt).trans f0)
  all_goals
    go_end0
    exact ⟨rfl, a', c', w1, ho, (Below.refl _ _).drew.trans hb, rfl⟩

def Stk (w : World) (p : Nat) (F : Nat → Prop) (sb fb : List UInt8) (sd fd : Nat) : Prop :=
  ∃ sa sc fa fc, w.heap[p]? = some (.cells #[.slice sa sb.length sc, .int .i64 sd, .slice fa fb.length fc, .int .i64 fd] 168 (0, 0)) ∧
    w.ownsRow 0 5 1 (.slice sa sb.length sc) sb.length (sb.map byteV) ∧ w.ownsRow 0 5 1 (.slice fa fb.length fc) fb.length (fb.map byteV) ∧
    (∀ k, Value.ownBlock (.slice sa sb.length sc) = some k → Value.ownBlock (.slice fa fb.length fc) ≠ some k) ∧
    (∀ k, F k ↔ (k = p ∨ Value.ownBlock (.slice sa sb.length sc) = some k ∨ Value.ownBlock (.slice fa fb.length fc) = some k)) ∧
    sd ≤ sb.length ∧ fd ≤ fb.length ∧ sb.length ≤ 16777216 ∧ fb.length ≤ 16777216

theorem Stk.lt {w : World} {p : Nat} {F : Nat → Prop} {sb fb : List UInt8} {sd fd : Nat} (h : Stk w p F sb fb sd fd) : ∀ k, F k → k < w.heap.size := by
  obtain ⟨sa, sc, fa, fc, h1, h2, h3, h4, h5, h6⟩ := h
  intro k hk
  rcases (h5 k).1 hk with rfl | h | h
  · exact (Array.getElem?_eq_some_iff.1 h1).1
  · exact (h2.lt k h).2
  · exact (h3.lt k h).2

theorem own_keep {S : Nat → Prop} {W W' : World} {base : Nat} {e : TypeId} {k : Nat} {v : Value} {n : Nat} {xs : List Value} (h : W.ownsRow base e k v n xs) (hs : Same S W W')
    (hd : ∀ b, v.ownBlock = some b → ¬ S b) : W'.ownsRow base e k v n xs := by
  refine ⟨h.1, ?_⟩
  rcases h.2 with h | ⟨g, cap, cur, rfl, hg, hgg, hr⟩
  · exact .inl h
  · exact .inr ⟨g, cap, cur, rfl, hg, (hs.block g (Array.getElem?_eq_some_iff.1 hgg).1 (hd g rfl)).trans hgg, hr⟩

theorem Stk.same {w w' : World} {p : Nat} {F S : Nat → Prop} {sb fb : List UInt8} {sd fd : Nat} (h : Stk w p F sb fb sd fd) (hs : Same S w w') (hd : ∀ k, S k → ¬ F k) : Stk w' p F sb fb sd fd := by
  obtain ⟨sa, sc, fa, fc, h1, h2, h3, h4, h5, h6⟩ := h
  refine ⟨sa, sc, fa, fc, ?_, own_keep h2 hs (fun b hb hS => hd b hS ((h5 b).2 (.inr (.inl hb)))), own_keep h3 hs (fun b hb hS => hd b hS ((h5 b).2 (.inr (.inr hb)))), h4, h5, h6⟩
  exact (hs.block p (Array.getElem?_eq_some_iff.1 h1).1 (fun hS => hd p hS ((h5 p).2 (.inl rfl)))).trans h1

theorem newStick_any (w : World) : Calls Tryz.prog 48 #[] w fun e w' => e = .returned (.pointer (some ⟨w.heap.size, 0, none⟩)) ∧ Stk w' w.heap.size (fun k => k = w.heap.size) [] [] 0 0 ∧ Below w.heap.size w w' := by
  go_enter Tryz.func48, Tryz.ntmps48
  go_wp2
  go_ret
  exact ⟨rfl, ⟨none, 0, none, 0, heap_alloc_new w _, World.ownsRow_nil _ _ _ _, World.ownsRow_nil _ _ _ _, fun k h => by simp [Value.ownBlock] at h, fun k => by simp [Value.ownBlock], Nat.le_refl _, Nat.le_refl _, Nat.zero_le _, Nat.zero_le _⟩, (Below.refl _ _).alloc (Nat.le_refl _) _⟩

theorem own_ne {w : World} {base : Nat} {e e' : TypeId} {k : Nat} {v : Value} {n : Nat} {xs : List Value} (h : w.ownsRow base e k v n xs) {p : Nat} {cur : Array Value} {fr : Nat × Nat} (hp : w.heap[p]? = some (.cells cur e' fr)) (hne : e ≠ e') : Value.ownBlock v ≠ some p := by
  intro hk
  rcases h.2 with ⟨rfl, _⟩ | ⟨g, cap, cu, rfl, _, hg, _⟩
  · simp [Value.ownBlock] at hk
  · simp only [Value.ownBlock, Option.some.injEq] at hk
    subst hk
    rw [hg] at hp
    simp only [Option.some.injEq, Obj.cells.injEq] at hp
    exact hne hp.2.1

theorem ownBlock_loc {sa a' : Option Addr} {w : World} {n c n' c' : Nat} (h : a' = sa ∨ a' = some ⟨w.heap.size, 0, none⟩) {k : Nat} (hk : Value.ownBlock (.slice a' n' c') = some k) : Value.ownBlock (.slice sa n c) = some k ∨ k = w.heap.size := by
  rcases h with rfl | rfl
  · left
    cases a' <;> simp_all [Value.ownBlock]
  · right
    simp [Value.ownBlock] at hk
    exact hk.symm

set_option maxHeartbeats 400000 in
theorem put_any (w : World) (p : Nat) (F : Nat → Prop) (sb fb : List UInt8) (sd fd : Nat) (a : Option Addr) (n c : Nat) (l : List UInt8) (h : Stk w p F sb fb sd fd) (hr : RdB w a n c l) (hn : n < 65536)
    (hs : sb.length + n + 2 ≤ 16777216) (hf : fb.length + 4 ≤ 16777216) :
    Calls Tryz.prog 109 #[.pointer (some ⟨p, 0, none⟩), .slice a n c] w fun e w' => e = .returned (.tuple #[]) ∧ ∃ F', Stk w' p F' (sb ++ stockOf l) (fb ++ foilOf l) sd fd ∧ Same F w w' ∧ (∀ k, F' k → F k ∨ w.heap.size ≤ k) := by
  have hFlt := h.lt
  go_enter Tryz.func109, Tryz.ntmps109
  go_wp2_with fail
  refine (halves_any _ _ _ l _ hr hn).mono ?_
  rintro e w1 ⟨a1, c1, a2, c2, rfl, hw1, hw2, hb1⟩
  have h1 := h.same (S := fun _ => False) (Same.of_below hb1) (fun _ e => e.elim)
  obtain ⟨sa, sc, fa, fc, g1, g2, g3, g4, g5, g6, g7, g8, g9⟩ := h1
  have e1 : w1.cell? ⟨p, 0, none⟩ = some (.slice sa sb.length sc) := by simp [World.cell?, g1]
  have hlen := (stockOf_len l)
  have hll := hr.len
  have HLS := Lib.hid hlen; clear hlen
  have HLL := Lib.hid hll; clear hll
  have HLF := Lib.hid (foilOf_len l)
  have G4 := Lib.hid g4; clear g4
  have G5 := Lib.hid g5; clear g5
  have hFlt' := Lib.hid hFlt; clear hFlt
  have hws := RdB.of_own hw1
  go_wp2_with (at_builtin; refine app_bytes_at _ rfl _ _ rfl 0 _ _ _ sb rfl g2 _ _ _ (stockOf l) rfl hws (by rw [HLS.out, HLL.out]; omega) (Nat.zero_le _) ?_; intro sa' sc' w2 hloc ho2 hg2; refine Hid.out ?_)
  refine Lib.hid ?_
  have n1 := own_ne g2 g1 (by decide)
  have n2 := own_ne g3 g1 (by decide)
  have hp1 : p < w1.heap.size := (Array.getElem?_eq_some_iff.1 g1).1
  have p2 : w2.heap[p]? = _ := (hg2.block p hp1 (fun e => n1 e.symm)).trans g1
  have g3' : w2.ownsRow 0 5 1 (.slice fa fb.length fc) fb.length (fb.map byteV) := g3.kept hg2 (by
    cases hv : Value.ownBlock (.slice fa fb.length fc) with
    | none => exact .inl rfl
    | some k => exact .inr (fun e => G4.out k e.symm hv))
  have hw2' := hw2.kept hg2 (by
    cases hv : Value.ownBlock (.slice a2 (foilOf l).length c2) with
    | none => exact .inl rfl
    | some k => exact .inr (fun e => by
        have := (hw2.lt k hv).1
        have := hFlt'.out k ((G5.out k).2 (.inr (.inl e.symm)))
        omega))
  have hz2 := hg2.size
  have n3 := own_ne ho2 p2 (by decide)
  have e2 : w2.cell? ⟨p, 0, none⟩ = some (.slice sa sb.length sc) := by simp [World.cell?, p2]
  have e3 : w2.frozen? ⟨p, 0, none⟩ = false := by simp [World.frozen?, p2]
  have p3 := heap_setCell_same w2 p 0 _ 168 (.slice sa' (sb.length + (stockOf l).length) sc') p2
  simp only [List.setIfInBounds_toArray, List.set_cons_zero] at p3
  have s3 : Same (fun k => k = p) w2 (w2.setCell ⟨p, 0, none⟩ (.slice sa' (sb.length + (stockOf l).length) sc')) := Same.setCell _ rfl
  have ho3 := own_keep ho2 s3 (fun b hb e => n3 (by rw [hb, e]))
  have n2' := own_ne g3' p2 (by decide)
  have g33 := own_keep g3' s3 (fun b hb e => n2' (by rw [hb, e]))
  have n4 := own_ne hw2' p2 (by decide)
  have hw3 := RdB.of_own (own_keep hw2' s3 (fun b hb e => n4 (by rw [hb, e])))
  have hz3 := s3.size
  have e4 : w2.cell? ⟨p, 2, none⟩ = some (.slice fa fb.length fc) := by simp [World.cell?, p2]
  have G6 := Lib.hid p2; clear p2
  have G7 := Lib.hid p3; clear p3
  clear e1 g1 g2 g3 g3' hw1 hw2 hw2' hws
  go_wp2_with (at_builtin; refine app_bytes_at _ rfl _ _ rfl 0 _ _ _ fb rfl g33 _ _ _ (foilOf l) rfl hw3 (by rw [HLF.out]; omega) (Nat.zero_le _) ?_; intro fa' fc' w4 hloc4 ho4 hg4; refine Hid.out ?_)
  refine Lib.hid ?_
  generalize hw3e : w2.setCell ⟨p, 0, none⟩ (.slice sa' (sb.length + (stockOf l).length) sc') = w3 at *
  have HW3 := Lib.hid hw3e; clear hw3e e2 e3 e4
  have p3 := G7.out
  have m2 := own_ne g33 p3 (by decide)
  have hp3 : p < w3.heap.size := (Array.getElem?_eq_some_iff.1 p3).1
  have p4 : w4.heap[p]? = _ := (hg4.block p hp3 (fun e => m2 e.symm)).trans p3
  have e2 : w4.cell? ⟨p, 2, none⟩ = some (.slice fa fb.length fc) := by simp [World.cell?, p4]
  have e3 : w4.frozen? ⟨p, 2, none⟩ = false := by simp [World.frozen?, p4]
  have P4 := Lib.hid p4; clear p4 p3
  go_wp2_with fail
  have p5 := heap_setCell_same w4 p 2 _ 168 (.slice fa' (fb.length + (foilOf l).length) fc') P4.out
  have s5 : Same (fun k => k = p) w4 (w4.setCell ⟨p, 2, none⟩ (.slice fa' (fb.length + (foilOf l).length) fc')) :=
    Same.of_grown (row := some p) ⟨rfl, rfl, rfl, by simp [World.setCell], fun k _ hk => Below.heap_setCell w4 ⟨p, 2, none⟩ _ k (fun e => hk (by rw [e]))⟩ (fun k e => by cases e; rfl)
  generalize w4.setCell ⟨p, 2, none⟩ (.slice fa' (fb.length + (foilOf l).length) fc') = w5 at *
  have hz1 := hb1.size
  have hz4 := hg4.size
  have hfa : ∀ k, Value.ownBlock (.slice fa fb.length fc) = some k → k < w.heap.size := fun k hk => hFlt'.out k ((G5.out k).2 (.inr (.inr hk)))
  have hsa : ∀ k, Value.ownBlock (.slice sa sb.length sc) = some k → k < w.heap.size := fun k hk => hFlt'.out k ((G5.out k).2 (.inr (.inl hk)))
  have ho34 := ho3.kept hg4 (by
    cases hv : Value.ownBlock (.slice sa' (sb.length + (stockOf l).length) sc') with
    | none => exact .inl rfl
    | some k =>
      refine .inr (fun e => ?_)
      rcases ownBlock_loc (n := sb.length) (c := sc) hloc hv with h1 | h1
      · exact G4.out k h1 e.symm
      · have := hfa k e.symm
        omega)
  have ho35 := own_keep ho34 s5 (fun b hb e => n3 (by rw [hb, e]))
  have n5 := own_ne ho4 P4.out (by decide)
  have ho45 := own_keep ho4 s5 (fun b hb e => n5 (by rw [hb, e]))
  have hAll : Same F w w5 :=
    ((((Same.of_below hb1).trans (Same.of_grown hg2 (fun k hk => (G5.out k).2 (.inr (.inl hk))))).trans ⟨s3.os, s3.tape, s3.output, s3.size, fun k hk hF => s3.block k hk (fun e => hF ((G5.out k).2 (.inl e)))⟩).trans (Same.of_grown hg4 (fun k hk => (G5.out k).2 (.inr (.inr hk))))).trans ⟨s5.os, s5.tape, s5.output, s5.size, fun k hk hF => s5.block k hk (fun e => hF ((G5.out k).2 (.inl e)))⟩
  have e1 : (sb ++ stockOf l).length = sb.length + (stockOf l).length := List.length_append
  have e2 : (fb ++ foilOf l).length = fb.length + (foilOf l).length := List.length_append
  go_end0
  refine ⟨rfl, fun k => k = p ∨ Value.ownBlock (.slice sa' (sb ++ stockOf l).length sc') = some k ∨ Value.ownBlock (.slice fa' (fb ++ foilOf l).length fc') = some k, ⟨sa', sc', fa', fc', ?_, ?_, ?_, ?_, fun k => Iff.rfl, ?_, ?_, ?_, ?_⟩, hAll, ?_⟩
  · rw [e1, e2, p5]; rfl
  · rw [e1]; exact ho35
  · rw [e2]; exact ho45
  · intro k hk hk'
    rw [e1] at hk
    rw [e2] at hk'
    rcases ownBlock_loc (n := sb.length) (c := sc) hloc hk with h1 | h1 <;> rcases ownBlock_loc (n := fb.length) (c := fc) hloc4 hk' with h2 | h2
    · exact G4.out k h1 h2
    · have := hsa k h1; omega
    · have := hfa k h2; omega
    · have := (ho2.lt k hk).2; omega
  · rw [e1]; omega
  · rw [e2]; omega
  · rw [e1, HLS.out, HLL.out]; omega
  · rw [e2, HLF.out]; omega
  · rintro k (rfl | hk | hk)
    · exact .inl ((G5.out _).2 (.inl rfl))
    · rcases ownBlock_loc (n := sb.length) (c := sc) hloc hk with h1 | h1
      · exact .inl ((G5.out k).2 (.inr (.inl h1)))
      · exact .inr (by omega)
    · rcases ownBlock_loc (n := fb.length) (c := fc) hloc4 hk with h1 | h1
      · exact .inl ((G5.out k).2 (.inr (.inr h1)))
      · exact .inr (by omega)
end Go.Proofs.YtlnhppgfhkkidaaGreat
