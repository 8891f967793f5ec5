/- Parts of the proof, in this order: Rows of the call's own: ints, cells; with, Set of stones; A region that draws its order and whose last operation (number m: a store) hits what it loads: a condition S on the world, shown anew behind each operation but that one; header of stones; Steps of a list of operations, each with its value told; parseHeader of stones; Parse of stones at a text whose first line is wrong; Regions: what the flood leaves, plain; A range over a function whose iterator keeps state of its own in cells: one law, over any program, at the wide fence; From a walk that knows of no fence to one under the wide fence, in a round or not; a range over a function whose assignments make memory. -/
import Derived.OrdersHeld
import Derived.StillTail
import Derived.Deep.RegionHeld3
import Derived.WalkKit
import Derived.Tactics2
import Derived.Laws.StructEq
import Derived.RangeFuncNested
import Derived.RangeFuncBound
import Derived.RangeFuncCalls
import Derived.RangeFuncLeaves
import Derived.OwnWalkIn
import Derived.TacticsInMore
import Derived.LoopNIn
import Derived.LoopIn
import Derived.Shelf.RegionOpen
import Derived.Test.YtimmadkbkimonaaGreatDoorKPsc1
set_option linter.unusedSimpArgs false
set_option linter.unusedVariables false
open List renaming getElem_toArray → lq0, getElem_cons_succ → lq1, getElem_cons_zero → lq2, setIfInBounds_toArray → lq3, set_cons_zero → lq4, set_cons_succ → lq5
namespace Go.Proofs.YtimmadkbkimonaaGreatDoor
set_option linter.unusedSimpArgs false
set_option linter.unusedVariables false
open Go.RowKit

theorem qfroz {W : World} {p : Nat} {A : Array Value} {t : TypeId} (h : W.heap[p]? = some (.cells A t (0, 0))) (j : Nat) : W.frozen? ⟨p, j, none⟩ = false := by
  simp [World.frozen?, h]
theorem qput_at {w : World} {p : Nat} {c : Array Value} {t : TypeId} {fr : Nat × Nat} (h : w.heap[p]? = some (.cells c t fr)) (j : Nat) (v : Value) : (w.setCell ⟨p, j, none⟩ v).heap[p]? = some (.cells (c.setIfInBounds j v) t fr) := by
  simp only [World.setCell, Array.getElem?_modify, h]
  simp
theorem qput_grown (w : World) (p j : Nat) (v : Value) : w.grownBy (w.setCell ⟨p, j, none⟩ v) (some p) :=
  ⟨rfl, rfl, rfl, by simp [World.setCell], fun k _ hk => Below.heap_setCell _ _ _ _ (fun e => hk (by rw [e]))⟩
theorem qown_no {w : World} {base : Nat} {e : TypeId} {size : Nat} {v : Value} {n : Nat} {xs : List Value} {p : Nat} {o : Obj} (h : w.ownsRow base e size v n xs) (hp : w.heap[p]? = some o) (ho : ∀ cur, o ≠ .cells cur e (0, 0)) : some p ≠ v.ownBlock := by
  rcases h.2 with ⟨rfl, _⟩ | ⟨g, cap, cur, rfl, _, hg, _⟩
  · simp [Value.ownBlock]
  · intro e1
    have e2 : p = g := Option.some.inj e1
    subst e2
    rw [hp] at hg
    exact ho cur (Option.some.inj hg)
theorem qinfoI : (Tryz.prog.info? 3).map (fun i => (i.zero, i.size, i.bytes)) = some (some (.int .i64 0), 1, 8) := by kernel_rfl
theorem qinfoC : (Tryz.prog.info? 41).map (fun i => (i.zero, i.size, i.bytes)) = some (some (.agg #[.int .i64 0, .int .i64 0]), 2, 16) := by kernel_rfl
def cellsV (l : List CellV) : List Value := l.flatMap fun c => [.int .i64 c.1, .int .i64 c.2]
theorem cellsV_len : ∀ l : List CellV, (cellsV l).length = l.length * 2
  | [] => rfl
  | c :: l => by
    have := cellsV_len l
    unfold cellsV at this ⊢
    rw [List.flatMap_cons, List.length_append, this]
    simp
    omega
theorem cellsV_at : ∀ (l : List CellV) (k : Nat) (c : CellV), l[k]? = some c → (cellsV l)[k * 2]? = some (.int .i64 c.1) ∧ (cellsV l)[k * 2 + 1]? = some (.int .i64 c.2)
  | [], k, c, h => by simp at h
  | d :: l, 0, c, h => by
    simp at h
    subst h
    exact ⟨rfl, rfl⟩
  | d :: l, k + 1, c, h => by
    have := cellsV_at l k c (by simpa using h)
    rw [show (k + 1) * 2 = k * 2 + 2 by omega]
    exact this
def RdC (w : World) (a : Option Addr) (n c : Nat) (l : List CellV) : Prop := RdA w 2 a n c (cellsV l)
theorem app_ints (w : World) {ops : Array Oper} {rest : List Oper} {o : Oper} {a : Act} {Q : Exit → Act → World → Prop} (hgd : o.guard = none) (s x : Operand)
    (ho : o.op = .call { callee := .builtin .append, args := #[s, x], argTypes := #[26, 26] }) (base : Nat)
    (sa : Option Addr) (sn sc : Nat) (xs : List Int) (hs : a.eval s = .slice sa sn sc) (hown : w.ownsRow base 3 1 (.slice sa sn sc) sn (xs.map intV))
    (xa : Option Addr) (m xc : Nat) (ys : List Int) (hx : a.eval x = .slice xa m xc) (hrd : RdI w xa m xc ys) (hbytes : (sn + m) * 8 ≤ 140737488355328) (hbase : base ≤ w.heap.size)
    (h : ∀ a' c' w', w'.ownsRow base 3 1 (.slice a' (sn + m) c') (sn + m) ((xs ++ ys).map intV) → w.grownBy w' (Value.ownBlock (.slice sa sn sc)) → wpList Tryz.prog ops Q rest (a.put o.dst (.slice a' (sn + m) c')) w') :
    wpList Tryz.prog ops Q (o :: rest) a w := by
  obtain ⟨i, hi, hz0, hz1, hz2⟩ := info_parts qinfoI
  exact wpList_append_rd w hgd s x 26 ho base 3 i _ 1 8 Tryz.underlying26 hi hz0 hz1 hz2 rfl (by decide) sa sn sc _ hs hown xa m xc _ hx hrd (intV_one _) (by unfold maxLen; omega) (by omega) hbase
    (fun a' c' w' h1 h2 => h a' c' w' (by rw [List.map_append]; exact h1) h2)
theorem cellsV_one (l : List CellV) : ∀ u ∈ cellsV l, u.oneCell' = true := by
  intro u hu
  obtain ⟨c, _, hc⟩ := List.mem_flatMap.1 hu
  simp at hc
  rcases hc with rfl | rfl <;> rfl
theorem app_cells (w : World) {ops : Array Oper} {rest : List Oper} {o : Oper} {a : Act} {Q : Exit → Act → World → Prop} (hgd : o.guard = none) (s x : Operand)
    (ho : o.op = .call { callee := .builtin .append, args := #[s, x], argTypes := #[44, 44] }) (base : Nat)
    (sa : Option Addr) (sn sc : Nat) (xs : List CellV) (hs : a.eval s = .slice sa sn sc) (hown : w.ownsRow base 41 2 (.slice sa sn sc) sn (cellsV xs))
    (xa : Option Addr) (m xc : Nat) (ys : List CellV) (hx : a.eval x = .slice xa m xc) (hrd : RdC w xa m xc ys) (hbytes : (sn + m) * 16 ≤ 140737488355328) (hbase : base ≤ w.heap.size)
    (h : ∀ a' c' w', w'.ownsRow base 41 2 (.slice a' (sn + m) c') (sn + m) (cellsV (xs ++ ys)) → w.grownBy w' (Value.ownBlock (.slice sa sn sc)) → wpList Tryz.prog ops Q rest (a.put o.dst (.slice a' (sn + m) c')) w') :
    wpList Tryz.prog ops Q (o :: rest) a w := by
  obtain ⟨i, hi, hz0, hz1, hz2⟩ := info_parts qinfoC
  exact wpList_append_rd w hgd s x 44 ho base 41 i _ 2 16 Tryz.underlying44 hi hz0 hz1 hz2 rfl (by decide) sa sn sc _ hs hown xa m xc _ hx hrd (cellsV_one _) (by unfold maxLen; omega) (by omega) hbase
    (fun a' c' w' h1 h2 => h a' c' w' (by unfold cellsV; rw [List.flatMap_append]; exact h1) h2)
theorem lit_cell (W : World) (c : CellV) : RdC (W.alloc (.cells #[.int .i64 c.1, .int .i64 c.2] 41)) (some ⟨W.heap.size, 0, none⟩) 1 1 [c] :=
  RdA.of_own (World.ownsRow_lit (base := W.heap.size) (e := 41) (size := 2) W #[.int .i64 c.1, .int .i64 c.2] 1 (Nat.le_refl _) (by unfold maxLen; omega) rfl)
theorem lit_int (W : World) (x : Int) : RdI (W.alloc (.cells #[.int .i64 x] 3)) (some ⟨W.heap.size, 0, none⟩) 1 1 [x] :=
  RdA.of_own (World.ownsRow_lit (base := W.heap.size) (e := 3) (size := 1) W #[.int .i64 x] 1 (Nat.le_refl _) (by unfold maxLen; omega) rfl)
theorem run_app_i (w : World) (base : Nat) (sa : Option Addr) (sn sc : Nat) (xs : List Int) (hown : w.ownsRow base 3 1 (.slice sa sn sc) sn (xs.map intV)) (xa : Option Addr) (m xc : Nat) (ys : List Int) (hrd : RdI w xa m xc ys)
    (hbytes : (sn + m) * 8 ≤ 140737488355328) (hbase : base ≤ w.heap.size) :
    ∃ a' c' w', (Builtin.append_ #[26, 26] 26 #[.slice sa sn sc, .slice xa m xc]).run Tryz.prog w = .ok (.slice a' (sn + m) c') w' ∧ w'.ownsRow base 3 1 (.slice a' (sn + m) c') (sn + m) ((xs ++ ys).map intV) ∧ w.grownBy w' (Value.ownBlock (.slice sa sn sc)) := by
  obtain ⟨i, hi, hz0, hz1, hz2⟩ := info_parts qinfoI
  rw [List.map_append]
  exact run_append_rd w base 26 26 3 i _ 1 8 Tryz.underlying26 hi hz0 hz1 hz2 rfl (by decide) sa sn sc _ hown xa m xc _ hrd (intV_one _) (by unfold maxLen; omega) hbytes hbase
theorem own_put {w : World} {base g n c : Nat} {xs : List Int} (h : w.ownsRow base 3 1 (.slice (some ⟨g, 0, none⟩) n c) n (xs.map intV)) {k : Nat} (hk : k < n) (x : Int) :
    (w.setCell ⟨g, k, none⟩ (.int .i64 x)).ownsRow base 3 1 (.slice (some ⟨g, 0, none⟩) n c) n ((xs.set k x).map intV) ∧ w.cell? ⟨g, k, none⟩ = some (.int .i64 (xs[k]?.getD 0)) ∧ w.frozen? ⟨g, k, none⟩ = false ∧ base ≤ g := by
  obtain ⟨h1, h2⟩ := h
  rcases h2 with ⟨h2, _⟩ | ⟨g', cap, cur, hv, hb, hg, hn, hc, hs, ht⟩
  · cases h2
  · simp only [Value.slice.injEq, Option.some.injEq, Addr.mk.injEq] at hv
    obtain ⟨⟨rfl, _, _⟩, _, rfl⟩ := hv
    have hl : xs.length = n := by simpa using h1
    refine ⟨⟨by simpa using h1, .inr ⟨g, c, cur.setIfInBounds k (.int .i64 x), rfl, hb, qput_at hg k _, hn, hc, by simpa using hs, ?_⟩⟩, ?_, qfroz hg k, hb⟩
    · rw [Array.toList_setIfInBounds, List.take_set, ht, List.map_set]
      rfl
    · have hck : cur[k]? = some (.int .i64 (xs[k]?.getD 0)) := by
        have e : (cur.toList.take (n * 1))[k]? = (xs.map intV)[k]? := by rw [ht]
        rw [List.getElem?_take, if_pos (by omega), List.getElem?_map] at e
        cases hx : xs[k]? with
        | none => rw [List.getElem?_eq_none_iff] at hx; omega
        | some v =>
          rw [hx] at e
          have e2 : cur[k]? = some (intV v) := by simpa using e
          exact e2
      exact qcell hg k _ hck
set_option maxHeartbeats 4000000 in
set_option maxRecDepth 100000 in
theorem cloneZ_any (a : Option Addr) (n c : Nat) (l : List Int) (w : World) (hn : n ≤ 1000000) (hr : RdI w a n c l) :
    Calls Tryz.prog 96 #[.slice a n c] w fun e w' => ∃ a' c', e = .returned (.slice a' n c') ∧ w'.ownsRow w.heap.size 3 1 (.slice a' n c') n (l.map intV) ∧ Below w.heap.size w w' := by
  have hnc := RdA.le hr
  by_cases ha : a = none
  · subst ha
    have hc : n = 0 ∧ c = 0 := by
      rcases hr.2.2.2 with h | ⟨b, off, h, _⟩
      · omega
      · cases h
    obtain ⟨rfl, rfl⟩ := hc
    have hl : l = [] := List.eq_nil_of_length_eq_zero (RdI.len hr)
    subst hl
    clear hr hnc
    have heq : ∀ w, (binOp .eql 26 (.slice none 0 0) (.slice none 0 0)).run Tryz.prog w = .ok (.bool true) w := fun w => Lib.run_eql_slice_nil (P := Tryz.prog) w 26 3 none 0 0 0 0 Tryz.underlying26
    go_enter Tryz.func96, Tryz.ntmps96
    go_wp2
    go_ret
    exact ⟨_, _, rfl, World.ownsRow_nil _ _ _ _, Below.refl _ _⟩
  · obtain ⟨ad, rfl⟩ := Option.ne_none_iff_exists'.1 ha
    clear ha
    have heq : ∀ w, (binOp .eql 26 (.slice (some ad) n c) (.slice none 0 0)).run Tryz.prog w = .ok (.bool false) w := fun w => Lib.run_eql_slice_nil (P := Tryz.prog) w 26 3 (some ad) n c 0 0 Tryz.underlying26
    have hown := World.ownsRow_lit (base := w.heap.size) (e := 3) (size := 1) w #[] 0 (Nat.le_refl _) (by unfold maxLen; omega) rfl
    have hr1 := hr.below ((Below.refl w.heap.size w).alloc (Nat.le_refl _) (Obj.cells #[] 3))
    go_enter Tryz.func96, Tryz.ntmps96
    go_wp2_with (at_builtin; refine app_ints _ rfl _ _ rfl w.heap.size _ _ _ [] rfl hown _ _ _ l rfl hr1 (by omega) (by simp) ?_)
    intro a' c' w' h1 h2
    go_wp2
    go_ret
    exact ⟨_, _, rfl, h1, ((Below.refl _ _).alloc (Nat.le_refl _) _).grown h2 (by simp) (fun k hk => by simp [Value.ownBlock] at hk; omega)⟩
theorem appq_cells (w : World) {ops : Array Oper} {rest : List Oper} {o : Oper} {a : Act} {Q : Exit → Act → World → Prop} (hgd : o.guard = none) (s x : Operand)
    (ho : o.op = .call { callee := .builtin .append, args := #[s, x], argTypes := #[44, 44] }) (base : Nat)
    (sa : Option Addr) (sn sc : Nat) (xs : List CellV) (hs : a.eval s = .slice sa sn sc) (hown : w.ownsRow base 41 2 (.slice sa sn sc) sn (cellsV xs))
    (xa : Option Addr) (m xc : Nat) (ys : List CellV) (hx : a.eval x = .slice xa m xc) (hrd : RdC w xa m xc ys) (hbytes : (sn + m) * 16 ≤ 140737488355328) (hbase : base ≤ w.heap.size)
    (h : ∀ a' c' w', w'.ownsRow base 41 2 (.slice a' (sn + m) c') (sn + m) (cellsV (xs ++ ys)) → (∀ (p : Nat) (ob : Obj), w.heap[p]? = some ob → (∀ cur, ob ≠ .cells cur 41 (0, 0)) → w'.heap[p]? = some ob) → (∀ W, Below base W w → Below base W w') → wpList Tryz.prog ops Q rest (a.put o.dst (.slice a' (sn + m) c')) w') :
    wpList Tryz.prog ops Q (o :: rest) a w :=
  app_cells w hgd s x ho base sa sn sc xs hs hown xa m xc ys hx hrd hbytes hbase fun a' c' w' h1 h2 => h a' c' w' h1 (fun p o hp ho => qgrown h2 hp (qown_no hown hp ho)) (fun W hb => hb.grown h2 hbase (fun k e => (hown.lt k e).1))
theorem qappend {P : Program} {op : Oper} {a : Act} {w w' : World} {K : Act → World → Prop} {Q : Exit → Act → World → Prop} (s x : Operand) (t : TypeId) (ho : op.op = .call { callee := .builtin .append, args := #[s, x], argTypes := #[t, t] }) (v1 v2 v : Value)
    (hs : a.eval s = v1) (hx : a.eval x = v2) (hr : (Builtin.append_ #[t, t] op.type #[v1, v2]).run P w = .ok v w') (h : K (a.put op.dst v) w') : op.wp P a w K Q := by
  unfold Oper.wp
  simp [execOp, ho, resolve, invoke, builtin, hs, hx, hr, Result.andThen]
  exact h
theorem run_app_q (w : World) (base : Nat) (sa : Option Addr) (sn sc : Nat) (xs : List Int) (hown : w.ownsRow base 3 1 (.slice sa sn sc) sn (xs.map intV)) (xa : Option Addr) (m xc : Nat) (ys : List Int) (hrd : RdI w xa m xc ys)
    (hbytes : (sn + m) * 8 ≤ 140737488355328) (hbase : base ≤ w.heap.size) :
    ∃ a' c' w', (Builtin.append_ #[26, 26] 26 #[.slice sa sn sc, .slice xa m xc]).run Tryz.prog w = .ok (.slice a' (sn + m) c') w' ∧ w'.ownsRow base 3 1 (.slice a' (sn + m) c') (sn + m) ((xs ++ ys).map intV) ∧
      (∀ (p : Nat) (ob : Obj), w.heap[p]? = some ob → (∀ cur, ob ≠ .cells cur 3 (0, 0)) → w'.heap[p]? = some ob) ∧ (∀ W, Below base W w → Below base W w') := by
  obtain ⟨a', c', w', h1, h2, h3⟩ := run_app_i w base sa sn sc xs hown xa m xc ys hrd hbytes hbase
  exact ⟨a', c', w', h1, h2, fun p o hp ho => qgrown h3 hp (qown_no hown hp ho), fun W hb => hb.grown h3 hbase (fun k e => (hown.lt k e).1)⟩
end Go.Proofs.YtimmadkbkimonaaGreatDoor
namespace Go.Proofs.YtimmadkbkimonaaGreatDoor
set_option linter.unusedSimpArgs false
set_option linter.unusedVariables false
open Go.RowKit

def withF (f : FaceV) (l : List Int) : FaceV := { f with kinds := l }
theorem qoneF (f : FaceV) (a : Option Addr) (n : Nat) : (f.cells a n).all (·.oneCell') = true := qone f a n
set_option maxHeartbeats 4000000 in
set_option maxRecDepth 100000 in
theorem with_any (f : FaceV) (a : Option Addr) (n : Nat) (l : List Int) (b : Option Addr) (m cb : Nat) (w : World) (hl : l.length = m) :
    Calls Tryz.prog 97 #[.agg (f.cells a n), .slice b m cb] w fun e w' => e = .returned (.agg ((withF f l).cells b cb)) ∧ Below w.heap.size w w' := by
  have JL := Lib.hid hl
  clear hl
  have AL := Lib.hid (al2 w (.cells (f.cells a n) 28) (.cells #[.int .i64 0, .int .i64 0, .int .i64 0, .slice none 0 0] 28))
  go_enter Tryz.func97, Tryz.ntmps97
  go_upto_region 1 with fail
  obtain ⟨p, hp⟩ : ∃ p, Hid (w.heap.size = p) := ⟨_, Lib.hid rfl⟩
  obtain ⟨z, hz⟩ : ∃ z, Hid (w.heap.size + 1 = z) := ⟨_, Lib.hid rfl⟩
  rw [hz.out] at AL ⊢
  rw [hp.out] at AL ⊢
  generalize ((w.alloc (.cells (f.cells a n) 28)).alloc (.cells #[.int .i64 0, .int .i64 0, .int .i64 0, .slice none 0 0] 28)) = W0 at *
  have BF : Hid (Below w.heap.size w W0) := Lib.hid (by rw [hp.out]; exact AL.out.1)
  have XF : Hid (W0.heap[p]? = some (.cells (f.cells a n) 28 (0, 0))) := Lib.hid AL.out.2.1
  have XZ : Hid (W0.heap[z]? = some (.cells (zeroF.cells none 0) 28 (0, 0))) := Lib.hid AL.out.2.2
  clear AL
  have c0 := qcell XF.out 0 (.int .i64 f.eye) rfl
  have c1 := qcell XF.out 1 (.int .i64 f.rings) rfl
  have c2 := qcell XF.out 2 (.int .i64 f.sectors) rfl
  have c3 := qcell XF.out 3 (.slice a f.kinds.length n) rfl
  have fz := qfroz XF.out 3
  go_upto_region 2 with (first
    | (refine wpList_load_row rfl 28 _ rfl p rfl 28 (f.cells a n) (0, 0) _ XF.out Tryz.underlying28 rfl (by exact (qJF f a n)) ?_)
    | (refine wpList_load_row rfl 28 _ rfl z rfl 28 (zeroF.cells none 0) (0, 0) _ XZ.out Tryz.underlying28 rfl (by exact (qJF zeroF none 0)) ?_)
    | fail)
  clear c0 c1 c2 c3
  clear fz
  have XG : Hid ((W0.setCell ⟨p, 3, none⟩ (.slice b m cb)).heap[p]? = some (.cells ((withF f l).cells b cb) 28 (0, 0))) := Lib.hid (by rw [qput_at XF.out 3 _, ← JL.out]; rfl)
  have HG := qput_grown W0 p 3 (.slice b m cb)
  replace BF := Lib.hid (qstep BF.out HG (by have h1 := hp.out; omega))
  replace XZ := Lib.hid (qgrown HG XZ.out (fun e => by have h1 := hp.out; have h2 := hz.out; have := Option.some.inj e; omega))
  clear HG XF
  generalize W0.setCell ⟨p, 3, none⟩ (.slice b m cb) = W1 at *
  go_wp2_with (first
    | (refine wpList_load_row rfl 28 _ rfl p rfl 28 ((withF f l).cells b cb) (0, 0) _ XG.out Tryz.underlying28 rfl (by exact (qJF (withF f l) b cb)) ?_)
    | (refine wpList_load_row rfl 28 _ rfl z rfl 28 (zeroF.cells none 0) (0, 0) _ XZ.out Tryz.underlying28 rfl (by exact (qJF zeroF none 0)) ?_)
    | (refine wpList_qstore rfl 28 _ _ rfl z (zeroF.cells none 0) ((withF f l).cells b cb) 28 rfl rfl XZ.out (by exact (qJF (withF f l) b cb)) rfl (qoneF (withF f l) b cb) ?_; intro VZ hzz hgz; replace BF := Lib.hid (qstep BF.out hgz (by have h1 := hz.out; omega)); replace XG := Lib.hid (qgrown hgz XG.out (fun e => by have h1 := hp.out; have h2 := hz.out; have := Option.some.inj e; omega)); replace XZ := Lib.hid hzz; clear hzz hgz)
    | fail)
  (try simp only [Exit.inBlock, Exit.then])
  refine bodyPost_ret (results_cell_row rfl _ VZ z 28 ((withF f l).cells b cb) (0, 0) _ rfl XZ.out Tryz.underlying28 rfl (by exact (qJF (withF f l) b cb))) rfl ?_
  exact ⟨rfl, BF.out⟩
set_option maxHeartbeats 4000000 in
set_option maxRecDepth 100000 in
theorem setF_any (f : FaceV) (a : Option Addr) (n : Nat) (c : CellV) (k : Int) (w : World) (hr : RdI w a f.kinds.length n f.kinds) :
    Calls Tryz.prog 38 #[.agg (f.cells a n), .agg (cellA c), .int .i64 k] w fun e w' => ∃ a' n', e = .returned (.tuple #[.agg ((setF f c k).1.cells a' n'), .int .i64 (setF f c k).2]) ∧ RdI w' a' (setF f c k).1.kinds.length n' (setF f c k).1.kinds ∧ Below w.heap.size w w' := by
  have HR := Lib.hid (fun W (hb : Below w.heap.size w W) => hr.below hb)
  have AK := Lib.hid (fun W (hb : Below w.heap.size w W) => asked_any f a n c W (hr.below hb))
  clear hr
  have AL := Lib.hid (al3 w (.cells (f.cells a n) 28) (.cells (cellA c) 41) (.cells #[.int .i64 0, .int .i64 0, .int .i64 0, .slice none 0 0] 28))
  go_enter Tryz.func38, Tryz.ntmps38
  go_upto_region 1 with fail
  obtain ⟨p, hp⟩ : ∃ p, Hid (w.heap.size = p) := ⟨_, Lib.hid rfl⟩
  obtain ⟨q, hq⟩ : ∃ q, Hid (w.heap.size + 1 = q) := ⟨_, Lib.hid rfl⟩
  obtain ⟨z, hz⟩ : ∃ z, Hid (w.heap.size + 2 = z) := ⟨_, Lib.hid rfl⟩
  rw [hz.out] at AL ⊢
  rw [hq.out] at AL ⊢
  rw [hp.out] at AL ⊢
  generalize (((w.alloc (.cells (f.cells a n) 28)).alloc (.cells (cellA c) 41)).alloc (.cells #[.int .i64 0, .int .i64 0, .int .i64 0, .slice none 0 0] 28)) = W0 at *
  have BF : Hid (Below w.heap.size w W0) := Lib.hid (by rw [hp.out]; exact AL.out.1)
  have XF : Hid (W0.heap[p]? = some (.cells (f.cells a n) 28 (0, 0))) := Lib.hid AL.out.2.1
  have XC : Hid (W0.heap[q]? = some (.cells (cellA c) 41 (0, 0))) := Lib.hid AL.out.2.2.1
  have XZ : Hid (W0.heap[z]? = some (.cells (zeroF.cells none 0) 28 (0, 0))) := Lib.hid AL.out.2.2.2
  clear AL
  have c0 := qcell XF.out 0 (.int .i64 f.eye) rfl
  have c1 := qcell XF.out 1 (.int .i64 f.rings) rfl
  have c2 := qcell XF.out 2 (.int .i64 f.sectors) rfl
  have c3 := qcell XF.out 3 (.slice a f.kinds.length n) rfl
  have d0 := qcell XC.out 0 (.int .i64 c.1) rfl
  have d1 := qcell XC.out 1 (.int .i64 c.2) rfl
  go_wp2_with (first
    | (refine wpList_load_row rfl 28 _ rfl p rfl 28 (f.cells a n) (0, 0) _ XF.out Tryz.underlying28 rfl (by exact (qJF f a n)) ?_)
    | (refine wpList_load_row rfl 41 _ rfl q rfl 41 (cellA c) (0, 0) _ XC.out Tryz.underlying41 rfl (by exact (qJC c)) ?_)
    | (refine wpList_load_row rfl 28 _ rfl z rfl 28 (zeroF.cells none 0) (0, 0) _ XZ.out Tryz.underlying28 rfl (by exact (qJF zeroF none 0)) ?_)
    | fail)
  refine (AK.out W0 BF.out).mono ?_
  rintro e V1 ⟨rfl, b⟩
  clear c0 c1 c2 c3 d0 d1
  replace BF := Lib.hid (BF.out.trans (b.mono BF.out.size))
  replace XF := Lib.hid (qblk b XF.out)
  replace XC := Lib.hid (qblk b XC.out)
  replace XZ := Lib.hid (qblk b XZ.out)
  clear b
  have c0 := qcell XF.out 0 (.int .i64 f.eye) rfl
  have c1 := qcell XF.out 1 (.int .i64 f.rings) rfl
  have c2 := qcell XF.out 2 (.int .i64 f.sectors) rfl
  have c3 := qcell XF.out 3 (.slice a f.kinds.length n) rfl
  have d0 := qcell XC.out 0 (.int .i64 c.1) rfl
  have d1 := qcell XC.out 1 (.int .i64 c.2) rfl
  cases hk : decide (askedF f c ≠ 0)
  · have HK : Hid (askedF f c = 0) := Lib.hid (by simpa using hk)
    have ZK := Lib.hid (asked_zero.1 HK.out)
    have IV := Lib.hid (FaceV.int ZK.out.1)
    have HC := Lib.hid (hasF_iff.1 ZK.out.2)
    have IL := Lib.hid (index_lt ZK.out.1 HC.out.1 c.2)
    have hk2 : (askedF f c != 0) = false := by simpa using hk
    clear hk
    go_wp2_with (first
      | (refine wpList_load_row rfl 28 _ rfl p rfl 28 (f.cells a n) (0, 0) _ XF.out Tryz.underlying28 rfl (by exact (qJF f a n)) ?_)
      | (refine wpList_load_row rfl 41 _ rfl q rfl 41 (cellA c) (0, 0) _ XC.out Tryz.underlying41 rfl (by exact (qJC c)) ?_)
      | (refine wpList_load_row rfl 28 _ rfl z rfl 28 (zeroF.cells none 0) (0, 0) _ XZ.out Tryz.underlying28 rfl (by exact (qJF zeroF none 0)) ?_)
      | fail)
    refine (kind_any k V1).mono ?_
    rintro e V2 ⟨rfl, rfl⟩
    cases hb : kindB k
    · go_wp2_with (first
        | (refine wpList_load_row rfl 28 _ rfl p rfl 28 (f.cells a n) (0, 0) _ XF.out Tryz.underlying28 rfl (by exact (qJF f a n)) ?_)
        | (refine wpList_load_row rfl 41 _ rfl q rfl 41 (cellA c) (0, 0) _ XC.out Tryz.underlying41 rfl (by exact (qJC c)) ?_)
        | (refine wpList_load_row rfl 28 _ rfl z rfl 28 (zeroF.cells none 0) (0, 0) _ XZ.out Tryz.underlying28 rfl (by exact (qJF zeroF none 0)) ?_)
        | (refine wpList_qstore rfl 28 _ _ rfl z (zeroF.cells none 0) (zeroF.cells none 0) 28 rfl rfl XZ.out (by exact (qJF zeroF none 0)) rfl (qone zeroF none 0) ?_; intro VZ hzz hgz; clear c0 c1 c2 c3 d0 d1; replace BF := Lib.hid (qstep BF.out hgz (by have h1 := hz.out; omega)); replace XF := Lib.hid (qgrown hgz XF.out (fun e => by have h1 := hp.out; have h2 := hz.out; have := Option.some.inj e; omega)); replace XC := Lib.hid (qgrown hgz XC.out (fun e => by have h1 := hq.out; have h2 := hz.out; have := Option.some.inj e; omega)); replace XZ := Lib.hid hzz; clear hzz hgz; have c0 := qcell XF.out 0 (.int .i64 f.eye) rfl; have c1 := qcell XF.out 1 (.int .i64 f.rings) rfl; have c2 := qcell XF.out 2 (.int .i64 f.sectors) rfl; have c3 := qcell XF.out 3 (.slice a f.kinds.length n) rfl; have d0 := qcell XC.out 0 (.int .i64 c.1) rfl; have d1 := qcell XC.out 1 (.int .i64 c.2) rfl)
        | fail)
      (try simp only [Exit.inBlock, Exit.then])
      refine bodyPost_ret (results_ct rfl _ VZ z 28 (zeroF.cells none 0) (0, 0) _ rfl XZ.out Tryz.underlying28 rfl (by exact (qJF zeroF none 0))) rfl ?_
      unfold setF
      rw [if_pos HK.out, if_neg (by rw [hb]; decide)]
      exact ⟨none, 0, rfl, RdA.nil _ _, BF.out⟩
    · have HB := Lib.hid hb
      clear hb
      go_wp2_with (first
        | (refine wpList_load_row rfl 28 _ rfl p rfl 28 (f.cells a n) (0, 0) _ XF.out Tryz.underlying28 rfl (by exact (qJF f a n)) ?_)
        | (refine wpList_load_row rfl 41 _ rfl q rfl 41 (cellA c) (0, 0) _ XC.out Tryz.underlying41 rfl (by exact (qJC c)) ?_)
        | (refine wpList_load_row rfl 28 _ rfl z rfl 28 (zeroF.cells none 0) (0, 0) _ XZ.out Tryz.underlying28 rfl (by exact (qJF zeroF none 0)) ?_)
        | fail)
      refine (cloneZ_any a f.kinds.length n f.kinds V2 (by have h3 := IV.out; have h4 : f.rings * f.sectors ≤ 24 * 96 := Int.mul_le_mul (by omega) (by omega) (by omega) (by omega); omega) (HR.out V2 BF.out)).mono ?_
      rintro e V3 ⟨g, cg, rfl, own, b⟩
      have OW := Lib.hid (own_mono own BF.out.size)
      clear own
      clear c0 c1 c2 c3 d0 d1
      replace BF := Lib.hid (BF.out.trans (b.mono BF.out.size))
      replace XF := Lib.hid (qblk b XF.out)
      replace XC := Lib.hid (qblk b XC.out)
      replace XZ := Lib.hid (qblk b XZ.out)
      clear b
      have c0 := qcell XF.out 0 (.int .i64 f.eye) rfl
      have c1 := qcell XF.out 1 (.int .i64 f.rings) rfl
      have c2 := qcell XF.out 2 (.int .i64 f.sectors) rfl
      have c3 := qcell XF.out 3 (.slice a f.kinds.length n) rfl
      have d0 := qcell XC.out 0 (.int .i64 c.1) rfl
      have d1 := qcell XC.out 1 (.int .i64 c.2) rfl
      go_wp2_with (first
        | (refine wpList_load_row rfl 28 _ rfl p rfl 28 (f.cells a n) (0, 0) _ XF.out Tryz.underlying28 rfl (by exact (qJF f a n)) ?_)
        | (refine wpList_load_row rfl 41 _ rfl q rfl 41 (cellA c) (0, 0) _ XC.out Tryz.underlying41 rfl (by exact (qJC c)) ?_)
        | (refine wpList_load_row rfl 28 _ rfl z rfl 28 (zeroF.cells none 0) (0, 0) _ XZ.out Tryz.underlying28 rfl (by exact (qJF zeroF none 0)) ?_)
        | fail)
      refine (index_any f a n c.1 c.2 V3 (by have := IV.out; omega) (by have := IV.out; have := HC.out; omega)).mono ?_
      rintro e V4 ⟨rfl, b⟩
      replace OW := Lib.hid (own_below OW.out b)
      clear c0 c1 c2 c3 d0 d1
      replace BF := Lib.hid (BF.out.trans (b.mono BF.out.size))
      replace XF := Lib.hid (qblk b XF.out)
      replace XC := Lib.hid (qblk b XC.out)
      replace XZ := Lib.hid (qblk b XZ.out)
      clear b
      have c0 := qcell XF.out 0 (.int .i64 f.eye) rfl
      have c1 := qcell XF.out 1 (.int .i64 f.rings) rfl
      have c2 := qcell XF.out 2 (.int .i64 f.sectors) rfl
      have c3 := qcell XF.out 3 (.slice a f.kinds.length n) rfl
      have d0 := qcell XC.out 0 (.int .i64 c.1) rfl
      have d1 := qcell XC.out 1 (.int .i64 c.2) rfl
      obtain ⟨i, hi⟩ : ∃ i, Hid ((indexF f c.1 c.2).toNat = i) := ⟨_, Lib.hid rfl⟩
      have HI : Hid (indexF f c.1 c.2 = (i : Int)) := Lib.hid (by have := IL.out; have := hi.out; omega)
      have HL : Hid (i < f.kinds.length) := Lib.hid (by have := IL.out; have := hi.out; omega)
      rw [HI.out]
      obtain ⟨gb, hg⟩ : ∃ gb, g = some ⟨gb, 0, none⟩ := by
        rcases OW.out.2 with ⟨h1, h2⟩ | ⟨g', cap, cur, h1, _⟩
        · have := HL.out; omega
        · simp only [Value.slice.injEq] at h1; exact ⟨g', h1.1⟩
      subst hg
      obtain ⟨o1, o2, o3, o4⟩ := own_put OW.out HL.out k
      have hlt : i < f.kinds.length := HL.out
      have gz : gb ≠ p ∧ gb ≠ q ∧ gb ≠ z := by
        obtain ⟨g', cap, cur, h1, _, h2, _⟩ := (OW.out.2.resolve_left (fun h => by cases h.1))
        simp only [Value.slice.injEq, Option.some.injEq, Addr.mk.injEq] at h1
        obtain ⟨⟨rfl, _⟩, _⟩ := h1
        refine ⟨fun e => ?_, fun e => ?_, fun e => ?_⟩ <;> subst e
        · have := XF.out; rw [h2] at this; simp only [Option.some.injEq, Obj.cells.injEq] at this; exact absurd this.2.1 (by decide)
        · have := XC.out; rw [h2] at this; simp only [Option.some.injEq, Obj.cells.injEq] at this; exact absurd this.2.1 (by decide)
        · have := XZ.out; rw [h2] at this; simp only [Option.some.injEq, Obj.cells.injEq] at this; exact absurd this.2.1 (by decide)
      go_upto_region 8 with (first
        | (refine wpList_load_row rfl 28 _ rfl p rfl 28 (f.cells a n) (0, 0) _ XF.out Tryz.underlying28 rfl (by exact (qJF f a n)) ?_)
        | (refine wpList_load_row rfl 41 _ rfl q rfl 41 (cellA c) (0, 0) _ XC.out Tryz.underlying41 rfl (by exact (qJC c)) ?_)
        | (refine wpList_load_row rfl 28 _ rfl z rfl 28 (zeroF.cells none 0) (0, 0) _ XZ.out Tryz.underlying28 rfl (by exact (qJF zeroF none 0)) ?_)
        | fail)
      clear c0 c1 c2 c3 d0 d1
      have HG := qput_grown V4 gb i (.int .i64 k)
      replace BF := Lib.hid (qstep BF.out HG o4)
      replace XF := Lib.hid (qgrown HG XF.out (fun e => gz.1 (Option.some.inj e).symm))
      replace XC := Lib.hid (qgrown HG XC.out (fun e => gz.2.1 (Option.some.inj e).symm))
      replace XZ := Lib.hid (qgrown HG XZ.out (fun e => gz.2.2 (Option.some.inj e).symm))
      replace OW := Lib.hid o1
      clear HG o1 o2 o3 o4 gz hlt
      generalize V4.setCell ⟨gb, i, none⟩ (.int .i64 k) = V5 at *
      have c0 := qcell XF.out 0 (.int .i64 f.eye) rfl
      have c1 := qcell XF.out 1 (.int .i64 f.rings) rfl
      have c2 := qcell XF.out 2 (.int .i64 f.sectors) rfl
      have c3 := qcell XF.out 3 (.slice a f.kinds.length n) rfl
      have d0 := qcell XC.out 0 (.int .i64 c.1) rfl
      have d1 := qcell XC.out 1 (.int .i64 c.2) rfl
      go_wp2_with (first
        | (refine wpList_load_row rfl 28 _ rfl p rfl 28 (f.cells a n) (0, 0) _ XF.out Tryz.underlying28 rfl (by exact (qJF f a n)) ?_)
        | (refine wpList_load_row rfl 41 _ rfl q rfl 41 (cellA c) (0, 0) _ XC.out Tryz.underlying41 rfl (by exact (qJC c)) ?_)
        | (refine wpList_load_row rfl 28 _ rfl z rfl 28 (zeroF.cells none 0) (0, 0) _ XZ.out Tryz.underlying28 rfl (by exact (qJF zeroF none 0)) ?_)
        | fail)
      refine (with_any f a n (f.kinds.set i k) (some ⟨gb, 0, none⟩) f.kinds.length cg V5 (by rw [List.length_set])).mono ?_
      rintro e V6 ⟨rfl, b⟩
      replace OW := Lib.hid (own_below OW.out b)
      clear c0 c1 c2 c3 d0 d1
      replace BF := Lib.hid (BF.out.trans (b.mono BF.out.size))
      replace XF := Lib.hid (qblk b XF.out)
      replace XC := Lib.hid (qblk b XC.out)
      replace XZ := Lib.hid (qblk b XZ.out)
      clear b
      have c0 := qcell XF.out 0 (.int .i64 f.eye) rfl
      have c1 := qcell XF.out 1 (.int .i64 f.rings) rfl
      have c2 := qcell XF.out 2 (.int .i64 f.sectors) rfl
      have c3 := qcell XF.out 3 (.slice a f.kinds.length n) rfl
      have d0 := qcell XC.out 0 (.int .i64 c.1) rfl
      have d1 := qcell XC.out 1 (.int .i64 c.2) rfl
      go_wp2_with (first
        | (refine wpList_load_row rfl 28 _ rfl p rfl 28 (f.cells a n) (0, 0) _ XF.out Tryz.underlying28 rfl (by exact (qJF f a n)) ?_)
        | (refine wpList_load_row rfl 41 _ rfl q rfl 41 (cellA c) (0, 0) _ XC.out Tryz.underlying41 rfl (by exact (qJC c)) ?_)
        | (refine wpList_load_row rfl 28 _ rfl z rfl 28 (zeroF.cells none 0) (0, 0) _ XZ.out Tryz.underlying28 rfl (by exact (qJF zeroF none 0)) ?_)
        | (refine wpList_qstore rfl 28 _ _ rfl z (zeroF.cells none 0) ((withF f (f.kinds.set i k)).cells (some ⟨gb, 0, none⟩) cg) 28 rfl rfl XZ.out (by exact (qJF (withF f (f.kinds.set i k)) (some ⟨gb, 0, none⟩) cg)) rfl (qone (withF f (f.kinds.set i k)) (some ⟨gb, 0, none⟩) cg) ?_; intro VZ hzz hgz; clear c0 c1 c2 c3 d0 d1; replace BF := Lib.hid (qstep BF.out hgz (by have h1 := hz.out; omega)); replace XF := Lib.hid (qgrown hgz XF.out (fun e => by have h1 := hp.out; have h2 := hz.out; have := Option.some.inj e; omega)); replace XC := Lib.hid (qgrown hgz XC.out (fun e => by have h1 := hq.out; have h2 := hz.out; have := Option.some.inj e; omega)); have OW2 := Lib.hid (OW.out.kept hgz (.inr (qown_no OW.out XZ.out (by simp)).symm)); replace XZ := Lib.hid hzz; clear hzz hgz; have c0 := qcell XF.out 0 (.int .i64 f.eye) rfl; have c1 := qcell XF.out 1 (.int .i64 f.rings) rfl; have c2 := qcell XF.out 2 (.int .i64 f.sectors) rfl; have c3 := qcell XF.out 3 (.slice a f.kinds.length n) rfl; have d0 := qcell XC.out 0 (.int .i64 c.1) rfl; have d1 := qcell XC.out 1 (.int .i64 c.2) rfl)
        | fail)
      (try simp only [Exit.inBlock, Exit.then])
      refine bodyPost_ret (results_ct rfl _ VZ z 28 ((withF f (f.kinds.set i k)).cells (some ⟨gb, 0, none⟩) cg) (0, 0) _ rfl XZ.out Tryz.underlying28 rfl (by exact (qJF (withF f (f.kinds.set i k)) (some ⟨gb, 0, none⟩) cg))) rfl ?_
      unfold setF
      rw [if_pos HK.out, if_pos HB.out, hi.out]
      refine ⟨some ⟨gb, 0, none⟩, cg, rfl, ?_, BF.out⟩
      have := RdA.of_own OW2.out
      show RdI VZ _ (f.kinds.set i k).length cg (f.kinds.set i k)
      rw [List.length_set]
      exact this
  · have HK : Hid (askedF f c ≠ 0) := Lib.hid (by simpa using hk)
    have hk2 : (askedF f c != 0) = true := by simpa using hk
    clear hk
    go_wp2_with (first
      | (refine wpList_load_row rfl 28 _ rfl p rfl 28 (f.cells a n) (0, 0) _ XF.out Tryz.underlying28 rfl (by exact (qJF f a n)) ?_)
      | (refine wpList_load_row rfl 41 _ rfl q rfl 41 (cellA c) (0, 0) _ XC.out Tryz.underlying41 rfl (by exact (qJC c)) ?_)
      | (refine wpList_load_row rfl 28 _ rfl z rfl 28 (zeroF.cells none 0) (0, 0) _ XZ.out Tryz.underlying28 rfl (by exact (qJF zeroF none 0)) ?_)
      | (refine wpList_qstore rfl 28 _ _ rfl z (zeroF.cells none 0) (zeroF.cells none 0) 28 rfl rfl XZ.out (by exact (qJF zeroF none 0)) rfl (qone zeroF none 0) ?_; intro VZ hzz hgz; clear c0 c1 c2 c3 d0 d1; replace BF := Lib.hid (qstep BF.out hgz (by have h1 := hz.out; omega)); replace XF := Lib.hid (qgrown hgz XF.out (fun e => by have h1 := hp.out; have h2 := hz.out; have := Option.some.inj e; omega)); replace XC := Lib.hid (qgrown hgz XC.out (fun e => by have h1 := hq.out; have h2 := hz.out; have := Option.some.inj e; omega)); replace XZ := Lib.hid hzz; clear hzz hgz; have c0 := qcell XF.out 0 (.int .i64 f.eye) rfl; have c1 := qcell XF.out 1 (.int .i64 f.rings) rfl; have c2 := qcell XF.out 2 (.int .i64 f.sectors) rfl; have c3 := qcell XF.out 3 (.slice a f.kinds.length n) rfl; have d0 := qcell XC.out 0 (.int .i64 c.1) rfl; have d1 := qcell XC.out 1 (.int .i64 c.2) rfl)
      | fail)
    (try simp only [Exit.inBlock, Exit.then])
    refine bodyPost_ret (results_ct rfl _ VZ z 28 (zeroF.cells none 0) (0, 0) _ rfl XZ.out Tryz.underlying28 rfl (by exact (qJF zeroF none 0))) rfl ?_
    unfold setF
    rw [if_neg HK.out]
    exact ⟨none, 0, rfl, RdA.nil _ _, BF.out⟩
end Go.Proofs.YtimmadkbkimonaaGreatDoor
namespace Go.Proofs.YtimmadkbkimonaaGreatDoor

section
variable {P : Program} {ops : Array Oper} {Q : Exit → Act → World → Prop} {md : Region.Mode} {m : Nat} {S : World → Prop}
def AnyBut (P : Program) (md : Region.Mode) (ops : Array Oper) (Q : Exit → Act → World → Prop) (m : Nat) (S : World → Prop) : Nat → Array Bool → Act → World → Prop
  | 0, l, a, w => Region.ready md ops l = [] ∧ Q .normal a w
  | n + 1, l, a, w => (Region.ready md ops l = [] → Q .normal a w) ∧ ∀ i ∈ Region.ready md ops l, wpOp P ops Q i (fun a' w' => (i ≠ m → S w') ∧ AnyBut P md ops Q m S n (l.setIfInBounds i true) a' w') a w
theorem AnyBut.any : ∀ (n : Nat) (l : Array Bool) (a : Act) (w : World), AnyBut P md ops Q m S n l a w → wpAny P md ops Q n l a w
  | 0, _, _, _, h => h
  | n + 1, _, _, _, h => ⟨h.1, fun i hi => wpOp_mono (fun a' w' h' => AnyBut.any n _ a' w' h'.2) (h.2 i hi)⟩
theorem AnyBut.done {l : Array Bool} {a : Act} {w : World} (hr : Region.ready md ops l = []) (h : Q .normal a w) : ∀ n, AnyBut P md ops Q m S n l a w
  | 0 => ⟨hr, h⟩
  | _ + 1 => ⟨fun _ => h, by rw [hr]; simp⟩
theorem not_ready {i : Nat} {l : Array Bool} (hm : Region.waitsFor md ops m i = true) (hi : l.getD i true = false) : m ∉ Region.ready md ops l := fun hr => by
  obtain ⟨oj, hj, e, he, hb, hon⟩ := Region.waitsFor_spec hm
  obtain ⟨_, oj', hj', hall⟩ := mem_ready.1 hr
  have h0 : oj' = oj := Option.some.inj (hj'.symm.trans hj)
  subst h0
  have h1 := hall e he hb
  rw [hon, getD_both hi] at h1
  cases h1
theorem AnyBut.first {i : Nat} {oi : Oper} {v : Value} (hi : ops[i]? = some oi) (hsel : ∀ (j : Nat) (o : Oper) cs b, ops[j]? = some o → o.op ≠ .select cs b) (hm : Region.waitsFor md ops m i = true) (hne : i ≠ m)
    (hQ : ∀ c a w, Q (.panic c) (a.put oi.dst v) w → Q (.panic c) a w) : ∀ (n : Nat) (l : Array Bool) (a : Act) (w : World),
      (∀ j oj, ops[j]? = some oj → j ≠ i → l.getD j true = false → (∀ e ∈ oj.after, Region.binds md e = true → e.on ≠ i) → oi.apart ops oj = true) →
      i ∈ Region.ready md ops l → YieldsIf P ops S oi v a → S w → AnyBut P md ops Q m S n (l.setIfInBounds i true) (a.put oi.dst v) w → AnyBut P md ops Q m S (n + 1) l a w := by
  intro n
  induction n with
  | zero =>
    intro l a w _ hr hy hS H
    refine ⟨fun h => (by rw [h] at hr; cases hr), fun j hj => ?_⟩
    by_cases e : j = i
    · rw [e]; exact hy.wpOp hi hS ⟨fun _ => hS, H⟩
    · have h1 := ready_mono hj e
      rw [H.1] at h1
      cases h1
  | succ n ih =>
    intro l a w hfree hr hy hS H
    refine ⟨fun h => (by rw [h] at hr; cases hr), fun j hj => ?_⟩
    by_cases e : j = i
    · rw [e]; exact hy.wpOp hi hS ⟨fun _ => hS, H⟩
    · obtain ⟨hjun, oj, hoj, hall⟩ := mem_ready.1 hj
      have hiun := (mem_ready.1 hr).1
      have hjm : j ≠ m := fun e2 => not_ready hm hiun (e2 ▸ hj)
      have hno : ∀ x ∈ oj.after, Region.binds md x = true → x.on ≠ i := fun x hx hb heq => by
        have h1 := hall x hx hb
        rw [heq, getD_both hiun] at h1
        cases h1
      have h2 := wpOp_putIf hoj (hfree j oj hoj e hjun hno) (fun cs b => hsel i oi cs b hi) (fun cs b => hsel j oj cs b hoj) hQ hy (H.2 j (ready_mono hj e))
      refine wpOp_mono (fun a' w' h3 => ⟨fun _ => h3.2.1 hjm, ih (l.setIfInBounds j true) a' w' (fun k ok hk hki hun hn => ?_) (ready_mono hr (Ne.symm e)) h3.1 (h3.2.1 hjm) ?_⟩) h2
      · refine hfree k ok hk hki ?_ hn
        by_cases e2 : j = k
        · rw [← e2]; exact hjun
        · rw [getD_set_ne true e2] at hun; exact hun
      · rw [Array.setIfInBounds_comm _ _ e]
        exact h3.2.2
theorem AnyBut.take {i : Nat} {oi : Oper} {v : Value} {n : Nat} {l : Array Bool} {a : Act} {w : World} (hi : ops[i]? = some oi) (hs : Region.noSelect ops = true) (hf : Region.free md ops l i = true) (hr : (Region.ready md ops l).contains i = true)
    (hm : (Region.waitsFor md ops m i && decide (i ≠ m)) = true) (hQ : ∀ c a w, Q (.panic c) (a.put oi.dst v) w → Q (.panic c) a w) (hy : YieldsIf P ops S oi v a) (hS : S w)
    (h : AnyBut P md ops Q m S n (l.setIfInBounds i true) (a.put oi.dst v) w) : AnyBut P md ops Q m S (n + 1) l a w := by
  rw [Bool.and_eq_true, decide_eq_true_eq] at hm
  exact AnyBut.first hi (Region.noSelect_spec hs) hm.1 hm.2 hQ n l a w (Region.free_spec hi hf) (by simpa using hr) hy hS h
def AllBut (P : Program) (md : Region.Mode) (ops : Array Oper) (Q : Exit → Act → World → Prop) (m : Nat) (S : World → Prop) (n : Nat) (l : Array Bool) (a : Act) (w : World) (rs : List Nat) : Prop :=
  ∀ i ∈ rs, wpOp P ops Q i (fun a' w' => (i ≠ m → S w') ∧ AnyBut P md ops Q m S n (l.setIfInBounds i true) a' w') a w
theorem AllBut.nil {n : Nat} {l : Array Bool} {a : Act} {w : World} : AllBut P md ops Q m S n l a w [] := fun _ h => by cases h
theorem AllBut.cons {n : Nat} {l : Array Bool} {a : Act} {w : World} {i : Nat} {o : Oper} {rs : List Nat} (ho : ops[i]? = some o)
    (h : ∀ K : Act → World → Prop, Shut (∀ a w, S w → (S w → AnyBut P md ops Q m S n (l.setIfInBounds i true) a w) → K a w) → if Region.wanted o (yielded ops a.tmps) = true then Oper.wp P o a w K Q else K (a.put o.dst undef) w)
    (hs : AllBut P md ops Q m S n l a w rs) : AllBut P md ops Q m S n l a w (i :: rs) := fun j hj => by
  rcases List.mem_cons.1 hj with e | hj
  · rw [e]
    exact wpOp_step ho (fun K hK => h K (fun a w hS hW => hK a w ⟨fun _ => hS, hW hS⟩))
  · exact hs j hj
theorem AllBut.last {n : Nat} {l : Array Bool} {a : Act} {w : World} {o : Oper} (ho : ops[m]? = some o)
    (h : ∀ K : Act → World → Prop, Shut (∀ a w, AnyBut P md ops Q m S n (l.setIfInBounds m true) a w → K a w) → if Region.wanted o (yielded ops a.tmps) = true then Oper.wp P o a w K Q else K (a.put o.dst undef) w) : AllBut P md ops Q m S n l a w [m] := fun j hj => by
  rw [List.mem_singleton.1 hj]
  exact wpOp_step ho (fun K hK => h K (fun a w hW => hK a w ⟨fun e => absurd rfl e, hW⟩))
theorem AnyBut.ready {rs : List Nat} {n : Nat} {l : Array Bool} {a : Act} {w : World} (hr : Region.ready md ops l = rs) (hne : rs ≠ []) (h : AllBut P md ops Q m S n l a w rs) : AnyBut P md ops Q m S (n + 1) l a w :=
  ⟨fun h0 => absurd (hr ▸ h0) hne, hr ▸ h⟩
theorem bW {n : Nat} {l : Array Bool} {a a' : Act} {w : World} (i : Nat) {oi : Oper} (hi : ops[i]? = some oi) (v : Value) (h : AnyBut P md ops Q m S n (l.setIfInBounds i true) a' w)
    (hs : Region.noSelect ops = true := by kernel_rfl) (hf : Region.free md ops l i = true := by kernel_rfl) (hr : (Region.ready md ops l).contains i = true := by kernel_rfl) (hm : (Region.waitsFor md ops m i && decide (i ≠ m)) = true := by kernel_rfl)
    (hQ : ∀ c a w, Q (.panic c) (a.put oi.dst v) w → Q (.panic c) a w := by exact fun _ _ _ h => h) (hS : S w := by assumption) (hy : YieldsIf P ops S oi v a := by exact Or.inl ⟨by kernel_rfl, by intro W _; go_simp⟩)
    (ha : a.put oi.dst v = a' := by first | (simp only [Act.put, List.getElem_toArray, List.getElem_cons_succ, List.getElem_cons_zero, List.setIfInBounds_toArray, List.set_cons_zero, List.set_cons_succ]; rfl) | rfl) :
    AnyBut P md ops Q m S (n + 1) l a w := AnyBut.take hi hs hf hr hm hQ hy hS (ha ▸ h)
theorem bS {n : Nat} {l : Array Bool} {a a' : Act} {w : World} (i : Nat) {oi : Oper} (hi : ops[i]? = some oi) (v : Value) (hq : ∀ W, S W → (execOp a.eval oi).run P W = .ok (.value v) W) (h : AnyBut P md ops Q m S n (l.setIfInBounds i true) a' w)
    (hs : Region.noSelect ops = true := by kernel_rfl) (hf : Region.free md ops l i = true := by kernel_rfl) (hr : (Region.ready md ops l).contains i = true := by kernel_rfl) (hm : (Region.waitsFor md ops m i && decide (i ≠ m)) = true := by kernel_rfl)
    (hQ : ∀ c a w, Q (.panic c) (a.put oi.dst v) w → Q (.panic c) a w := by exact fun _ _ _ h => h) (hS : S w := by assumption) (hw : Region.wanted oi (yielded ops a.tmps) = true := by kernel_rfl)
    (ha : a.put oi.dst v = a' := by first | (simp only [Act.put, List.getElem_toArray, List.getElem_cons_succ, List.getElem_cons_zero, List.setIfInBounds_toArray, List.set_cons_zero, List.set_cons_succ]; rfl) | rfl) :
    AnyBut P md ops Q m S (n + 1) l a w := AnyBut.take hi hs hf hr hm hQ (.inl ⟨hw, hq⟩) hS (ha ▸ h)
theorem bR {n : Nat} {l : Array Bool} {a : Act} {w : World} (i : Nat) {o : Oper} (ho : ops[i]? = some o)
    (h : ∀ K : Act → World → Prop, Shut (∀ a w, S w → (S w → AnyBut P md ops Q m S n (l.setIfInBounds i true) a w) → K a w) → if Region.wanted o (yielded ops a.tmps) = true then Oper.wp P o a w K Q else K (a.put o.dst undef) w)
    (hr : Region.ready md ops l = [i] := by kernel_rfl) : AnyBut P md ops Q m S (n + 1) l a w := AnyBut.ready hr (by simp) (AllBut.cons ho h AllBut.nil)
theorem bL {n : Nat} {l : Array Bool} {a : Act} {w : World} {o : Oper} (ho : ops[m]? = some o)
    (h : ∀ K : Act → World → Prop, Shut (∀ a w, AnyBut P md ops Q m S n (l.setIfInBounds m true) a w → K a w) → if Region.wanted o (yielded ops a.tmps) = true then Oper.wp P o a w K Q else K (a.put o.dst undef) w)
    (hr : Region.ready md ops l = [m] := by kernel_rfl) : AnyBut P md ops Q m S (n + 1) l a w := AnyBut.ready hr (by simp) (AllBut.last ho h)
theorem bK {n : Nat} {l : Array Bool} {a a' : Act} {w : World} {K : Act → World → Prop} (hK : Shut (∀ a w, S w → (S w → AnyBut P md ops Q m S n l a w) → K a w)) (hS : S w) (h : S w → AnyBut P md ops Q m S n l a' w)
    (ha : a = a' := by first | (simp only [Act.put, List.getElem_toArray, List.getElem_cons_succ, List.getElem_cons_zero, List.setIfInBounds_toArray, List.set_cons_zero, List.set_cons_succ]; rfl) | rfl) : K a w := by
  subst ha
  exact hK.out _ _ hS h
theorem bE {n : Nat} {l : Array Bool} {a : Act} {w : World} {Q : Exit → Act → World → Prop} (h : Q .normal a w) (hr : Region.ready md ops l = [] := by kernel_rfl) : AnyBut P md ops (NoPanic Q) m S n l a w := AnyBut.done hr (NoPanic.normal h) _
theorem bD {id : Nat} {a : Act} {w : World} {Q : Exit → Act → World → Prop} (m : Nat) (S : World → Prop) (hS : S w.drew) (h : S w.drew → AnyBut P .any ops (NoPanic Q) m S ops.size (Array.replicate ops.size false) a w.drew) (hm : P.follows .mixedOrders = true := by kernel_rfl) :
    (Code.region id ops true).wp P Q a w := wp_region_noPanic (wp_region_any hm (AnyBut.any _ _ _ _ (h hS)))
end
end Go.Proofs.YtimmadkbkimonaaGreatDoor
namespace Go.Proofs.YtimmadkbkimonaaGreatDoor
set_option linter.unusedSimpArgs false
set_option linter.unusedVariables false
open Go.RowKit

theorem dig_all : (List.range 100).all (fun n => Lib.decDigits n == itoaB n) = true := by decide +kernel
theorem dig_itoa {n : Nat} (h : n < 100) : Lib.decDigits n = itoaB n := by
  have := List.all_eq_true.1 dig_all n (List.mem_range.2 h)
  simpa using this
def headS (f : FaceV) : ByteArray := ⟨(headB f).toArray⟩
theorem bytes_ext {a b : ByteArray} (h : a.data.toList = b.data.toList) : a = b := by
  obtain ⟨⟨x⟩⟩ := a
  obtain ⟨⟨y⟩⟩ := b
  simp only at h
  subst h
  rfl
theorem headS_eq {f : FaceV} (h : headF f = true) : (((((⟨#[102, 97, 99, 101, 32]⟩ : ByteArray) ++ ⟨(Lib.decDigits f.eye.toNat).toArray⟩) ++ ⟨#[32]⟩) ++ ⟨(Lib.decDigits f.rings.toNat).toArray⟩) ++ ⟨#[32]⟩) ++ ⟨(Lib.decDigits f.sectors.toNat).toArray⟩ = headS f := by
  have hh := headF_iff.1 h
  rw [dig_itoa (n := f.eye.toNat) (by omega), dig_itoa (n := f.rings.toNat) (by omega), dig_itoa (n := f.sectors.toNat) (by omega)]
  apply bytes_ext
  unfold headS headB
  simp [faceB]
theorem sz1 : (⟨#[32]⟩ : ByteArray).size = 1 := rfl
theorem sz5 : (⟨#[102, 97, 99, 101, 32]⟩ : ByteArray).size = 5 := rfl
set_option maxHeartbeats 4000000 in
set_option maxRecDepth 100000 in
theorem header_any (f : FaceV) (a : Option Addr) (n : Nat) (w : World) (hv : headF f = true) : Calls Tryz.prog 74 #[.agg (f.cells a n)] w fun e w' => e = .returned (.string (headS f)) ∧ Below w.heap.size w w' := by
  have DL : Hid ((Lib.decDigits f.eye.toNat).length ≤ 2 ∧ (Lib.decDigits f.rings.toNat).length ≤ 2 ∧ (Lib.decDigits f.sectors.toNat).length ≤ 2) := Lib.hid (by
    have hh := headF_iff.1 hv
    rw [dig_itoa (n := f.eye.toNat) (by omega), dig_itoa (n := f.rings.toNat) (by omega), dig_itoa (n := f.sectors.toNat) (by omega)]
    have h : ∀ n, (itoaB n).length ≤ 2 := fun n => by unfold itoaB; split <;> simp
    exact ⟨h _, h _, h _⟩)
  have HH := Lib.hid (headF_iff.1 hv)
  have EQ := Lib.hid (headS_eq hv)
  have IE := Lib.hid (fun W => sh_strconv_Itoa_small f.eye.toNat (by have := HH.out; omega) W)
  have IR := Lib.hid (fun W => sh_strconv_Itoa_small f.rings.toNat (by have := HH.out; omega) W)
  have IS := Lib.hid (fun W => sh_strconv_Itoa_small f.sectors.toNat (by have := HH.out; omega) W)
  rw [Int.toNat_of_nonneg (by have := HH.out; omega)] at IE IR IS
  clear hv
  obtain ⟨x1, hx1⟩ : ∃ x, Hid ((⟨(Lib.decDigits f.eye.toNat).toArray⟩ : ByteArray) = x) := ⟨_, Lib.hid rfl⟩
  obtain ⟨x2, hx2⟩ : ∃ x, Hid ((⟨(Lib.decDigits f.rings.toNat).toArray⟩ : ByteArray) = x) := ⟨_, Lib.hid rfl⟩
  obtain ⟨x3, hx3⟩ : ∃ x, Hid ((⟨(Lib.decDigits f.sectors.toNat).toArray⟩ : ByteArray) = x) := ⟨_, Lib.hid rfl⟩
  have L1 : Hid (x1.size ≤ 2) := Lib.hid (by rw [← hx1.out]; exact DL.out.1)
  have L2 : Hid (x2.size ≤ 2) := Lib.hid (by rw [← hx2.out]; exact DL.out.2.1)
  have L3 : Hid (x3.size ≤ 2) := Lib.hid (by rw [← hx3.out]; exact DL.out.2.2)
  rw [hx1.out] at EQ IE
  rw [hx2.out] at EQ IR
  rw [hx3.out] at EQ IS
  clear hx1 hx2 hx3 DL
  obtain ⟨s1, hs1⟩ : ∃ x, Hid ((⟨#[102, 97, 99, 101, 32]⟩ : ByteArray) ++ x1 = x) := ⟨_, Lib.hid rfl⟩
  obtain ⟨s2, hs2⟩ : ∃ x, Hid (s1 ++ (⟨#[32]⟩ : ByteArray) = x) := ⟨_, Lib.hid rfl⟩
  obtain ⟨s3, hs3⟩ : ∃ x, Hid (s2 ++ x2 = x) := ⟨_, Lib.hid rfl⟩
  obtain ⟨s4, hs4⟩ : ∃ x, Hid (s3 ++ (⟨#[32]⟩ : ByteArray) = x) := ⟨_, Lib.hid rfl⟩
  obtain ⟨s5, hs5⟩ : ∃ x, Hid (s4 ++ x3 = x) := ⟨_, Lib.hid rfl⟩
  rw [hs1.out, hs2.out, hs3.out, hs4.out, hs5.out] at EQ
  have M1 : Hid (s1.size ≤ 10) := Lib.hid (by have := L1.out; rw [← hs1.out, ByteArray.size_append]; show 5 + _ ≤ _; omega)
  have M2 : Hid (s2.size ≤ 12) := Lib.hid (by have := M1.out; rw [← hs2.out, ByteArray.size_append]; show _ + 1 ≤ _; omega)
  have M3 : Hid (s3.size ≤ 20) := Lib.hid (by have := M2.out; have := L2.out; rw [← hs3.out, ByteArray.size_append]; omega)
  have M4 : Hid (s4.size ≤ 22) := Lib.hid (by have := M3.out; rw [← hs4.out, ByteArray.size_append]; show _ + 1 ≤ _; omega)
  have AL := Lib.hid (al1 w (.cells (f.cells a n) 28))
  go_enter Tryz.func74, Tryz.ntmps74
  go_upto_region 1 with fail
  obtain ⟨p, hp⟩ : ∃ p, Hid (w.heap.size = p) := ⟨_, Lib.hid rfl⟩
  rw [hp.out] at AL ⊢
  generalize (w.alloc (.cells (f.cells a n) 28)) = W0 at *
  have BF : Hid (Below w.heap.size w W0) := Lib.hid (by rw [hp.out]; exact AL.out.1)
  have XF : Hid (W0.heap[p]? = some (.cells (f.cells a n) 28 (0, 0))) := Lib.hid AL.out.2
  clear AL
  have c0 := qcell XF.out 0 (.int .i64 f.eye) rfl
  have c1 := qcell XF.out 1 (.int .i64 f.rings) rfl
  have c2 := qcell XF.out 2 (.int .i64 f.sectors) rfl
  have c3 := qcell XF.out 3 (.slice a f.kinds.length n) rfl
  clear c0 c1 c2 c3
  have hd : Below W0.heap.size W0 W0.drew := (Below.refl _ _).drew
  replace BF := Lib.hid (BF.out.drew)
  replace XF := Lib.hid (qblk hd XF.out)
  refine zD (fun W => Below w.heap.size w W ∧ W.heap[p]? = some (.cells (f.cells a n) 28 (0, 0))) ⟨BF.out, XF.out⟩ (fun hHeld => ?_)
  clear hd
  generalize W0.drew = V0 at *
  refine zW 0 rfl (.pointer (some ⟨p, 0, none⟩)) ?_
  refine zS 1 rfl (.int .i64 f.eye) (fun W hW => by have c := qcell hW.2 0 (.int .i64 f.eye) rfl; go_simp) ?_
  refine zW 5 rfl (.pointer (some ⟨p, 1, none⟩)) ?_
  refine zS 6 rfl (.int .i64 f.rings) (fun W hW => by have c := qcell hW.2 1 (.int .i64 f.rings) rfl; go_simp) ?_
  refine zW 10 rfl (.pointer (some ⟨p, 2, none⟩)) ?_
  refine zS 11 rfl (.int .i64 f.sectors) (fun W hW => by have c := qcell hW.2 2 (.int .i64 f.sectors) rfl; go_simp) ?_
  refine zR 2 rfl (fun K hK => ?_)
  go_simp
  refine (IE.out _).mono ?_
  rintro e V1 ⟨rfl, rfl⟩
  dsimp only
  refine zK hK ⟨BF.out, XF.out⟩ (fun hHeld => ?_)
  clear hK K
  refine zW 3 rfl (.string s1) (hy := .inl ⟨by kernel_rfl, by intro W _; have e := hs1.out; go_simp; have l1 := L1.out; have l2 := L1.out; (try simp only [sz1, sz5]); omega⟩) ?_
  refine zW 4 rfl (.string s2) (hy := .inl ⟨by kernel_rfl, by intro W _; have e := hs2.out; go_simp; have l1 := M1.out; have l2 := M1.out; (try simp only [sz1, sz5]); omega⟩) ?_
  refine zR 7 rfl (fun K hK => ?_)
  go_simp
  refine (IR.out _).mono ?_
  rintro e V1 ⟨rfl, rfl⟩
  dsimp only
  refine zK hK ⟨BF.out, XF.out⟩ (fun hHeld => ?_)
  clear hK K
  refine zW 8 rfl (.string s3) (hy := .inl ⟨by kernel_rfl, by intro W _; have e := hs3.out; go_simp; have l1 := M2.out; have l2 := L2.out; (try simp only [sz1, sz5]); omega⟩) ?_
  refine zW 9 rfl (.string s4) (hy := .inl ⟨by kernel_rfl, by intro W _; have e := hs4.out; go_simp; have l1 := M3.out; have l2 := M3.out; (try simp only [sz1, sz5]); omega⟩) ?_
  refine zR 12 rfl (fun K hK => ?_)
  go_simp
  refine (IS.out _).mono ?_
  rintro e V1 ⟨rfl, rfl⟩
  dsimp only
  refine zK hK ⟨BF.out, XF.out⟩ (fun hHeld => ?_)
  clear hK K
  refine zW 13 rfl (.string s5) (hy := .inl ⟨by kernel_rfl, by intro W _; have e := hs5.out; go_simp; have l1 := M4.out; have l2 := L3.out; (try simp only [sz1, sz5]); omega⟩) ?_
  refine zW 14 rfl (.string s5) ?_
  refine zE ?_
  go_wp2_with fail
  go_ret
  exact ⟨by rw [← EQ.out]; rfl, BF.out⟩
end Go.Proofs.YtimmadkbkimonaaGreatDoor
namespace Go.Proofs.YtimmadkbkimonaaGreatDoor
section
variable {P : Program} {ops : Array Oper} {Q : Exit → Act → World → Prop} {rest : List Oper} {o : Oper} {a a' : Act} {w : World}
theorem yW (v : Value) (h : wpList P ops Q rest a' w) (hy : YieldsIf P ops (fun W => W = w) o v a := by exact Or.inl ⟨by kernel_rfl, by intro W hW; rw [hW]; go_simp⟩)
    (ha : a.put o.dst v = a' := by first | (simp only [Act.put, List.getElem_toArray, List.getElem_cons_succ, List.getElem_cons_zero, List.setIfInBounds_toArray, List.set_cons_zero, List.set_cons_succ]; rfl) | rfl) : wpList P ops Q (o :: rest) a w := by
  subst ha
  unfold wpList
  rcases hy with ⟨hw, hv⟩ | ⟨hw, rfl⟩
  · rw [if_pos hw]
    left
    unfold Oper.wp
    rw [hv w rfl]
    exact h
  · rw [if_neg (by rw [hw]; exact Bool.false_ne_true)]
    exact h
theorem yM (v : Value) (h : wpList P ops Q rest a' w) (hw : Region.wanted o (yielded ops a.tmps) = true := by kernel_rfl) (hv : ∀ W, (execOp a.eval o).run P W = .ok (.value v) W := by intro W; kernel_rfl)
    (ha : a.put o.dst v = a' := by first | (simp only [Act.put, List.getElem_toArray, List.getElem_cons_succ, List.getElem_cons_zero, List.setIfInBounds_toArray, List.set_cons_zero, List.set_cons_succ]; rfl) | rfl) : wpList P ops Q (o :: rest) a w :=
  yW v h (.inl ⟨hw, fun W _ => hv W⟩) ha
theorem yR (h : ∀ K : Act → World → Prop, RowKit.Hid (∀ a w, wpList P ops Q rest a w → K a w) → o.wp P a w K Q) (hw : Region.wanted o (yielded ops a.tmps) = true := by kernel_rfl) : wpList P ops Q (o :: rest) a w := by
  unfold wpList
  rw [if_pos hw]
  exact .inl (h _ (Lib.hid fun _ _ h => h))
theorem yK {K : Act → World → Prop} (hK : RowKit.Hid (∀ a w, wpList P ops Q rest a w → K a w)) (h : wpList P ops Q rest a' w)
    (ha : a = a' := by first | (simp only [Act.put, List.getElem_toArray, List.getElem_cons_succ, List.getElem_cons_zero, List.setIfInBounds_toArray, List.set_cons_zero, List.set_cons_succ]; rfl) | rfl) : K a w := by
  subst ha
  exact hK.out _ _ h
theorem yE (h : Q .normal a w) : wpList P ops Q [] a w := wpList_nil h
theorem yB {id : Nat} {l : List Oper} (h : wpList P l.toArray Q l a w) : (Code.region id l.toArray false).wp P Q a w := wp_region_lit h
end
end Go.Proofs.YtimmadkbkimonaaGreatDoor
namespace Go.Proofs.YtimmadkbkimonaaGreatDoor
set_option linter.unusedSimpArgs false
set_option linter.unusedVariables false
open Go.RowKit

def EnvW (W : World) : Prop := (∃ m, W.cell? ⟨0, 0, none⟩ = some (.int .i64 m)) ∧ (∃ ev, W.cell? ⟨3, 0, none⟩ = some ev ∧ (ev = .nilIface ∨ ∃ te pe, ev = .iface te pe)) ∧ ∃ ev, W.cell? ⟨4, 0, none⟩ = some ev ∧ (ev = .nilIface ∨ ∃ te pe, ev = .iface te pe)
theorem EnvW.below {W W' : World} (h : EnvW W) (hb : Below W.heap.size W W') : EnvW W' := by
  obtain ⟨⟨m, h1⟩, ⟨e1, h2, h3⟩, ⟨e2, h4, h5⟩⟩ := h
  exact ⟨⟨m, (hb.cell (p := ⟨0, 0, none⟩) (World.block_lt_of_cell? W _ h1)).trans h1⟩, ⟨e1, (hb.cell (p := ⟨3, 0, none⟩) (World.block_lt_of_cell? W _ h2)).trans h2, h3⟩, ⟨e2, (hb.cell (p := ⟨4, 0, none⟩) (World.block_lt_of_cell? W _ h4)).trans h4, h5⟩⟩
def atoiV (l : List UInt8) : Int := match Lib.atoiAll l with
  | Lib.NumEnd.ok v => v
  | Lib.NumEnd.syntax => 0
  | Lib.NumEnd.range => Lib.atoiSat l
theorem atoi_any (s : ByteArray) (w : World) (hs : s.size ≤ 1000000) (he : EnvW w) : Calls Tryz.prog 124 #[.string s] w fun e w' => (∃ ev, e = .returned (.tuple #[.int .i64 (atoiV s.data.toList), ev])) ∧ Below w.heap.size w w' := by
  obtain ⟨_, ⟨e1, h2, h3⟩, ⟨e2, h4, h5⟩⟩ := he
  unfold atoiV
  match h : Lib.atoiAll s.data.toList with
  | Lib.NumEnd.ok v =>
    refine (sh_strconv_Atoi_ok s (by omega) v h w).mono ?_
    rintro e W ⟨rfl, hw⟩
    refine ⟨⟨_, rfl⟩, ?_⟩
    rcases hw with rfl | ⟨t, rfl⟩
    · exact Below.refl _ _
    · exact Lib.bytesWorld_below _ _ _
  | Lib.NumEnd.syntax =>
    refine (sh_strconv_Atoi_syntax s (by omega) h e1 w h2 h3).mono ?_
    rintro e W ⟨N, rfl, _, _, hb⟩
    exact ⟨⟨_, rfl⟩, hb⟩
  | Lib.NumEnd.range =>
    refine (sh_strconv_Atoi_range s (by omega) h e2 w h4 h5).mono ?_
    rintro e W ⟨N, rfl, _, _, hb⟩
    exact ⟨⟨_, rfl⟩, hb⟩
def wordsS (s : ByteArray) : List ByteArray := Lib.splitB ⟨#[32]⟩ 0 (Lib.countB s ⟨#[32]⟩) s
theorem wordsS_len (s : ByteArray) : (wordsS s).length = Lib.countB s ⟨#[32]⟩ + 1 := Lib.splitB_all ⟨#[32]⟩ (by decide) 0 _ s rfl
theorem splitB_size (sep : ByteArray) : ∀ (k : Nat) (s x : ByteArray), x ∈ Lib.splitB sep 0 k s → x.size ≤ s.size
  | 0, s, x, h => by
    have := List.mem_singleton.1 h
    subst this; exact Nat.le_refl _
  | k + 1, s, x, h => by
    unfold Lib.splitB at h
    split at h
    · have := List.mem_singleton.1 h
      subst this; exact Nat.le_refl _
    · rcases List.mem_cons.1 h with h | h
      · subst h
        rw [ByteArray.size_extract]; omega
      · have := splitB_size sep k _ x h
        rw [ByteArray.size_extract] at this; omega
theorem wordsS_size (s x : ByteArray) (h : x ∈ wordsS s) : x.size ≤ s.size := splitB_size _ _ s x h
def hdrF (s : ByteArray) : FaceV × Bool := match wordsS s with
  | [_, a, b, c] => (⟨atoiV a.data.toList, atoiV b.data.toList, atoiV c.data.toList, []⟩, headF ⟨atoiV a.data.toList, atoiV b.data.toList, atoiV c.data.toList, []⟩ && headS ⟨atoiV a.data.toList, atoiV b.data.toList, atoiV c.data.toList, []⟩ == s)
  | _ => (zeroF, false)
def hdrC (a b c : Int) (k : Nat) : Array Value := #[.int .i64 (if 0 < k then a else 0), .int .i64 (if 1 < k then b else 0), .int .i64 (if 2 < k then c else 0), .slice none 0 0]
theorem hdrF_four {s w0 a b c : ByteArray} (h : wordsS s = [w0, a, b, c]) : hdrF s = (⟨atoiV a.data.toList, atoiV b.data.toList, atoiV c.data.toList, []⟩, headF ⟨atoiV a.data.toList, atoiV b.data.toList, atoiV c.data.toList, []⟩ && headS ⟨atoiV a.data.toList, atoiV b.data.toList, atoiV c.data.toList, []⟩ == s) := by
  unfold hdrF
  rw [h]
theorem hdrF_not {s : ByteArray} (h : (wordsS s).length ≠ 4) : hdrF s = (zeroF, false) := by
  unfold hdrF
  split
  · rename_i h1; rw [h1] at h; exact absurd rfl h
  · rfl
set_option maxHeartbeats 4000000 in
set_option maxRecDepth 100000 in
theorem parseHeader_any (s : ByteArray) (w : World) (hs : s.size ≤ 100000) (he : EnvW w) : Calls Tryz.prog 81 #[.string s] w fun e w' => e = .returned (.tuple #[.agg ((hdrF s).1.cells none 0), .bool (hdrF s).2]) ∧ Below w.heap.size w w' := by
  have EV := Lib.hid (fun W (hb : Below w.heap.size w W) => he.below hb)
  have HS := Lib.hid hs
  clear he hs
  have AL := Lib.hid (al2 w (.cells #[.int .i64 0, .int .i64 0, .int .i64 0, .slice none 0 0] 28) (.cells #[.int .i64 0, .int .i64 0, .int .i64 0, .slice none 0 0] 28))
  go_enter Tryz.func81, Tryz.ntmps81
  go_upto_region 2 with fail
  obtain ⟨z, hz⟩ : ∃ z, Hid (w.heap.size = z) := ⟨_, Lib.hid rfl⟩
  obtain ⟨p, hp⟩ : ∃ p, Hid (w.heap.size + 1 = p) := ⟨_, Lib.hid rfl⟩
  rw [hp.out] at AL ⊢
  rw [hz.out] at AL ⊢
  generalize ((w.alloc (.cells #[.int .i64 0, .int .i64 0, .int .i64 0, .slice none 0 0] 28)).alloc (.cells #[.int .i64 0, .int .i64 0, .int .i64 0, .slice none 0 0] 28)) = W0 at *
  have BF : Hid (Below w.heap.size w W0) := Lib.hid (by rw [hz.out]; exact AL.out.1)
  have XZ : Hid (W0.heap[z]? = some (.cells (zeroF.cells none 0) 28 (0, 0))) := Lib.hid AL.out.2.1
  have XP : Hid (W0.heap[p]? = some (.cells (zeroF.cells none 0) 28 (0, 0))) := Lib.hid AL.out.2.2
  clear AL
  go_wp2_with fail
  obtain ⟨m, hm⟩ := (EV.out W0 BF.out).1
  refine (sh_strings_Split s ⟨#[32]⟩ m W0 (by have := HS.out; omega) hm (by decide)).mono ?_
  rintro e V1 ⟨rfl, hV1⟩
  have eW : Lib.splitB ⟨#[32]⟩ 0 (Lib.countB s ⟨#[32]⟩) s = wordsS s := rfl
  rw [eW] at hV1
  clear eW hm
  have AL := al1 W0 (.cells ((wordsS s).map Value.string).toArray 9)
  rw [← hV1] at AL
  obtain ⟨g, hg⟩ : ∃ x, Hid (W0.heap.size = x) := ⟨_, Lib.hid rfl⟩
  have NG : Hid (z ≠ p ∧ g ≠ p ∧ w.heap.size ≤ p ∧ w.heap.size ≤ z) := Lib.hid (by have h1 := hz.out; have h2 := hp.out; have h3 := qlt XP.out; have h4 := hg.out; omega)
  replace BF := Lib.hid (BF.out.trans (AL.1.mono BF.out.size))
  replace XZ := Lib.hid (qblk AL.1 XZ.out)
  replace XP := Lib.hid (qblk AL.1 XP.out)
  have XG := Lib.hid AL.2
  rw [hg.out] at XG ⊢
  clear AL hV1
  obtain ⟨L, hL⟩ : ∃ L, Hid ((Lib.countB s ⟨#[32]⟩ + 1) = L) := ⟨_, Lib.hid rfl⟩
  have WL := Lib.hid (wordsS_len s)
  rw [hL.out] at WL ⊢
  by_cases h4 : L = 4
  · subst h4
    obtain ⟨w0, a1, a2, a3, hw⟩ : ∃ w0 a1 a2 a3, wordsS s = [w0, a1, a2, a3] := by
      have h := WL.out
      match wordsS s, h with
      | [w0, a1, a2, a3], _ => exact ⟨w0, a1, a2, a3, rfl⟩
    have HD := Lib.hid (hdrF_four hw)
    have S1 := Lib.hid (wordsS_size s a1 (by rw [hw]; simp))
    have S2 := Lib.hid (wordsS_size s a2 (by rw [hw]; simp))
    have S3 := Lib.hid (wordsS_size s a3 (by rw [hw]; simp))
    rw [hw] at XG
    have XW : Hid (V1.heap[g]? = some (.cells #[.string w0, .string a1, .string a2, .string a3] 9 (0, 0))) := Lib.hid XG.out
    clear XG hw WL hL
    obtain ⟨v1, hv1⟩ : ∃ v, Hid (atoiV a1.data.toList = v) := ⟨_, Lib.hid rfl⟩
    obtain ⟨v2, hv2⟩ : ∃ v, Hid (atoiV a2.data.toList = v) := ⟨_, Lib.hid rfl⟩
    obtain ⟨v3, hv3⟩ : ∃ v, Hid (atoiV a3.data.toList = v) := ⟨_, Lib.hid rfl⟩
    rw [hv1.out, hv2.out, hv3.out] at HD
    go_upto_region 5 with fail
    refine yB ?_
    refine yW (.pointer (some ⟨p, 0, none⟩)) ?_
    refine yW (.pointer (some ⟨p, 1, none⟩)) ?_
    refine yW (.pointer (some ⟨p, 2, none⟩)) ?_
    refine yR (fun K hK => ?_)
    refine qbuild (w' := V1.alloc (.cells #[.pointer (some ⟨p, 0, none⟩), .pointer (some ⟨p, 1, none⟩), .pointer (some ⟨p, 2, none⟩)] 142)) (.slice (some ⟨V1.heap.size, 0, none⟩) 3 3) (by kernel_rfl) ?_
    have AL := al1 V1 (.cells #[.pointer (some ⟨p, 0, none⟩), .pointer (some ⟨p, 1, none⟩), .pointer (some ⟨p, 2, none⟩)] 142)
    have hd := AL.1
    obtain ⟨R, hR⟩ : ∃ x, Hid (V1.heap.size = x) := ⟨_, Lib.hid rfl⟩
    have NR : Hid (R ≠ p) := Lib.hid (by have h1 := qlt XP.out; have h2 := hR.out; omega)
    replace BF := Lib.hid (BF.out.trans (hd.mono BF.out.size))
    replace XZ := Lib.hid (qblk hd XZ.out)
    replace XP := Lib.hid (qblk hd XP.out)
    replace XW := Lib.hid (qblk hd XW.out)
    have XR := Lib.hid AL.2
    rw [hR.out] at XR ⊢
    clear AL hd
    generalize V1.alloc (.cells #[.pointer (some ⟨p, 0, none⟩), .pointer (some ⟨p, 1, none⟩), .pointer (some ⟨p, 2, none⟩)] 142) = V2 at *
    refine yK hK ?_
    clear hK K
    refine yW (.int .i64 3) ?_
    refine yM (.int .i64 0) ?_
    refine yE ?_
    go_wp2_with fail
    go_loopw [20] (fun v wr => ∃ k : Nat, v = .int .i64 (k : Int) ∧ k ≤ 3 ∧ Hid (Below w.heap.size w wr) ∧ Hid (wr.heap[z]? = some (.cells (zeroF.cells none 0) 28 (0, 0))) ∧ Hid (wr.heap[p]? = some (.cells (hdrC v1 v2 v3 k) 28 (0, 0))) ∧ Hid (wr.heap[g]? = some (.cells #[.string w0, .string a1, .string a2, .string a3] 9 (0, 0))) ∧ Hid (wr.heap[R]? = some (.cells #[.pointer (some ⟨p, 0, none⟩), .pointer (some ⟨p, 1, none⟩), .pointer (some ⟨p, 2, none⟩)] 142 (0, 0)))) (fun v _ => 3 - (intOf v).toNat)
    case atStart => exact ⟨0, rfl, by omega, BF, XZ, XP, XW, XR⟩
    case round =>
      clear BF XZ XP XW XR
      obtain ⟨k, rfl, hk, BF, XZ, XP, XW, XR⟩ := hrel
      rcases (show k = 0 ∨ k = 1 ∨ k = 2 ∨ k = 3 by omega) with rfl | rfl | rfl | rfl
      · have cr := qcell XR.out 0 (.pointer (some ⟨p, 0, none⟩)) rfl
        have cw := qcell XW.out 1 (.string a1) rfl
        go_upto_region 8 with fail
        go_wp2_with fail
        refine (atoi_any a1 _ (by have := S1.out; have := HS.out; omega) (EV.out _ BF.out)).mono ?_
        rintro e X1 ⟨⟨ev, rfl⟩, b⟩
        clear cr cw
        replace BF := Lib.hid (BF.out.trans (b.mono BF.out.size))
        replace XZ := Lib.hid (qblk b XZ.out)
        replace XP := Lib.hid (qblk b XP.out)
        replace XW := Lib.hid (qblk b XW.out)
        replace XR := Lib.hid (qblk b XR.out)
        clear b
        rw [hv1.out]
        have cp := qcell XP.out 0 (.int .i64 0) rfl
        have fz := qfroz XP.out 0
        go_upto_region 9 with fail
        clear cp fz
        have HG := qput_grown X1 p 0 (.int .i64 v1)
        replace BF := Lib.hid (qstep BF.out HG NG.out.2.2.1)
        have XP2 : Hid ((X1.setCell ⟨p, 0, none⟩ (.int .i64 v1)).heap[p]? = some (.cells (hdrC v1 v2 v3 1) 28 (0, 0))) := Lib.hid (by rw [qput_at XP.out 0 _]; rfl)
        replace XZ := Lib.hid (qgrown HG XZ.out (fun e => NG.out.1 (Option.some.inj e)))
        replace XW := Lib.hid (qgrown HG XW.out (fun e => NG.out.2.1 (Option.some.inj e)))
        replace XR := Lib.hid (qgrown HG XR.out (fun e => NR.out (Option.some.inj e)))
        clear HG XP
        generalize X1.setCell ⟨p, 0, none⟩ (.int .i64 v1) = X2 at *
        go_wp2_with fail
        go_roundw
        case rel => exact ⟨1, rfl, by omega, BF, XZ, XP2, XW, XR⟩
        case measure => simp [intOf]
      · have cr := qcell XR.out 1 (.pointer (some ⟨p, 1, none⟩)) rfl
        have cw := qcell XW.out 2 (.string a2) rfl
        go_upto_region 8 with fail
        go_wp2_with fail
        refine (atoi_any a2 _ (by have := S2.out; have := HS.out; omega) (EV.out _ BF.out)).mono ?_
        rintro e X1 ⟨⟨ev, rfl⟩, b⟩
        clear cr cw
        replace BF := Lib.hid (BF.out.trans (b.mono BF.out.size))
        replace XZ := Lib.hid (qblk b XZ.out)
        replace XP := Lib.hid (qblk b XP.out)
        replace XW := Lib.hid (qblk b XW.out)
        replace XR := Lib.hid (qblk b XR.out)
        clear b
        rw [hv2.out]
        have cp := qcell XP.out 1 (.int .i64 0) rfl
        have fz := qfroz XP.out 1
        go_upto_region 9 with fail
        clear cp fz
        have HG := qput_grown X1 p 1 (.int .i64 v2)
        replace BF := Lib.hid (qstep BF.out HG NG.out.2.2.1)
        have XP2 : Hid ((X1.setCell ⟨p, 1, none⟩ (.int .i64 v2)).heap[p]? = some (.cells (hdrC v1 v2 v3 2) 28 (0, 0))) := Lib.hid (by rw [qput_at XP.out 1 _]; rfl)
        replace XZ := Lib.hid (qgrown HG XZ.out (fun e => NG.out.1 (Option.some.inj e)))
        replace XW := Lib.hid (qgrown HG XW.out (fun e => NG.out.2.1 (Option.some.inj e)))
        replace XR := Lib.hid (qgrown HG XR.out (fun e => NR.out (Option.some.inj e)))
        clear HG XP
        generalize X1.setCell ⟨p, 1, none⟩ (.int .i64 v2) = X2 at *
        go_wp2_with fail
        go_roundw
        case rel => exact ⟨2, rfl, by omega, BF, XZ, XP2, XW, XR⟩
        case measure => simp [intOf]
      · have cr := qcell XR.out 2 (.pointer (some ⟨p, 2, none⟩)) rfl
        have cw := qcell XW.out 3 (.string a3) rfl
        go_upto_region 8 with fail
        go_wp2_with fail
        refine (atoi_any a3 _ (by have := S3.out; have := HS.out; omega) (EV.out _ BF.out)).mono ?_
        rintro e X1 ⟨⟨ev, rfl⟩, b⟩
        clear cr cw
        replace BF := Lib.hid (BF.out.trans (b.mono BF.out.size))
        replace XZ := Lib.hid (qblk b XZ.out)
        replace XP := Lib.hid (qblk b XP.out)
        replace XW := Lib.hid (qblk b XW.out)
        replace XR := Lib.hid (qblk b XR.out)
        clear b
        rw [hv3.out]
        have cp := qcell XP.out 2 (.int .i64 0) rfl
        have fz := qfroz XP.out 2
        go_upto_region 9 with fail
        clear cp fz
        have HG := qput_grown X1 p 2 (.int .i64 v3)
        replace BF := Lib.hid (qstep BF.out HG NG.out.2.2.1)
        have XP2 : Hid ((X1.setCell ⟨p, 2, none⟩ (.int .i64 v3)).heap[p]? = some (.cells (hdrC v1 v2 v3 3) 28 (0, 0))) := Lib.hid (by rw [qput_at XP.out 2 _]; rfl)
        replace XZ := Lib.hid (qgrown HG XZ.out (fun e => NG.out.1 (Option.some.inj e)))
        replace XW := Lib.hid (qgrown HG XW.out (fun e => NG.out.2.1 (Option.some.inj e)))
        replace XR := Lib.hid (qgrown HG XR.out (fun e => NR.out (Option.some.inj e)))
        clear HG XP
        generalize X1.setCell ⟨p, 2, none⟩ (.int .i64 v3) = X2 at *
        go_wp2_with fail
        go_roundw
        case rel => exact ⟨3, rfl, by omega, BF, XZ, XP2, XW, XR⟩
        case measure => simp [intOf]
      · have F3 : Hid (wr.heap[p]? = some (.cells ((⟨v1, v2, v3, []⟩ : FaceV).cells none 0) 28 (0, 0))) := Lib.hid XP.out
        clear XP XW XR
        obtain ⟨F, hF⟩ : ∃ F : FaceV, Hid (F = ⟨v1, v2, v3, []⟩) := ⟨_, Lib.hid rfl⟩
        have e1 : Hid (F.eye = v1 ∧ F.rings = v2 ∧ F.sectors = v3) := Lib.hid (by rw [hF.out]; exact ⟨rfl, rfl, rfl⟩)
        rw [← hF.out] at HD F3
        have N1 : Hid (inB v1 1 16 = false → headF F = false) := Lib.hid (fun h => by unfold headF; rw [e1.out.1, h]; rfl)
        have N2 : Hid (inB v2 1 24 = false → headF F = false) := Lib.hid (fun h => by unfold headF; rw [e1.out.2.1, h]; simp)
        have N3 : Hid (inB v3 2 96 = false → headF F = false) := Lib.hid (fun h => by unfold headF; rw [e1.out.2.2, h]; simp)
        have NY : Hid (inB v1 1 16 = true → inB v2 1 24 = true → inB v3 2 96 = true → headF F = true) := Lib.hid (fun h1 h2 h3 => by unfold headF; rw [e1.out.1, e1.out.2.1, e1.out.2.2, h1, h2, h3]; rfl)
        have p0 := qcell F3.out 0 (.int .i64 v1) (by rw [hF.out]; rfl)
        have p1 := qcell F3.out 1 (.int .i64 v2) (by rw [hF.out]; rfl)
        have p2 := qcell F3.out 2 (.int .i64 v3) (by rw [hF.out]; rfl)
        clear hv1 hv2 hv3 S1 S2 S3
        go_upto_region 10 with fail
        refine yB ?_
        refine yW (.pointer (some ⟨p, 0, none⟩)) ?_
        refine yW (.int .i64 v1) ?_
        refine yR (fun K hK => ?_)
        go_simp
        refine (within_any v1 1 16 _).mono ?_
        rintro e wr ⟨rfl, rfl⟩
        cases h1 : inB v1 1 16
        · have HN := Lib.hid (N1.out h1)
          clear h1
          try dsimp only
          refine yK hK ?_
          clear hK K
          refine yM (.bool false) ?_
          go_skip
          refine yM (.bool false) ?_
          refine yM (.bool false) ?_
          go_skip
          refine yM (.bool false) ?_
          refine yM (.bool false) ?_
          refine yE ?_
          go_upto_region 11 with fail
          clear p0 p1 p2
          clear N1 N2 N3 NY
          have hzd : Below wr.heap.size wr wr.drew := (Below.refl _ _).drew
          replace XZ := Lib.hid (qblk hzd XZ.out)
          clear hzd
          have hd : Below wr.heap.size wr wr.drew := (Below.refl _ _).drew
          replace BF := Lib.hid (BF.out.drew)
          replace F3 := Lib.hid (qblk hd F3.out)
          refine zD (fun W => Below w.heap.size w W ∧ W.heap[p]? = some (.cells (F.cells none 0) 28 (0, 0))) ⟨BF.out, F3.out⟩ (fun hHeld => ?_)
          clear hd
          generalize wr.drew = V3 at *
          refine zT 0 rfl (.agg (F.cells none 0)) (qyrow (by kernel_rfl) 28 _ rfl p rfl _ 28 (0, 0) _ (fun W hW => hW.2) Tryz.underlying28 rfl (by exact (qJF F none 0))) ?_
          refine zW 1 rfl (.bool false) ?_
          refine zW 2 rfl (.bool false) ?_
          refine zW 3 rfl undef (hy := .inr ⟨by kernel_rfl, rfl⟩) ?_
          refine zW 4 rfl undef (hy := .inr ⟨by kernel_rfl, rfl⟩) ?_
          refine zW 5 rfl undef (hy := .inr ⟨by kernel_rfl, rfl⟩) ?_
          refine zW 6 rfl undef (hy := .inr ⟨by kernel_rfl, rfl⟩) ?_
          refine zW 7 rfl (.bool false) ?_
          have HR : Hid (hdrF s = (F, false)) := Lib.hid (by rw [HD.out, HN.out, Bool.false_and])
          refine zR 8 rfl (fun K hK => ?_)
          rw [if_pos (by kernel_rfl)]
          refine qstore 28 _ _ rfl z (zeroF.cells none 0) (F.cells none 0) 28 rfl rfl XZ.out (by exact qJF F none 0) rfl (qone F none 0) ?_
          intro X h8 hg8 hs8
          replace BF := Lib.hid (qstep BF.out hg8 NG.out.2.2.2)
          replace F3 := Lib.hid (qgrown hg8 F3.out (fun e => NG.out.1 (Option.some.inj e).symm))
          replace XZ := Lib.hid h8
          clear h8 hg8 hs8
          refine zK hK ⟨BF.out, F3.out⟩ (fun hHeld => ?_)
          clear hK K
          refine zW 9 rfl (.bool false) ?_
          refine zE ?_
          clear hHeld
          go_wp2_with fail
          (try simp only [Exit.inBlock, Exit.then])
          refine bodyPost_ret (results_ct rfl _ X z 28 (F.cells none 0) (0, 0) _ rfl XZ.out Tryz.underlying28 rfl (by exact qJF F none 0)) rfl ?_
          rw [HR.out]
          exact ⟨rfl, BF.out⟩
        · have H1 := Lib.hid h1
          clear h1
          try dsimp only
          refine yK hK ?_
          clear hK K
          refine yM (.bool true) ?_
          refine yW (.pointer (some ⟨p, 1, none⟩)) ?_
          refine yW (.int .i64 v2) ?_
          refine yR (fun K hK => ?_)
          go_simp
          refine (within_any v2 1 24 _).mono ?_
          rintro e wr ⟨rfl, rfl⟩
          cases h2 : inB v2 1 24
          · have HN := Lib.hid (N2.out h2)
            clear h2
            try dsimp only
            refine yK hK ?_
            clear hK K
            refine yM (.bool false) ?_
            refine yM (.bool false) ?_
            go_skip
            refine yM (.bool false) ?_
            refine yM (.bool false) ?_
            refine yE ?_
            go_upto_region 11 with fail
            clear p0 p1 p2
            clear N1 N2 N3 NY
            have hzd : Below wr.heap.size wr wr.drew := (Below.refl _ _).drew
            replace XZ := Lib.hid (qblk hzd XZ.out)
            clear hzd
            have hd : Below wr.heap.size wr wr.drew := (Below.refl _ _).drew
            replace BF := Lib.hid (BF.out.drew)
            replace F3 := Lib.hid (qblk hd F3.out)
            refine zD (fun W => Below w.heap.size w W ∧ W.heap[p]? = some (.cells (F.cells none 0) 28 (0, 0))) ⟨BF.out, F3.out⟩ (fun hHeld => ?_)
            clear hd
            generalize wr.drew = V3 at *
            refine zT 0 rfl (.agg (F.cells none 0)) (qyrow (by kernel_rfl) 28 _ rfl p rfl _ 28 (0, 0) _ (fun W hW => hW.2) Tryz.underlying28 rfl (by exact (qJF F none 0))) ?_
            refine zW 1 rfl (.bool false) ?_
            refine zW 2 rfl (.bool false) ?_
            refine zW 3 rfl undef (hy := .inr ⟨by kernel_rfl, rfl⟩) ?_
            refine zW 4 rfl undef (hy := .inr ⟨by kernel_rfl, rfl⟩) ?_
            refine zW 5 rfl undef (hy := .inr ⟨by kernel_rfl, rfl⟩) ?_
            refine zW 6 rfl undef (hy := .inr ⟨by kernel_rfl, rfl⟩) ?_
            refine zW 7 rfl (.bool false) ?_
            have HR : Hid (hdrF s = (F, false)) := Lib.hid (by rw [HD.out, HN.out, Bool.false_and])
            refine zR 8 rfl (fun K hK => ?_)
            rw [if_pos (by kernel_rfl)]
            refine qstore 28 _ _ rfl z (zeroF.cells none 0) (F.cells none 0) 28 rfl rfl XZ.out (by exact qJF F none 0) rfl (qone F none 0) ?_
            intro X h8 hg8 hs8
            replace BF := Lib.hid (qstep BF.out hg8 NG.out.2.2.2)
            replace F3 := Lib.hid (qgrown hg8 F3.out (fun e => NG.out.1 (Option.some.inj e).symm))
            replace XZ := Lib.hid h8
            clear h8 hg8 hs8
            refine zK hK ⟨BF.out, F3.out⟩ (fun hHeld => ?_)
            clear hK K
            refine zW 9 rfl (.bool false) ?_
            refine zE ?_
            clear hHeld
            go_wp2_with fail
            (try simp only [Exit.inBlock, Exit.then])
            refine bodyPost_ret (results_ct rfl _ X z 28 (F.cells none 0) (0, 0) _ rfl XZ.out Tryz.underlying28 rfl (by exact qJF F none 0)) rfl ?_
            rw [HR.out]
            exact ⟨rfl, BF.out⟩
          · have H2 := Lib.hid h2
            clear h2
            try dsimp only
            refine yK hK ?_
            clear hK K
            refine yM (.bool true) ?_
            refine yM (.bool true) ?_
            refine yW (.pointer (some ⟨p, 2, none⟩)) ?_
            refine yW (.int .i64 v3) ?_
            refine yR (fun K hK => ?_)
            go_simp
            refine (within_any v3 2 96 _).mono ?_
            rintro e wr ⟨rfl, rfl⟩
            cases h3 : inB v3 2 96
            · have HN := Lib.hid (N3.out h3)
              clear h3
              try dsimp only
              refine yK hK ?_
              clear hK K
              refine yM (.bool false) ?_
              refine yM (.bool false) ?_
              refine yE ?_
              go_upto_region 11 with fail
              clear p0 p1 p2
              clear N1 N2 N3 NY
              have hzd : Below wr.heap.size wr wr.drew := (Below.refl _ _).drew
              replace XZ := Lib.hid (qblk hzd XZ.out)
              clear hzd
              have hd : Below wr.heap.size wr wr.drew := (Below.refl _ _).drew
              replace BF := Lib.hid (BF.out.drew)
              replace F3 := Lib.hid (qblk hd F3.out)
              refine zD (fun W => Below w.heap.size w W ∧ W.heap[p]? = some (.cells (F.cells none 0) 28 (0, 0))) ⟨BF.out, F3.out⟩ (fun hHeld => ?_)
              clear hd
              generalize wr.drew = V3 at *
              refine zT 0 rfl (.agg (F.cells none 0)) (qyrow (by kernel_rfl) 28 _ rfl p rfl _ 28 (0, 0) _ (fun W hW => hW.2) Tryz.underlying28 rfl (by exact (qJF F none 0))) ?_
              refine zW 1 rfl (.bool false) ?_
              refine zW 2 rfl (.bool false) ?_
              refine zW 3 rfl undef (hy := .inr ⟨by kernel_rfl, rfl⟩) ?_
              refine zW 4 rfl undef (hy := .inr ⟨by kernel_rfl, rfl⟩) ?_
              refine zW 5 rfl undef (hy := .inr ⟨by kernel_rfl, rfl⟩) ?_
              refine zW 6 rfl undef (hy := .inr ⟨by kernel_rfl, rfl⟩) ?_
              refine zW 7 rfl (.bool false) ?_
              have HR : Hid (hdrF s = (F, false)) := Lib.hid (by rw [HD.out, HN.out, Bool.false_and])
              refine zR 8 rfl (fun K hK => ?_)
              rw [if_pos (by kernel_rfl)]
              refine qstore 28 _ _ rfl z (zeroF.cells none 0) (F.cells none 0) 28 rfl rfl XZ.out (by exact qJF F none 0) rfl (qone F none 0) ?_
              intro X h8 hg8 hs8
              replace BF := Lib.hid (qstep BF.out hg8 NG.out.2.2.2)
              replace F3 := Lib.hid (qgrown hg8 F3.out (fun e => NG.out.1 (Option.some.inj e).symm))
              replace XZ := Lib.hid h8
              clear h8 hg8 hs8
              refine zK hK ⟨BF.out, F3.out⟩ (fun hHeld => ?_)
              clear hK K
              refine zW 9 rfl (.bool false) ?_
              refine zE ?_
              clear hHeld
              go_wp2_with fail
              (try simp only [Exit.inBlock, Exit.then])
              refine bodyPost_ret (results_ct rfl _ X z 28 (F.cells none 0) (0, 0) _ rfl XZ.out Tryz.underlying28 rfl (by exact qJF F none 0)) rfl ?_
              rw [HR.out]
              exact ⟨rfl, BF.out⟩
            · have H3 := Lib.hid h3
              clear h3
              have HN := Lib.hid (NY.out H1.out H2.out H3.out)
              try dsimp only
              refine yK hK ?_
              clear hK K
              refine yM (.bool true) ?_
              refine yM (.bool true) ?_
              refine yE ?_
              go_upto_region 11 with fail
              clear p0 p1 p2
              clear N1 N2 N3 NY
              have hzd : Below wr.heap.size wr wr.drew := (Below.refl _ _).drew
              replace XZ := Lib.hid (qblk hzd XZ.out)
              clear hzd
              have hd : Below wr.heap.size wr wr.drew := (Below.refl _ _).drew
              replace BF := Lib.hid (BF.out.drew)
              replace F3 := Lib.hid (qblk hd F3.out)
              refine zD (fun W => Below w.heap.size w W ∧ W.heap[p]? = some (.cells (F.cells none 0) 28 (0, 0))) ⟨BF.out, F3.out⟩ (fun hHeld => ?_)
              clear hd
              generalize wr.drew = V3 at *
              refine zT 0 rfl (.agg (F.cells none 0)) (qyrow (by kernel_rfl) 28 _ rfl p rfl _ 28 (0, 0) _ (fun W hW => hW.2) Tryz.underlying28 rfl (by exact (qJF F none 0))) ?_
              refine zW 1 rfl (.bool true) ?_
              refine zW 2 rfl (.bool true) ?_
              refine zT 3 rfl (.agg (F.cells none 0)) (qyrow (by kernel_rfl) 28 _ rfl p rfl _ 28 (0, 0) _ (fun W hW => hW.2) Tryz.underlying28 rfl (by exact (qJF F none 0))) ?_
              refine zW 5 rfl (.string s) ?_
              refine zR 4 rfl (fun K hK => ?_)
              go_simp
              refine (header_any F none 0 V3 HN.out).mono ?_
              rintro e V4 ⟨rfl, b⟩
              replace XZ := Lib.hid (qblk b XZ.out)
              replace BF := Lib.hid (BF.out.trans (b.mono BF.out.size))
              replace F3 := Lib.hid (qblk b F3.out)
              clear b
              dsimp only
              refine zK hK ⟨BF.out, F3.out⟩ (fun hHeld => ?_)
              clear hK K
              refine zW 6 rfl (.bool (headS F == s)) (hy := .inl ⟨by kernel_rfl, by intro W _; go_simp; exact (beq_toListBytes _ _).symm⟩) ?_
              refine zW 7 rfl (.bool (headS F == s)) ?_
              have HR : Hid (hdrF s = (F, headS F == s)) := Lib.hid (by rw [HD.out, HN.out, Bool.true_and])
              refine zR 8 rfl (fun K hK => ?_)
              rw [if_pos (by kernel_rfl)]
              refine qstore 28 _ _ rfl z (zeroF.cells none 0) (F.cells none 0) 28 rfl rfl XZ.out (by exact qJF F none 0) rfl (qone F none 0) ?_
              intro X h8 hg8 hs8
              replace BF := Lib.hid (qstep BF.out hg8 NG.out.2.2.2)
              replace F3 := Lib.hid (qgrown hg8 F3.out (fun e => NG.out.1 (Option.some.inj e).symm))
              replace XZ := Lib.hid h8
              clear h8 hg8 hs8
              refine zK hK ⟨BF.out, F3.out⟩ (fun hHeld => ?_)
              clear hK K
              refine zW 9 rfl (.bool (headS F == s)) ?_
              refine zE ?_
              clear hHeld
              go_wp2_with fail
              (try simp only [Exit.inBlock, Exit.then])
              refine bodyPost_ret (results_ct rfl _ X z 28 (F.cells none 0) (0, 0) _ rfl XZ.out Tryz.underlying28 rfl (by exact qJF F none 0)) rfl ?_
              rw [HR.out]
              exact ⟨rfl, BF.out⟩
  · have hb : (((L : Nat) : Int) != 4) = true := by rw [bne_iff_ne]; omega
    have HN := Lib.hid (hdrF_not (s := s) (by rw [WL.out]; exact h4))
    go_wp2_with (first
      | (refine wpList_load_row rfl 28 _ rfl z rfl 28 (zeroF.cells none 0) (0, 0) _ XZ.out Tryz.underlying28 rfl (by exact (qJF zeroF none 0)) ?_)
      | (refine wpList_load_row rfl 28 _ rfl p rfl 28 (zeroF.cells none 0) (0, 0) _ XP.out Tryz.underlying28 rfl (by exact (qJF zeroF none 0)) ?_)
      | (refine wpList_qstore rfl 28 _ _ rfl z (zeroF.cells none 0) (zeroF.cells none 0) 28 rfl rfl XZ.out (by exact (qJF zeroF none 0)) rfl (qone zeroF none 0) ?_; intro VZ hzz hgz; replace BF := Lib.hid (qstep BF.out hgz (by have h1 := hz.out; omega)); replace XP := Lib.hid (qgrown hgz XP.out (fun e => by have h1 := hp.out; have h2 := hz.out; have := Option.some.inj e; omega)); replace XZ := Lib.hid hzz; clear hzz hgz)
      | fail)
    (try simp only [Exit.inBlock, Exit.then])
    refine bodyPost_ret (results_ct rfl _ VZ z 28 (zeroF.cells none 0) (0, 0) _ rfl XZ.out Tryz.underlying28 rfl (by exact (qJF zeroF none 0))) rfl ?_
    rw [HN.out]
    exact ⟨rfl, BF.out⟩
end Go.Proofs.YtimmadkbkimonaaGreatDoor
namespace Go.Proofs.YtimmadkbkimonaaGreatDoor
set_option linter.unusedSimpArgs false
set_option linter.unusedVariables false
open Go.RowKit

theorem results_ctt {P : Program} {fn : Func} {r s t : Nat} {ty : TypeId} (h : fn.results = #[.cell r ty, .tmp s, .tmp t]) (tmps : Array Value) (w : World) (p : Nat) (pt : TypeId) (cs : Array Value) (fr : Nat × Nat) (d : TypeDesc) (hp : tmps.getD r undef = .pointer (some ⟨p, 0, none⟩)) (hw : w.heap[p]? = some (.cells cs pt fr)) (hu : P.underlying ty = some d) (hd : (match d with | .struct _ | .array _ _ => true | _ => false) = true) (hi : (P.info? ty).map (·.size) = some cs.size) :
    (results fn tmps).run P w = .ok (.tuple #[.agg cs, tmps.getD s undef, tmps.getD t undef]) w := by
  have hp' : tmps[r]?.getD undef = .pointer (some ⟨p, 0, none⟩) := by simpa using hp
  simp [results, h, hp', asAddr, run_loadVar_row w p pt ty cs fr d hw hu hd hi]
set_option maxHeartbeats 4000000 in
set_option maxRecDepth 100000 in
theorem parseX_any (s line rest : ByteArray) (ended : Bool) (w : World) (hs : s.size ≤ 65536) (he : EnvW w) (hl : s.data.toList ≠ []) (hc : Lib.cut s.data.toList [10] = (line.data.toList, rest.data.toList, ended)) (hh : line.size ≠ 0 ∧ line.size ≤ 100000 ∧ (hdrF line).2 = false) : Calls Tryz.prog 20 #[.string s] w fun e w' => e = .returned (.tuple #[.agg (zeroF.cells none 0), .int .i64 11, .int .i64 1]) ∧ Below w.heap.size w w' := by
  have EV := Lib.hid (fun W (hb : Below w.heap.size w W) => he.below hb)
  have HS := Lib.hid hs
  have HC := Lib.hid hc
  have HL := Lib.hid hl
  have HH := Lib.hid hh
  clear he hs hc hl hh
  have t0 : decide ((65536 : Int) < (s.size : Int)) = false := by have := HS.out; simp; omega
  have AL := Lib.hid (al1 w (.cells #[.int .i64 0, .int .i64 0, .int .i64 0, .slice none 0 0] 28))
  go_enter Tryz.func20, Tryz.ntmps20
  go_upto_region 3 with fail
  obtain ⟨z, hz⟩ : ∃ z, Hid (w.heap.size = z) := ⟨_, Lib.hid rfl⟩
  rw [hz.out] at AL ⊢
  generalize (w.alloc (.cells #[.int .i64 0, .int .i64 0, .int .i64 0, .slice none 0 0] 28)) = W0 at *
  have BF : Hid (Below w.heap.size w W0) := Lib.hid (by rw [hz.out]; exact AL.out.1)
  have XZ : Hid (W0.heap[z]? = some (.cells (zeroF.cells none 0) 28 (0, 0))) := Lib.hid AL.out.2
  clear AL
  clear t0
  go_upto_region 5 with fail
  have AL := al1 W0 (.cells #[.int .i64 0, .int .i64 0, .int .i64 0, .slice none 0 0] 28)
  obtain ⟨p, hp⟩ : ∃ x, Hid (W0.heap.size = x) := ⟨_, Lib.hid rfl⟩
  have NG : Hid (z ≠ p ∧ w.heap.size ≤ p ∧ w.heap.size ≤ z) := Lib.hid (by have h1 := hz.out; have h2 := hp.out; have h3 := qlt XZ.out; have h4 := BF.out.size; omega)
  replace BF := Lib.hid (BF.out.trans (AL.1.mono BF.out.size))
  replace XZ := Lib.hid (qblk AL.1 XZ.out)
  have XP := Lib.hid AL.2
  rw [hp.out] at XP ⊢
  clear AL
  generalize W0.alloc (.cells #[.int .i64 0, .int .i64 0, .int .i64 0, .slice none 0 0] 28) = W1 at *
  replace XP := Lib.hid (show W1.heap[p]? = some (.cells (zeroF.cells none 0) 28 (0, 0)) from XP.out)
  go_wp2_with fail
  refine wp_loop_once ?_
  have sn : (s.toList == ([] : List UInt8)) = false := by
    rw [ByteArray.toList_eq]
    have h := HL.out
    cases e : s.data.toList with
    | nil => exact absurd e (by have := HL.out; simpa using this)
    | cons a b => rfl
  go_upto_region 8 with fail
  clear sn
  obtain ⟨m, hm⟩ := (EV.out W1 BF.out).1
  go_wp2_with fail
  refine (sh_strings_Cut s ⟨#[10]⟩ m W1 (by have := HS.out; omega) hm).mono ?_
  rintro e V1 ⟨rfl, q9, rfl⟩
  clear hm
  have b : Below W1.heap.size W1 (W1.drewN q9) := ⟨rfl, rfl, rfl, Nat.le_refl _, fun _ _ => rfl⟩
  replace BF := Lib.hid (BF.out.trans (b.mono BF.out.size))
  replace XZ := Lib.hid (qblk b XZ.out)
  replace XP := Lib.hid (qblk b XP.out)
  clear b
  generalize W1.drewN q9 = V1 at *
  rw [HC.out]
  have c1 := qcell XP.out 1 (.int .i64 0) rfl
  have c2 := qcell XP.out 2 (.int .i64 0) rfl
  have tl : ((line.size : Int) == 0) = false := by have := HH.out.1; rw [beq_eq_false_iff_ne]; omega
  go_upto_region 12 with fail
  clear c1 c2 tl
  go_wp2_with fail
  refine (parseHeader_any line V1 HH.out.2.1 (EV.out V1 BF.out)).mono ?_
  rintro e V2 ⟨rfl, b⟩
  replace BF := Lib.hid (BF.out.trans (b.mono BF.out.size))
  replace XZ := Lib.hid (qblk b XZ.out)
  replace XP := Lib.hid (qblk b XP.out)
  clear b
  rw [HH.out.2.2]
  go_wp2_with (first
    | (refine wpList_qstore rfl 28 _ _ rfl p (zeroF.cells none 0) ((hdrF line).1.cells none 0) 28 rfl rfl XP.out (by exact qJF (hdrF line).1 none 0) rfl (qone (hdrF line).1 none 0) ?_; intro V3 hzz hgz; replace BF := Lib.hid (qstep BF.out hgz NG.out.2.1); replace XZ := Lib.hid (qgrown hgz XZ.out (fun e => NG.out.1 (Option.some.inj e))); replace XP := Lib.hid hzz; clear hzz hgz)
    | (refine wpList_qstore rfl 28 _ _ rfl z (zeroF.cells none 0) (zeroF.cells none 0) 28 rfl rfl XZ.out (by exact qJF zeroF none 0) rfl (qone zeroF none 0) ?_; intro V4 hzz hgz; replace BF := Lib.hid (qstep BF.out hgz NG.out.2.2); replace XZ := Lib.hid hzz; clear hzz hgz)
    | fail)
  (try simp only [Exit.inBlock, Exit.then])
  refine bodyPost_ret (results_ctt rfl _ V4 z 28 (zeroF.cells none 0) (0, 0) _ rfl XZ.out Tryz.underlying28 rfl (by exact qJF zeroF none 0)) rfl ?_
  exact ⟨rfl, BF.out⟩
end Go.Proofs.YtimmadkbkimonaaGreatDoor
namespace Go.Proofs.YtimmadkbkimonaaGreatDoor
set_option linter.unusedSimpArgs false
set_option linter.unusedVariables false
open Go.RowKit

abbrev OfM := Int → Option Int
def updM (o : OfM) (k v : Int) : OfM := fun a => if a = k then some v else o a
def landB (f : FaceV) (i : Int) : Bool := decide (f.kat i.toNat = 0)
def visitF (f : FaceV) (i m : Int) (st : OfM × List Int) (n : Int) : OfM × List Int := if ((st.1 n).isNone && (landB f n == landB f i)) = true then (updM st.1 n m, st.2 ++ [n]) else st
def floodG (nb : Int → List Int) (f : FaceV) (i m : Int) : Nat → OfM × List Int → OfM
  | 0, st => st.1
  | fuel + 1, st => match st.2.getLast? with
    | none => st.1
    | some x => floodG nb f i m fuel ((nb x).foldl (visitF f i m) (st.1, st.2.dropLast))
def regStepG (nb : Int → List Int) (f : FaceV) (st : OfM × Int) (i : Nat) : OfM × Int := if (st.1 i).isSome = true then st else (floodG nb f i st.2 (f.kinds.length + 1) (updM st.1 i st.2, [(i : Int)]), st.2 + 1)
def regionsG (nb : Int → List Int) (f : FaceV) (k : Nat) : OfM × Int := (List.range k).foldl (regStepG nb f) (fun _ => none, 0)
abbrev floodF (f : FaceV) := floodG (neighF f) f
abbrev regionsN (f : FaceV) := regionsG (neighF f) f
def regionsF (f : FaceV) : OfM × Int := regionsN f f.kinds.length
theorem regionsN_succ (nb : Int → List Int) (f : FaceV) (k : Nat) : regionsG nb f (k + 1) = regStepG nb f (regionsG nb f k) k := by
  unfold regionsG
  rw [List.range_succ, List.foldl_append]
  rfl
def regAt (f : FaceV) (o : OfM) (r : Int) (k : Nat) : List Int := (List.range k).filterMap fun (j : Nat) => if o (j : Int) = some r then some (j : Int) else none
def regListF (f : FaceV) : List (List Int) := (List.range (regionsF f).2.toNat).map fun (r : Nat) => regAt f (regionsF f).1 r f.kinds.length
inductive Reach (f : FaceV) : Int → Int → Prop where
  | refl (x : Int) : Reach f x x
  | step {x y z : Int} : Reach f x y → z ∈ neighF f y → landB f z = landB f y → Reach f x z
def InF (f : FaceV) (x : Int) : Prop := 0 ≤ x ∧ x < f.kinds.length
section
variable {f : FaceV}
theorem Reach.trans {x y z : Int} (h1 : Reach f x y) (h2 : Reach f y z) : Reach f x z := by
  induction h2 with
  | refl => exact h1
  | step _ h3 h4 ih => exact .step ih h3 h4
theorem Reach.land {x y : Int} (h : Reach f x y) : landB f y = landB f x := by
  induction h with
  | refl => rfl
  | step _ _ h4 ih => exact h4.trans ih
theorem neigh_in (hv : f.valid = true) {x y : Int} (hx : InF f x) (hy : y ∈ neighF f x) : InF f y ∧ x ∈ neighF f y ∧ y ≠ x := by
  obtain ⟨h1, h2⟩ := cellF_has hv hx
  rw [← h2] at hy
  obtain ⟨c, hc, rfl⟩ := (neigh_mem hv h1).1 hy
  have hh := beside_has hv h1 hc
  obtain ⟨h3, h4⟩ := index_back hv hh
  refine ⟨h3, ?_, fun e => ?_⟩
  · have := (neigh_mem hv hh (n := x)).2 ⟨cellF f x, beside_sym hv h1 hc, h2.symm⟩
    exact this
  · refine beside_ne hv h1 hc ?_
    rw [← h4, e]
theorem Reach.inF (hv : f.valid = true) {x y : Int} (h : Reach f x y) (hx : InF f x) : InF f y := by
  induction h with
  | refl => exact hx
  | step _ h3 _ ih => exact (neigh_in hv ih h3).1
theorem Reach.symm (hv : f.valid = true) {x y : Int} (h : Reach f x y) (hx : InF f x) : Reach f y x := by
  induction h with
  | refl => exact .refl _
  | step h2 h3 h4 ih =>
    have hy := h2.inF hv hx
    exact (Reach.step (.refl _) (neigh_in hv hy h3).2.1 h4.symm).trans ih
def freeN (f : FaceV) (o : OfM) : Nat := (List.range f.kinds.length).countP fun (j : Nat) => (o (j : Int)).isNone
theorem countP_lt {p q : Nat → Bool} : ∀ {l : List Nat} {x : Nat}, x ∈ l → p x = true → q x = false → (∀ y ∈ l, q y = true → p y = true) → l.countP q + 1 ≤ l.countP p
  | [], x, h, _, _, _ => by cases h
  | y :: l, x, h, h1, h2, h3 => by
    have hle : l.countP q ≤ l.countP p := List.countP_mono_left fun z hz hq => h3 z (List.mem_cons_of_mem _ hz) hq
    rw [List.countP_cons, List.countP_cons]
    rcases List.mem_cons.1 h with e | h
    · subst e
      rw [if_pos h1, if_neg (by rw [h2]; decide)]
      omega
    · have := countP_lt h h1 h2 (fun z hz hq => h3 z (List.mem_cons_of_mem _ hz) hq)
      have h4 := h3 y (List.mem_cons_self ..)
      split <;> split <;> first | omega | (rename_i a b; exact absurd (h4 a) b)
theorem free_upd {o : OfM} {n m : Int} (hn : InF f n) (h0 : o n = none) : freeN f (updM o n m) + 1 ≤ freeN f o := by
  unfold freeN
  refine countP_lt (x := n.toNat) (List.mem_range.2 (by unfold InF at hn; omega)) ?_ ?_ fun y _ hq => ?_
  · rw [Int.toNat_of_nonneg hn.1, h0]; rfl
  · rw [Int.toNat_of_nonneg hn.1]; simp [updM]
  · unfold updM at hq
    by_cases e : (y : Int) = n
    · rw [if_pos e] at hq; cases hq
    · rw [if_neg e] at hq; exact hq
structure RgI (f : FaceV) (o : OfM) (m : Int) : Prop where
  inr : ∀ x r, o x = some r → InF f x ∧ 0 ≤ r ∧ r < m
  cl : ∀ x r y, o x = some r → y ∈ neighF f x → landB f y = landB f x → o y = some r
  co : ∀ x y r, o x = some r → o y = some r → Reach f x y
structure FlI (f : FaceV) (o0 : OfM) (i m : Int) (o : OfM) (work : List Int) (nb : Int → Prop) : Prop where
  old : ∀ x r, o0 x = some r → o x = some r
  new : ∀ x r, o x = some r → o0 x = some r ∨ (r = m ∧ o0 x = none ∧ InF f x ∧ Reach f i x)
  at_ : o i = some m
  wk : ∀ x ∈ work, o x = some m
  cl : ∀ x y, o x = some m → x ∉ work → y ∈ neighF f x → landB f y = landB f x → nb x ∨ o y = some m
theorem FlI.visit {o0 o : OfM} {i m n at_ : Int} {work : List Int} {done : List Int} (h0 : RgI f o0 m) (hv : f.valid = true) (hat : o at_ = some m) (hai : InF f at_ ∧ Reach f i at_) (hn : n ∈ neighF f at_) (h : FlI f o0 i m o work (fun x => x = at_)) (hdone : ∀ y ∈ done, landB f y = landB f at_ → o y = some m) :
    FlI f o0 i m (visitF f i m (o, work) n).1 (visitF f i m (o, work) n).2 (fun x => x = at_) ∧ (visitF f i m (o, work) n).1 at_ = some m ∧ (∀ y ∈ done ++ [n], landB f y = landB f at_ → (visitF f i m (o, work) n).1 y = some m) ∧ freeN f (visitF f i m (o, work) n).1 + (visitF f i m (o, work) n).2.length ≤ freeN f o + work.length := by
  have hni := neigh_in hv hai.1 hn
  have hla : landB f at_ = landB f i := hai.2.land
  unfold visitF
  by_cases hq : ((o n).isNone && (landB f n == landB f i)) = true
  · rw [if_pos hq]
    rw [Bool.and_eq_true, beq_iff_eq, Option.isNone_iff_eq_none] at hq
    have hne : ∀ x r, o x = some r → x ≠ n := fun x r hx e => by rw [e, hq.1] at hx; cases hx
    have hup : ∀ x r, o x = some r → updM o n m x = some r := fun x r hx => by unfold updM; rw [if_neg (hne x r hx)]; exact hx
    have h00 : o0 n = none := by
      cases e : o0 n with
      | none => rfl
      | some r => have := h.old n r e; rw [hq.1] at this; cases this
    refine ⟨⟨fun x r hx => hup x r (h.old x r hx), fun x r hx => ?_, hup i m h.at_, fun x hx => ?_, fun x y hx hxw hy hl => ?_⟩, hup _ _ hat, fun y hy hl => ?_, ?_⟩
    · by_cases e : x = n
      · subst e
        have hx : updM o x m x = some r := hx
        rw [show updM o x m x = some m by simp [updM]] at hx
        cases hx
        exact .inr ⟨rfl, h00, hni.1, .step hai.2 hn (by rw [hq.2, hla])⟩
      · have hx : updM o n m x = some r := hx
        unfold updM at hx
        rw [if_neg e] at hx
        exact h.new x r hx
    · rcases List.mem_append.1 hx with hx | hx
      · exact hup x m (h.wk x hx)
      · rw [List.mem_singleton.1 hx]; simp [updM]
    · by_cases e : x = n
      · subst e
        exact absurd (List.mem_append_right _ (List.mem_singleton.2 rfl)) hxw
      · have hx2 : o x = some m := by
          have hx : updM o n m x = some m := hx
          unfold updM at hx
          rw [if_neg e] at hx
          exact hx
        rcases h.cl x y hx2 (fun hw => hxw (List.mem_append_left _ hw)) hy hl with h5 | h5
        · exact .inl h5
        · exact .inr (hup y m h5)
    · rcases List.mem_append.1 hy with hy | hy
      · exact hup y m (hdone y hy hl)
      · rw [List.mem_singleton.1 hy]; simp [updM]
    · have := free_upd (m := m) hni.1 hq.1
      rw [List.length_append]
      simp
      omega
  · rw [if_neg hq]
    refine ⟨h, hat, fun y hy hl => ?_, Nat.le_refl _⟩
    rcases List.mem_append.1 hy with hy | hy
    · exact hdone y hy hl
    · rw [List.mem_singleton.1 hy] at hl ⊢
      have hs : (o n).isSome = true := by
        cases e : o n with
        | some r => rfl
        | none =>
          refine absurd ?_ hq
          rw [e, hl, hla]
          simp
      obtain ⟨r, hr⟩ := Option.isSome_iff_exists.1 hs
      rcases h.new n r hr with h5 | h5
      · -- a region that is done holds all that is beside it
        have h6 := h0.cl n r at_ h5 hni.2.1 hl.symm
        have h7 := h.old at_ r h6
        rw [hat] at h7
        cases h7
        have := (h0.inr n m h5).2.2
        omega
      · show o n = some m
        rw [hr, h5.1]
theorem FlI.round {o0 o : OfM} {i m at_ : Int} {work : List Int} (h0 : RgI f o0 m) (hv : f.valid = true) (hat : o at_ = some m) (hai : InF f at_ ∧ Reach f i at_) : ∀ (ns done : List Int), (∀ n ∈ ns, n ∈ neighF f at_) → FlI f o0 i m o work (fun x => x = at_) → (∀ y ∈ done, landB f y = landB f at_ → o y = some m) →
    FlI f o0 i m (ns.foldl (visitF f i m) (o, work)).1 (ns.foldl (visitF f i m) (o, work)).2 (fun x => x = at_) ∧ (ns.foldl (visitF f i m) (o, work)).1 at_ = some m ∧ (∀ y ∈ done ++ ns, landB f y = landB f at_ → (ns.foldl (visitF f i m) (o, work)).1 y = some m) ∧ freeN f (ns.foldl (visitF f i m) (o, work)).1 + (ns.foldl (visitF f i m) (o, work)).2.length ≤ freeN f o + work.length
  | [], done, _, h, hd => ⟨h, hat, by simpa using hd, Nat.le_refl _⟩
  | n :: ns, done, hns, h, hd => by
    obtain ⟨g1, g2, g3, g4⟩ := FlI.visit h0 hv hat hai (hns n (List.mem_cons_self ..)) h hd
    rw [List.foldl_cons]
    obtain ⟨k1, k2, k3, k4⟩ := FlI.round h0 hv g2 hai ns (done ++ [n]) (fun x hx => hns x (List.mem_cons_of_mem _ hx)) g1 g3
    refine ⟨k1, k2, fun y hy hl => k3 y ?_ hl, Nat.le_trans k4 g4⟩
    rw [List.append_assoc]
    exact hy
theorem FlI.pop {nb : Int → List Int} (hnb : ∀ x, InF f x → ∀ y, y ∈ nb x ↔ y ∈ neighF f x) {o0 o : OfM} {i m x : Int} {ws : List Int} (h0 : RgI f o0 m) (hv : f.valid = true) (h : FlI f o0 i m o (ws ++ [x]) (fun _ => False)) :
    FlI f o0 i m ((nb x).foldl (visitF f i m) (o, ws)).1 ((nb x).foldl (visitF f i m) (o, ws)).2 (fun _ => False) ∧ freeN f ((nb x).foldl (visitF f i m) (o, ws)).1 + ((nb x).foldl (visitF f i m) (o, ws)).2.length + 1 ≤ freeN f o + (ws ++ [x]).length := by
  have hx := h.wk x (List.mem_append_right _ (List.mem_singleton.2 rfl))
  have hxi : InF f x ∧ Reach f i x := by
    rcases h.new x m hx with h5 | h5
    · have := (h0.inr x m h5).2.2; omega
    · exact h5.2.2
  have hw : FlI f o0 i m o ws (fun y => y = x) := ⟨h.old, h.new, h.at_, fun y hy => h.wk y (List.mem_append_left _ hy), fun a y ha haw hy hl => by
    by_cases e : a = x
    · exact .inl e
    · rcases h.cl a y ha (fun hm => by
        rcases List.mem_append.1 hm with hm | hm
        · exact haw hm
        · exact e (List.mem_singleton.1 hm)) hy hl with h5 | h5
      · exact h5.elim
      · exact .inr h5⟩
  obtain ⟨k1, k2, k3, k4⟩ := FlI.round h0 hv hx hxi (nb x) [] (fun n hn => (hnb x hxi.1 n).1 hn) hw (fun y hy => by cases hy)
  refine ⟨⟨k1.old, k1.new, k1.at_, k1.wk, fun a y ha haw hy hl => .inr ?_⟩, by rw [List.length_append]; simp; omega⟩
  rcases k1.cl a y ha haw hy hl with h5 | h5
  · rw [h5] at hy hl
    exact k3 y (by simpa using (hnb x hxi.1 y).2 hy) hl
  · exact h5
theorem flood_spec {nb : Int → List Int} (hnb : ∀ x, InF f x → ∀ y, y ∈ nb x ↔ y ∈ neighF f x) {o0 : OfM} {i m : Int} (h0 : RgI f o0 m) (hv : f.valid = true) : ∀ (fuel : Nat) (o : OfM) (work : List Int), FlI f o0 i m o work (fun _ => False) → freeN f o + work.length ≤ fuel → FlI f o0 i m (floodG nb f i m fuel (o, work)) [] (fun _ => False)
  | 0, o, work, h, hf => by
    have : work = [] := List.length_eq_zero_iff.1 (by omega)
    subst this
    exact h
  | fuel + 1, o, work, h, hf => by
    unfold floodG
    rcases List.eq_nil_or_concat work with e | ⟨ws, x, e⟩
    · subst e
      exact h
    · rw [List.concat_eq_append] at e
      subst e
      have hl : ((o, ws ++ [x]) : OfM × List Int).2.getLast? = some x := by simp
      have hd : ((o, ws ++ [x]) : OfM × List Int).2.dropLast = ws := by simp
      rw [hl, hd]
      obtain ⟨k1, k2⟩ := h.pop hnb h0 hv
      show FlI f o0 i m (floodG nb f i m fuel ((nb x).foldl (visitF f i m) (o, ws))) [] (fun _ => False)
      exact flood_spec hnb h0 hv fuel _ _ k1 (by omega)
theorem free_le (o : OfM) : freeN f o ≤ f.kinds.length := by
  unfold freeN
  refine Nat.le_trans List.countP_le_length ?_
  rw [List.length_range]
  exact Nat.le_refl _
theorem FlI.start {o0 : OfM} {i m : Int} (h0 : RgI f o0 m) (hi : InF f i) (hn : o0 i = none) : FlI f o0 i m (updM o0 i m) [i] (fun _ => False) := by
  have hup : ∀ x r, o0 x = some r → updM o0 i m x = some r := fun x r hx => by unfold updM; rw [if_neg (fun e => by rw [e, hn] at hx; cases hx)]; exact hx
  refine ⟨hup, fun x r hx => ?_, by simp [updM], fun x hx => by rw [List.mem_singleton.1 hx]; simp [updM], fun x y hx hxw hy hl => ?_⟩
  · unfold updM at hx
    by_cases e : x = i
    · rw [if_pos e] at hx
      cases hx
      exact .inr ⟨rfl, by rw [e]; exact hn, by rw [e]; exact hi, by rw [e]; exact .refl _⟩
    · rw [if_neg e] at hx
      exact .inl hx
  · have e : x ≠ i := fun e => hxw (List.mem_singleton.2 e)
    unfold updM at hx
    rw [if_neg e] at hx
    have := (h0.inr x m hx).2.2
    omega
theorem flood_next {nb : Int → List Int} (hnb : ∀ x, InF f x → ∀ y, y ∈ nb x ↔ y ∈ neighF f x) {o0 : OfM} {i m : Int} (h0 : RgI f o0 m) (hv : f.valid = true) (hm : 0 ≤ m) (hi : InF f i) (hn : o0 i = none) : RgI f (floodG nb f i m (f.kinds.length + 1) (updM o0 i m, [i])) (m + 1) ∧ (∀ x r, o0 x = some r → floodG nb f i m (f.kinds.length + 1) (updM o0 i m, [i]) x = some r) ∧ (∀ x, floodG nb f i m (f.kinds.length + 1) (updM o0 i m, [i]) x = some m ↔ o0 x = none ∧ InF f x ∧ Reach f i x) := by
  have h1 := flood_spec hnb h0 hv (f.kinds.length + 1) (updM o0 i m) [i] (FlI.start h0 hi hn) (by have := free_le (f := f) (updM o0 i m); simp; omega)
  generalize floodG nb f i m (f.kinds.length + 1) (updM o0 i m, [i]) = o at *
  have hmine : ∀ x, o x = some m → o0 x = none ∧ InF f x ∧ Reach f i x := fun x hx => by
    rcases h1.new x m hx with h5 | h5
    · have := (h0.inr x m h5).2.2; omega
    · exact h5.2
  have hall : ∀ x, Reach f i x → o x = some m := fun x hr => by
    induction hr with
    | refl => exact h1.at_
    | step _ h3 h4 ih =>
      rcases h1.cl _ _ ih (by simp) h3 h4 with h5 | h5
      · exact h5.elim
      · exact h5
  have hold : ∀ x r, o x = some r → r ≠ m → o0 x = some r := fun x r hx hr => by
    rcases h1.new x r hx with h5 | h5
    · exact h5
    · exact absurd h5.1 hr
  refine ⟨⟨fun x r hx => ?_, fun x r y hx hy hl => ?_, fun x y r hx hy => ?_⟩, h1.old, fun x => ⟨hmine x, fun h => hall x h.2.2⟩⟩
  · by_cases e : r = m
    · rw [e] at hx ⊢
      exact ⟨(hmine x hx).2.1, hm, by omega⟩
    · have := h0.inr x r (hold x r hx e)
      exact ⟨this.1, this.2.1, by omega⟩
  · by_cases e : r = m
    · rw [e] at hx ⊢
      exact hall y (.step (hmine x hx).2.2 hy hl)
    · exact h1.old y r (h0.cl x r y (hold x r hx e) hy hl)
  · by_cases e : r = m
    · rw [e] at hx hy
      exact ((hmine x hx).2.2.symm hv hi).trans (hmine y hy).2.2
    · exact h0.co x y r (hold x r hx e) (hold y r hy e)
structure RgK (f : FaceV) (k : Nat) (o : OfM) (m : Int) : Prop where
  rg : RgI f o m
  m0 : 0 ≤ m
  dn : ∀ j : Nat, j < k → (o j).isSome = true
  fst : ∀ r, 0 ≤ r → r < m → ∃ j : Nat, j < k ∧ o j = some r ∧ ∀ x, o x = some r → (j : Int) ≤ x
  ord : ∀ r s x y, o x = some r → o y = some s → (∀ z, o z = some r → x ≤ z) → (∀ z, o z = some s → y ≤ z) → r < s → x < y
theorem regionsG_spec {nb : Int → List Int} (hnb : ∀ x, InF f x → ∀ y, y ∈ nb x ↔ y ∈ neighF f x) (hv : f.valid = true) : ∀ k, k ≤ f.kinds.length → RgK f k (regionsG nb f k).1 (regionsG nb f k).2
  | 0, _ => ⟨⟨(fun x r h => by cases h), (fun x r y h => by cases h), (fun x y r h => by cases h)⟩, Int.le_refl _, (fun j hj => by omega), (fun r h1 h2 => by have h2 : r < 0 := h2; omega), (fun r s x y h => by cases h)⟩
  | k + 1, hk => by
    have ih := regionsG_spec hnb hv k (by omega)
    rw [regionsN_succ]
    generalize regionsG nb f k = st at *
    obtain ⟨o, m⟩ := st
    unfold regStepG
    by_cases hs : (o (k : Int)).isSome = true
    · rw [if_pos hs]
      refine ⟨ih.rg, ih.m0, fun j hj => ?_, fun r h1 h2 => ?_, ih.ord⟩
      · by_cases e : j = k
        · rw [e]; exact hs
        · exact ih.dn j (by omega)
      · obtain ⟨j, g1, g2, g3⟩ := ih.fst r h1 h2
        exact ⟨j, by omega, g2, g3⟩
    · rw [if_neg hs]
      have hn : o (k : Int) = none := by
        cases e : o (k : Int) with
        | none => rfl
        | some r => rw [e] at hs; exact absurd rfl hs
      obtain ⟨g1, g2, g3⟩ := flood_next hnb ih.rg hv ih.m0 (i := (k : Int)) ⟨by omega, by omega⟩ hn
      dsimp only
      generalize floodG nb f (k : Int) m (f.kinds.length + 1) (updM o (k : Int) m, [(k : Int)]) = o2 at *
      have hnew : ∀ x, o2 x = some m → (k : Int) ≤ x := fun x hx => by
        have h5 := (g3 x).1 hx
        have h6 : ¬ x < (k : Int) := fun h6 => by
          have := ih.dn x.toNat (by have := h5.2.1.1; omega)
          rw [Int.toNat_of_nonneg h5.2.1.1, h5.1] at this
          cases this
        omega
      have hkm : o2 (k : Int) = some m := (g3 k).2 ⟨hn, ⟨by omega, by omega⟩, .refl _⟩
      have hback : ∀ x r, o2 x = some r → r ≠ m → o x = some r := fun x r hx hr => by
        cases e : o x with
        | some s =>
          have := g2 x s e
          rw [hx] at this
          rw [Option.some.inj this]
        | none =>
          have h7 := (g1.inr x r hx)
          obtain ⟨j, j1, j2, j3⟩ := ih.fst r h7.2.1 (by omega)
          have h8 := g1.co (j : Int) x r (g2 _ _ j2) hx
          have h9 : ∀ y, Reach f (j : Int) y → o y = some r := fun y hy => by
            induction hy with
            | refl => exact j2
            | step _ a b ih2 => exact ih.rg.cl _ _ _ ih2 a b
          have := h9 x h8
          rw [e] at this
          cases this
      refine ⟨g1, by have := ih.m0; show 0 ≤ m + 1; omega, fun j hj => ?_, fun r h1 h2 => ?_, fun r s x y hx hy hx2 hy2 hrs => ?_⟩
      · by_cases e : j = k
        · rw [e, hkm]; rfl
        · obtain ⟨r, hr⟩ := Option.isSome_iff_exists.1 (ih.dn j (by omega))
          rw [g2 _ _ hr]; rfl
      · by_cases e : r = m
        · rw [e]
          exact ⟨k, by omega, hkm, hnew⟩
        · obtain ⟨j, j1, j2, j3⟩ := ih.fst r h1 (by have h2 : r < m + 1 := h2; omega)
          exact ⟨j, by omega, g2 _ _ j2, fun x hx => j3 x (hback x r hx e)⟩
      · have hs2 := (g1.inr y s hy).2.2
        by_cases e : s = m
        · have hr : r ≠ m := by omega
          rw [e] at hy
          have h5 := hnew y hy
          have h6 := hx
          obtain ⟨j, j1, j2, j3⟩ := ih.fst r (g1.inr x r hx).2.1 (by omega)
          have := hx2 (j : Int) (g2 _ _ j2)
          omega
        · exact ih.ord r s x y (hback x r hx (by omega)) (hback y s hy e) (fun z hz => hx2 z (g2 z r hz)) (fun z hz => hy2 z (g2 z s hz)) hrs
theorem regionsN_spec (hv : f.valid = true) : ∀ k, k ≤ f.kinds.length → RgK f k (regionsN f k).1 (regionsN f k).2 := regionsG_spec (fun _ _ _ => Iff.rfl) hv
theorem RgI.reach {o : OfM} {m : Int} (h : RgI f o m) {x y r : Int} (hx : o x = some r) (hr : Reach f x y) : o y = some r := by
  induction hr with
  | refl => exact hx
  | step _ h3 h4 ih => exact h.cl _ _ _ ih h3 h4
theorem RgK.same {o o' : OfM} {m m' : Int} (h : RgK f f.kinds.length o m) (h' : RgK f f.kinds.length o' m') : o = o' ∧ m = m' := by
  have dom : ∀ {p : OfM} {q : Int}, RgK f f.kinds.length p q → ∀ x, InF f x → ∃ r, p x = some r := fun hp x hx => by
    have := hp.dn x.toNat (by have := hx.1; have := hx.2; omega)
    rw [Int.toNat_of_nonneg hx.1] at this
    exact Option.isSome_iff_exists.1 this
  have eqv : ∀ {p p' : OfM} {q q' : Int}, RgK f f.kinds.length p q → RgK f f.kinds.length p' q' → ∀ x y r, p x = some r → p y = some r → ∃ s, p' x = some s ∧ p' y = some s := fun hp hp' x y r hx hy => by
    obtain ⟨s, hs⟩ := dom hp' x (hp.rg.inr x r hx).1
    refine ⟨s, hs, ?_⟩
    exact hp'.rg.reach hs (hp.rg.co x y r hx hy)
  have key : ∀ n : Nat, (∀ x (r : Nat), r < n → (o x = some (r : Int) ↔ o' x = some (r : Int))) := by
    intro n
    induction n with
    | zero => intro x r hr; omega
    | succ n ih =>
      have one : ∀ {p p' : OfM} {q q' : Int}, RgK f f.kinds.length p q → RgK f f.kinds.length p' q' → (∀ x (r : Nat), r < n → (p x = some (r : Int) ↔ p' x = some (r : Int))) → ∀ x, p x = some (n : Int) → p' x = some (n : Int) := fun {p p' q q'} hp hp' ih x hx => by
        obtain ⟨j, j1, j2, j3⟩ := hp.fst n (by omega) (hp.rg.inr x n hx).2.2
        obtain ⟨s, s1, s2⟩ := eqv hp hp' j x n j2 hx
        have hs := hp'.rg.inr _ _ s1
        have h1 : (n : Int) ≤ s := Int.not_lt.1 fun hlt => by
          have := (ih (j : Int) s.toNat (by omega)).2 (by rw [Int.toNat_of_nonneg hs.2.1]; exact s1)
          rw [j2] at this
          cases this
          omega
        by_cases e : s = n
        · rw [s2, e]
        · -- the other's region n begins ahead of this one
          obtain ⟨k, k1, k2, k3⟩ := hp'.fst n (by omega) (by omega)
          obtain ⟨k', g1, g2, g3⟩ := hp'.fst s hs.2.1 hs.2.2
          have hkj := hp'.ord n s k k' k2 g2 k3 g3 (by omega)
          have hjk := g3 j s1
          obtain ⟨t, ht⟩ := dom hp (k : Int) ⟨by omega, by omega⟩
          have hti := hp.rg.inr _ _ ht
          have h2 : (n : Int) ≤ t := Int.not_lt.1 fun hlt => by
            have := (ih (k : Int) t.toNat (by omega)).1 (by rw [Int.toNat_of_nonneg hti.2.1]; exact ht)
            rw [k2] at this
            cases this
            omega
          have hne : t ≠ n := fun e2 => by
            rw [e2] at ht
            obtain ⟨u, u1, u2⟩ := eqv hp hp' k j n ht j2
            rw [k2] at u1
            rw [s1] at u2
            cases u1
            cases u2
            exact e rfl
          obtain ⟨i, i1, i2, i3⟩ := hp.fst t hti.2.1 hti.2.2
          have := hp.ord n t j i j2 i2 j3 i3 (by omega)
          have := i3 k ht
          omega
      intro x r hr
      by_cases e : r = n
      · subst e
        exact ⟨one h h' ih x, one h' h (fun x r hr => (ih x r hr).symm) x⟩
      · exact ih x r (by omega)
  have heq : ∀ x, o x = o' x := fun x => by
    cases e : o x with
    | some r =>
      have hr := (h.rg.inr x r e).2.1
      have := (key (r.toNat + 1) x r.toNat (by omega)).1 (by rw [Int.toNat_of_nonneg hr]; exact e)
      rw [this, Int.toNat_of_nonneg hr]
    | none =>
      cases e2 : o' x with
      | none => rfl
      | some r =>
        have hr := (h'.rg.inr x r e2).2.1
        have := (key (r.toNat + 1) x r.toNat (by omega)).2 (by rw [Int.toNat_of_nonneg hr]; exact e2)
        rw [e] at this
        cases this
  refine ⟨funext heq, ?_⟩
  have hle : ∀ {p p' : OfM} {q q' : Int}, RgK f f.kinds.length p q → RgK f f.kinds.length p' q' → p = p' → q ≤ q' := fun {p p' q q'} hp hp' e => Int.not_lt.1 fun hlt => by
    obtain ⟨j, j1, j2, _⟩ := hp.fst q' hp'.m0 hlt
    rw [e] at j2
    have := (hp'.rg.inr _ _ j2).2.2
    omega
  exact Int.le_antisymm (hle h h' (funext heq)) (hle h' h (funext heq).symm)
end
end Go.Proofs.YtimmadkbkimonaaGreatDoor
namespace Go.Proofs.YtimmadkbkimonaaGreatDoor
open Go.RowKit

def LoopAt (rec : LoopState → Option Code → Loop) (D : Nat) (st : LoopState) (pe : Option Code) (W : World) : Prop :=
  W.heap[D + 1]? = some (.loop (rec st pe)) ∧ W.heap[D]? = some (.deferred (some []))

theorem LoopAt.kept {rec : LoopState → Option Code → Loop} {D : Nat} {st : LoopState} {pe : Option Code} {W W' : World} (h : LoopAt rec D st pe W) (hk : KeepsFrom D W W') : LoopAt rec D st pe W' :=
  ⟨hk.same _ _ (by omega) h.1 rfl, hk.same _ _ (Nat.le_refl _) h.2 rfl⟩

def roundEnd (D : Nat) (B : World → Prop) (X : Code → World → Prop) (W : World) : Exit → Act → World → Prop
  | .normal, _, W' => KeepsFrom D W W' ∧ B W'
  | .ret, _, W' => KeepsFrom D W W' ∧ X .ret W'
  | .exit id, _, W' => KeepsFrom D W W' ∧ X (.exit id) W'
  | .goto t, _, W' => KeepsFrom D W W' ∧ X (.goto t) W'
  | .panic _, _, _ => False
  | .outgrown, _, _ => False

end Go.Proofs.YtimmadkbkimonaaGreatDoor
namespace Go.Proofs.YtimmadkbkimonaaGreatDoor
open Go.RowKit

def Wide (F : Fence) : Prop := F = Fence.wide ∨ ∃ l, F = Fence.wide.inRound l
theorem Wide.fn {F : Fence} (h : Wide F) (f : FuncId) : F.fn f := by
  rcases h with rfl | ⟨l, rfl⟩ <;> trivial
theorem Wide.depth {F : Fence} (h : Wide F) : F.depth.isSome = true → ∀ {p : Prop}, p := by
  rcases h with rfl | ⟨l, rfl⟩ <;> intro h' <;> simp [Fence.wide] at h'
theorem Wide.calls {F : Fence} (h : Wide F) {n : Nat} {P : Program} {f : FuncId} {args : Array Value} {w : World} {R : Ending → World → Prop} (hc : Calls P f args w R) : CallsIn F n P f args w R := by
  rcases h with rfl | ⟨l, rfl⟩
  · exact callsIn_wide.2 hc
  · exact CallsIn.inRound l (callsIn_wide.2 hc)
theorem Wide.rows {F : Fence} (h : Wide F) {n : Nat} {P : Program} {row : String} {args : Array Value} {w : World} {R : Value → World → Prop} (hc : Rows P row args w R) : RowsIn F n P row args w R := by
  rcases h with rfl | ⟨l, rfl⟩ <;> exact fun c cs _ => let ⟨v, w', r, s⟩ := hc c cs; ⟨v, w', r, stepsIn_wide.2 s⟩
theorem wpIn_of_wp {F : Fence} (hF : Wide F) {n : Nat} {P : Program} {o : Oper} {a : Act} {w : World} {K : Act → World → Prop} {Q : Exit → Act → World → Prop} (hnd : ∀ c, o.op ≠ .defer c) (h : o.wp P a w K Q) : o.wpIn F n P a w K Q := by
  refine ⟨fun f _ => hF.fn f, ?_⟩
  rw [Oper.semAt_plain F _ _ hnd]
  unfold Oper.wp at h
  generalize (execOp a.eval o).run P w = r at h
  unfold Oper.upon at h
  unfold Oper.uponIn
  cases r with
  | ok v w' =>
    cases v with
    | enter f args => exact ⟨fun h' => hF.depth h', hF.calls h⟩
    | row r args => exact ⟨fun h' => hF.depth h', hF.rows h⟩
    | round _ _ _ _ _ => exact (show False from h).elim
    | _ => exact h
  | halt s w' => cases s <;> exact h
def noDefer (l : List Oper) : Bool := l.all fun o => match o.op with | .defer _ => false | _ => true
theorem noDefer_at {l : List Oper} (h : noDefer l = true) {o : Oper} (ho : o ∈ l) : ∀ c, o.op ≠ .defer c := fun c e => by
  have := List.all_eq_true.1 h o ho
  rw [e] at this
  cases this
theorem wpListIn_of_wpList {F : Fence} (hF : Wide F) {n : Nat} {P : Program} {ops : Array Oper} {Q : Exit → Act → World → Prop} (hQ : ¬ LetsOut Q) : ∀ (l : List Oper) (a : Act) (w : World), noDefer l = true → wpList P ops Q l a w → wpListIn F n P ops Q l a w
  | [], a, w, _, h => h
  | o :: l, a, w, hnd, h => by
    have h1 : ∀ c, o.op ≠ .defer c := noDefer_at hnd (List.mem_cons_self ..)
    have h2 : noDefer l = true := (Bool.and_eq_true_iff.1 hnd).2
    unfold wpList at h
    unfold wpListIn
    split at h
    · rename_i hw
      rw [if_pos hw]
      rcases h with h | h
      · exact wpIn_of_wp hF h1 (Oper.wp_mono (fun a w hk => wpListIn_of_wpList hF hQ l a w h2 hk) h)
      · exact (hQ h.2).elim
    · rename_i hw
      rw [if_neg hw]
      exact ⟨fun f _ => hF.fn f, wpListIn_of_wpList hF hQ l _ w h2 h⟩
theorem wpIn_region_plain {F : Fence} (hF : Wide F) {n : Nat} {P : Program} {id : Nat} {l : List Oper} {a : Act} {w : World} {Q : Exit → Act → World → Prop} (hQ : ¬ LetsOut Q) (hnd : noDefer l = true) (h : wpList P l.toArray Q l a w) : (Code.region id l.toArray false).wpIn F n P Q a w :=
  wpIn_region_lit (wpListIn_of_wpList hF hQ l a w hnd h)
theorem wpOpIn_of_wpOp {F : Fence} (hF : Wide F) {n : Nat} {P : Program} {ops : Array Oper} {Q : Exit → Act → World → Prop} (hQ : ¬ LetsOut Q) (hnd : noDefer ops.toList = true) (i : Nat) {K : Act → World → Prop} {a : Act} {w : World} (h : wpOp P ops Q i K a w) : wpOpIn F n P ops Q i K a w := by
  unfold wpOp at h
  unfold wpOpIn
  cases ho : ops[i]? with
  | none => rw [ho] at h; exact h
  | some o =>
    rw [ho] at h
    dsimp only at h ⊢
    split at h
    · rename_i hw
      rw [if_pos hw]
      rcases h with h | h
      · exact wpIn_of_wp hF (noDefer_at hnd (by rw [Array.mem_toList_iff]; exact Array.mem_of_getElem? ho)) h
      · exact (hQ h.2).elim
    · rename_i hw
      rw [if_neg hw]
      exact ⟨fun f _ => hF.fn f, h⟩
theorem wpAnyIn_of_wpAny {F : Fence} (hF : Wide F) {n : Nat} {P : Program} {md : Region.Mode} {ops : Array Oper} {Q : Exit → Act → World → Prop} (hQ : ¬ LetsOut Q) (hnd : noDefer ops.toList = true) : ∀ (fuel : Nat) (listed : Array Bool) (a : Act) (w : World), wpAny P md ops Q fuel listed a w → wpAnyIn F n P md ops Q fuel listed a w
  | 0, _, _, _, h => h
  | fuel + 1, _, _, _, h => ⟨h.1, fun i hi => wpOpIn_of_wpOp hF hQ hnd i (wpOp_mono (fun a w hk => wpAnyIn_of_wpAny hF hQ hnd fuel _ a w hk) (h.2 i hi))⟩

section
variable {P : Program} {σ : Type} {n : Nat} {g : Operand} {ps : Array Tmp} {assign body : Code} {Q : Exit → Act → World → Prop} {a : Act} {w : World}
theorem wp_range_own2
    {gf : Nat} {lb : Array Value} (hg : a.eval g = .func (.func gf) #[] lb) (eg : ∀ args w, (callFunc gf args).run P w = .ok (.enter gf args) w)
    (encs : σ → Array Value) (hps : ∀ x, (encs x).size = ps.size)
    (A B : σ → World → Prop) (A' : σ → Act → World → Prop) (Done : World → Prop)
    (hA' : ∀ s a W o, A' s a W → (∃ r, W.heap[w.heap.size + 1]? = some (.loop r)) → A' s a (W.putObj (w.heap.size + 1) (.loop o)))
    (hB : ∀ s W o, B s W → (∃ r, W.heap[w.heap.size + 1]? = some (.loop r)) → B s (W.putObj (w.heap.size + 1) (.loop o)))
    (hDone : ∀ W o, Done W → (∃ r, W.heap[w.heap.size + 1]? = some (.loop r)) → Done (W.putObj (w.heap.size + 1) (.loop o)))
    (hassign : ∀ (s : σ) (W : World), A s W →
      assign.wpIn (Fence.wide.inRound (w.heap.size + 1)) (n - 1) P (Exit.then (fun a₁ W₁ => KeepsFrom w.heap.size W W₁ ∧ A' s a₁ W₁) (fun _ _ _ => False)) { tmps := (ps.zip (encs s)).foldl (fun t (p, v) => t.setIfInBounds p v) a.tmps, defers := [] } W)
    (hbody : ∀ (s : σ) (a₁ : Act) (W : World), A' s a₁ W → body.wpIn (Fence.wide.inRound (w.heap.size + 1)) (n - 1) P (roundEnd w.heap.size (B s) (fun _ _ => False) W) a₁ W)
    (hiter : ∀ (rec : LoopState → Option Code → Loop),
      LoopAt rec w.heap.size .ready none ((w.alloc (.deferred (some []))).alloc (.loop (rec .ready none))) →
      (∀ s W, A s W → LoopAt rec w.heap.size .ready none W → YieldAt Fence.wide (n - 1) P (w.heap.size + 1) (encs s) W fun e W' =>
        e = .returned (.bool true) ∧ B s W' ∧ LoopAt rec w.heap.size .ready none W') →
      CallsIn Fence.wide n P gf (#[.func (.yield (w.heap.size + 1)) #[] #[]] ++ lb) ((w.alloc (.deferred (some []))).alloc (.loop (rec .ready none))) fun e W' =>
        (∃ v, e = .returned v) ∧ Done W' ∧ LoopAt rec w.heap.size .ready none W')
    (hdone : ∀ (W : World), Done W → W.heap[w.heap.size]? = some (.deferred (some [])) → Q .normal { a with defers := { target := .collected w.heap.size, args := #[] } :: a.defers } W) :
    (Code.rangeFunc g ps assign body).wpIn Fence.wide (n + 1) P Q a w := by
  refine wpIn_rangeFunc ?_
  intro fn hfn
  obtain ⟨rec, hrec⟩ : ∃ rec : LoopState → Option Code → Loop, rec = fun st pe => { state := st, pending := pe, fn, tmps := a.tmps, params := ps, assign, body, defers := w.heap.size } := ⟨_, rfl⟩
  have hnew : LoopAt rec w.heap.size .ready none ((w.alloc (.deferred (some []))).alloc (.loop (rec .ready none))) := by
    refine ⟨?_, (Below.heap_alloc _ _ _ (by simp)).trans (World.alloc_heap_new w _)⟩
    have := World.alloc_heap_new (w.alloc (.deferred (some []))) (.loop (rec .ready none))
    rwa [World.size_alloc] at this
  have hput : ∀ (W : World) (st st' : LoopState) (pe pe' : Option Code), LoopAt rec w.heap.size st pe W → LoopAt rec w.heap.size st' pe' (W.putObj (w.heap.size + 1) (.loop (rec st' pe'))) :=
    fun W st st' pe pe' h => ⟨World.putObj_heap_same (Array.getElem?_eq_some_iff.1 h.1).1, (World.putObj_heap_other (by omega)).trans h.2⟩
  refine ⟨w.heap.size + 1, [{ target := .collected w.heap.size, args := #[] }], (w.alloc (.deferred (some []))).alloc (.loop (rec .ready none)), { target := .fn (.func gf) lb, args := #[.func (.yield (w.heap.size + 1)) #[] #[]] }, (w.alloc (.deferred (some []))).alloc (.loop (rec .ready none)), gf,
    #[.func (.yield (w.heap.size + 1)) #[] #[]] ++ lb, (w.alloc (.deferred (some []))).alloc (.loop (rec .ready none)), ?_, ?_, ?_, ?_, ?_, ?_⟩
  · rw [hrec]; exact run_enterLoop_outer _ _ _ _ _
  · simp only [resolve, hg]
    simp [go_sem]
  · intro f' _
    trivial
  · simp [invoke, go_sem, eg]
  · intro h
    simp [Fence.wide] at h
  · rw [Nat.add_sub_cancel]
    refine (hiter rec hnew ?_).mono ?_
    · intro s W hs hl
      have hy := run_yield (P := P) (args := encs s) hl.1 (by rw [hrec]; exact hps s)
      rw [hrec] at hy
      refine ⟨fn, _, assign, body, hy, roundIn_of_wpIn hfn (wpIn_mono (hassign s W hs) ?_)⟩
      rintro e a₁ W₁ hp
      cases e with
      | normal =>
        obtain ⟨hk1, hs1⟩ : KeepsFrom w.heap.size W W₁ ∧ A' s a₁ W₁ := hp
        have hl1 := hl.kept hk1
        refine ⟨_, run_beginRound hl1.1 (by rw [hrec]), ?_⟩
        have hbusy : ({ rec .ready none with state := .busy } : Loop) = rec .busy none := by rw [hrec]
        rw [hbusy]
        have hl2 := hput W₁ .ready .busy none none hl1
        refine wpIn_mono (hbody s a₁ _ (hA' s a₁ W₁ _ hs1 ⟨_, hl1.1⟩)) ?_
        have fin : ∀ (jump : Option Code) (W3 : World), KeepsFrom w.heap.size (W₁.putObj (w.heap.size + 1) (.loop (rec .busy none))) W3 →
            (Instr.endRound (w.heap.size + 1) jump).run P W3 = .ok (.bool jump.isNone) (W3.putObj (w.heap.size + 1) (.loop (rec (if jump.isNone then .ready else .done) jump))) ∧
            LoopAt rec w.heap.size .busy none W3 ∧ LoopAt rec w.heap.size (if jump.isNone then .ready else .done) jump (W3.putObj (w.heap.size + 1) (.loop (rec (if jump.isNone then .ready else .done) jump))) := fun jump W3 hk => by
          have h3 := hl2.kept hk
          have hr := run_endRound (P := P) jump h3.1
          rw [hrec] at hr ⊢
          exact ⟨hr, by rw [hrec] at h3; exact h3, by have := hput W3 .busy (if jump.isNone then .ready else .done) none jump h3; rw [hrec] at this; exact this⟩
        rintro e a3 W3 hp
        cases e with
        | normal =>
          obtain ⟨hk, hb⟩ := hp
          obtain ⟨hr, h3, h4⟩ := fin none W3 hk
          exact ⟨_, _, hr, rfl, hB s W3 _ hb ⟨_, h3.1⟩, h4⟩
        | ret => exact hp.2.elim
        | exit id => exact hp.2.elim
        | goto t => exact hp.2.elim
        | panic ch => exact hp.elim
        | outgrown => exact hp.elim
      | _ => exact hp.elim
    · rintro e W2 ⟨⟨v, rfl⟩, hd, hl⟩
      refine ⟨none, _, by have := run_endLoop (P := P) hl.1 (by rw [hrec]; simp); rw [hrec] at this; exact this, ?_⟩
      exact hdone _ (hDone W2 _ hd ⟨_, hl.1⟩) ((World.putObj_heap_other (by omega)).trans hl.2)
end
end Go.Proofs.YtimmadkbkimonaaGreatDoor
