/- Parts of the proof, in this order: Rows of the call's own: ints, cells; with, Set of stones; A region that draws its order and whose last operation (number m: a store) hits what it loads: a condition S on the world, shown anew behind each operation but that one; header of stones; Cells, Area of stones; Print of stones; strings.Trim of the library, laid at this program; Steps of a list of operations, each with its value told; parseHeader of stones; Lines, words and signs, plain; Parse of stones at a text whose first line is wrong. -/
import Derived.OrdersHeld
import Derived.StillTail
import Derived.Deep.RegionHeld3
import Derived.WalkKit
import Derived.Shelf.Strings.SlTrimAscii
import Derived.Shelf.Strings.Trim
import Derived.Shelf.LaysM
import Derived.Ground.NamesProg
import Derived.Ground.Names2Prog
import Derived.Tactics2
import Derived.Laws.StructEq
import Derived.Lib.CountLaws
import Derived.Test.YtimmadkbkimonaaGreatDoorKPsk1
set_option linter.unusedSimpArgs false
set_option linter.unusedVariables false
open List renaming getElem_toArray → lq0, getElem_cons_succ → lq1, getElem_cons_zero → lq2, setIfInBounds_toArray → lq3, set_cons_zero → lq4, set_cons_succ → lq5
namespace Go.Proofs.YtimmadkbkimonaaGreatDoor
set_option linter.unusedSimpArgs false
set_option linter.unusedVariables false
open Go.RowKit

theorem qfroz {W : World} {p : Nat} {A : Array Value} {t : TypeId} (h : W.heap[p]? = some (.cells A t (0, 0))) (j : Nat) : W.frozen? ⟨p, j, none⟩ = false := by
  simp [World.frozen?, h]
theorem qput_at {w : World} {p : Nat} {c : Array Value} {t : TypeId} {fr : Nat × Nat} (h : w.heap[p]? = some (.cells c t fr)) (j : Nat) (v : Value) : (w.setCell ⟨p, j, none⟩ v).heap[p]? = some (.cells (c.setIfInBounds j v) t fr) := by
  simp only [World.setCell, Array.getElem?_modify, h]
  simp
theorem qput_grown (w : World) (p j : Nat) (v : Value) : w.grownBy (w.setCell ⟨p, j, none⟩ v) (some p) :=
  ⟨rfl, rfl, rfl, by simp [World.setCell], fun k _ hk => Below.heap_setCell _ _ _ _ (fun e => hk (by rw [e]))⟩
theorem qown_no {w : World} {base : Nat} {e : TypeId} {size : Nat} {v : Value} {n : Nat} {xs : List Value} {p : Nat} {o : Obj} (h : w.ownsRow base e size v n xs) (hp : w.heap[p]? = some o) (ho : ∀ cur, o ≠ .cells cur e (0, 0)) : some p ≠ v.ownBlock := by
  rcases h.2 with ⟨rfl, _⟩ | ⟨g, cap, cur, rfl, _, hg, _⟩
  · simp [Value.ownBlock]
  · intro e1
    have e2 : p = g := Option.some.inj e1
    subst e2
    rw [hp] at hg
    exact ho cur (Option.some.inj hg)
theorem qinfoI : (Tryz.prog.info? 3).map (fun i => (i.zero, i.size, i.bytes)) = some (some (.int .i64 0), 1, 8) := by kernel_rfl
theorem qinfoC : (Tryz.prog.info? 41).map (fun i => (i.zero, i.size, i.bytes)) = some (some (.agg #[.int .i64 0, .int .i64 0]), 2, 16) := by kernel_rfl
def cellsV (l : List CellV) : List Value := l.flatMap fun c => [.int .i64 c.1, .int .i64 c.2]
theorem cellsV_at : ∀ (l : List CellV) (k : Nat) (c : CellV), l[k]? = some c → (cellsV l)[k * 2]? = some (.int .i64 c.1) ∧ (cellsV l)[k * 2 + 1]? = some (.int .i64 c.2)
  | [], k, c, h => by simp at h
  | d :: l, 0, c, h => by
    simp at h
    subst h
    exact ⟨rfl, rfl⟩
  | d :: l, k + 1, c, h => by
    have := cellsV_at l k c (by simpa using h)
    rw [show (k + 1) * 2 = k * 2 + 2 by omega]
    exact this
def RdC (w : World) (a : Option Addr) (n c : Nat) (l : List CellV) : Prop := RdA w 2 a n c (cellsV l)
theorem app_ints (w : World) {ops : Array Oper} {rest : List Oper} {o : Oper} {a : Act} {Q : Exit → Act → World → Prop} (hgd : o.guard = none) (s x : Operand)
    (ho : o.op = .call { callee := .builtin .append, args := #[s, x], argTypes := #[26, 26] }) (base : Nat)
    (sa : Option Addr) (sn sc : Nat) (xs : List Int) (hs : a.eval s = .slice sa sn sc) (hown : w.ownsRow base 3 1 (.slice sa sn sc) sn (xs.map intV))
    (xa : Option Addr) (m xc : Nat) (ys : List Int) (hx : a.eval x = .slice xa m xc) (hrd : RdI w xa m xc ys) (hbytes : (sn + m) * 8 ≤ 140737488355328) (hbase : base ≤ w.heap.size)
    (h : ∀ a' c' w', w'.ownsRow base 3 1 (.slice a' (sn + m) c') (sn + m) ((xs ++ ys).map intV) → w.grownBy w' (Value.ownBlock (.slice sa sn sc)) → wpList Tryz.prog ops Q rest (a.put o.dst (.slice a' (sn + m) c')) w') :
    wpList Tryz.prog ops Q (o :: rest) a w := by
  obtain ⟨i, hi, hz0, hz1, hz2⟩ := info_parts qinfoI
  exact wpList_append_rd w hgd s x 26 ho base 3 i _ 1 8 Tryz.underlying26 hi hz0 hz1 hz2 rfl (by decide) sa sn sc _ hs hown xa m xc _ hx hrd (intV_one _) (by unfold maxLen; omega) (by omega) hbase
    (fun a' c' w' h1 h2 => h a' c' w' (by rw [List.map_append]; exact h1) h2)
theorem cellsV_one (l : List CellV) : ∀ u ∈ cellsV l, u.oneCell' = true := by
  intro u hu
  obtain ⟨c, _, hc⟩ := List.mem_flatMap.1 hu
  simp at hc
  rcases hc with rfl | rfl <;> rfl
theorem app_cells (w : World) {ops : Array Oper} {rest : List Oper} {o : Oper} {a : Act} {Q : Exit → Act → World → Prop} (hgd : o.guard = none) (s x : Operand)
    (ho : o.op = .call { callee := .builtin .append, args := #[s, x], argTypes := #[44, 44] }) (base : Nat)
    (sa : Option Addr) (sn sc : Nat) (xs : List CellV) (hs : a.eval s = .slice sa sn sc) (hown : w.ownsRow base 41 2 (.slice sa sn sc) sn (cellsV xs))
    (xa : Option Addr) (m xc : Nat) (ys : List CellV) (hx : a.eval x = .slice xa m xc) (hrd : RdC w xa m xc ys) (hbytes : (sn + m) * 16 ≤ 140737488355328) (hbase : base ≤ w.heap.size)
    (h : ∀ a' c' w', w'.ownsRow base 41 2 (.slice a' (sn + m) c') (sn + m) (cellsV (xs ++ ys)) → w.grownBy w' (Value.ownBlock (.slice sa sn sc)) → wpList Tryz.prog ops Q rest (a.put o.dst (.slice a' (sn + m) c')) w') :
    wpList Tryz.prog ops Q (o :: rest) a w := by
  obtain ⟨i, hi, hz0, hz1, hz2⟩ := info_parts qinfoC
  exact wpList_append_rd w hgd s x 44 ho base 41 i _ 2 16 Tryz.underlying44 hi hz0 hz1 hz2 rfl (by decide) sa sn sc _ hs hown xa m xc _ hx hrd (cellsV_one _) (by unfold maxLen; omega) (by omega) hbase
    (fun a' c' w' h1 h2 => h a' c' w' (by unfold cellsV; rw [List.flatMap_append]; exact h1) h2)
theorem lit_cell (W : World) (c : CellV) : RdC (W.alloc (.cells #[.int .i64 c.1, .int .i64 c.2] 41)) (some ⟨W.heap.size, 0, none⟩) 1 1 [c] :=
  RdA.of_own (World.ownsRow_lit (base := W.heap.size) (e := 41) (size := 2) W #[.int .i64 c.1, .int .i64 c.2] 1 (Nat.le_refl _) (by unfold maxLen; omega) rfl)
theorem lit_int (W : World) (x : Int) : RdI (W.alloc (.cells #[.int .i64 x] 3)) (some ⟨W.heap.size, 0, none⟩) 1 1 [x] :=
  RdA.of_own (World.ownsRow_lit (base := W.heap.size) (e := 3) (size := 1) W #[.int .i64 x] 1 (Nat.le_refl _) (by unfold maxLen; omega) rfl)
theorem run_app_i (w : World) (base : Nat) (sa : Option Addr) (sn sc : Nat) (xs : List Int) (hown : w.ownsRow base 3 1 (.slice sa sn sc) sn (xs.map intV)) (xa : Option Addr) (m xc : Nat) (ys : List Int) (hrd : RdI w xa m xc ys)
    (hbytes : (sn + m) * 8 ≤ 140737488355328) (hbase : base ≤ w.heap.size) :
    ∃ a' c' w', (Builtin.append_ #[26, 26] 26 #[.slice sa sn sc, .slice xa m xc]).run Tryz.prog w = .ok (.slice a' (sn + m) c') w' ∧ w'.ownsRow base 3 1 (.slice a' (sn + m) c') (sn + m) ((xs ++ ys).map intV) ∧ w.grownBy w' (Value.ownBlock (.slice sa sn sc)) := by
  obtain ⟨i, hi, hz0, hz1, hz2⟩ := info_parts qinfoI
  rw [List.map_append]
  exact run_append_rd w base 26 26 3 i _ 1 8 Tryz.underlying26 hi hz0 hz1 hz2 rfl (by decide) sa sn sc _ hown xa m xc _ hrd (intV_one _) (by unfold maxLen; omega) hbytes hbase
theorem own_put {w : World} {base g n c : Nat} {xs : List Int} (h : w.ownsRow base 3 1 (.slice (some ⟨g, 0, none⟩) n c) n (xs.map intV)) {k : Nat} (hk : k < n) (x : Int) :
    (w.setCell ⟨g, k, none⟩ (.int .i64 x)).ownsRow base 3 1 (.slice (some ⟨g, 0, none⟩) n c) n ((xs.set k x).map intV) ∧ w.cell? ⟨g, k, none⟩ = some (.int .i64 (xs[k]?.getD 0)) ∧ w.frozen? ⟨g, k, none⟩ = false ∧ base ≤ g := by
  obtain ⟨h1, h2⟩ := h
  rcases h2 with ⟨h2, _⟩ | ⟨g', cap, cur, hv, hb, hg, hn, hc, hs, ht⟩
  · cases h2
  · simp only [Value.slice.injEq, Option.some.injEq, Addr.mk.injEq] at hv
    obtain ⟨⟨rfl, _, _⟩, _, rfl⟩ := hv
    have hl : xs.length = n := by simpa using h1
    refine ⟨⟨by simpa using h1, .inr ⟨g, c, cur.setIfInBounds k (.int .i64 x), rfl, hb, qput_at hg k _, hn, hc, by simpa using hs, ?_⟩⟩, ?_, qfroz hg k, hb⟩
    · rw [Array.toList_setIfInBounds, List.take_set, ht, List.map_set]
      rfl
    · have hck : cur[k]? = some (.int .i64 (xs[k]?.getD 0)) := by
        have e : (cur.toList.take (n * 1))[k]? = (xs.map intV)[k]? := by rw [ht]
        rw [List.getElem?_take, if_pos (by omega), List.getElem?_map] at e
        cases hx : xs[k]? with
        | none => rw [List.getElem?_eq_none_iff] at hx; omega
        | some v =>
          rw [hx] at e
          have e2 : cur[k]? = some (intV v) := by simpa using e
          exact e2
      exact qcell hg k _ hck
set_option maxHeartbeats 4000000 in
set_option maxRecDepth 100000 in
theorem cloneZ_any (a : Option Addr) (n c : Nat) (l : List Int) (w : World) (hn : n ≤ 1000000) (hr : RdI w a n c l) :
    Calls Tryz.prog 96 #[.slice a n c] w fun e w' => ∃ a' c', e = .returned (.slice a' n c') ∧ w'.ownsRow w.heap.size 3 1 (.slice a' n c') n (l.map intV) ∧ Below w.heap.size w w' := by
  have hnc := RdA.le hr
  by_cases ha : a = none
  · subst ha
    have hc : n = 0 ∧ c = 0 := by
      rcases hr.2.2.2 with h | ⟨b, off, h, _⟩
      · omega
      · cases h
    obtain ⟨rfl, rfl⟩ := hc
    have hl : l = [] := List.eq_nil_of_length_eq_zero (RdI.len hr)
    subst hl
    clear hr hnc
    have heq : ∀ w, (binOp .eql 26 (.slice none 0 0) (.slice none 0 0)).run Tryz.prog w = .ok (.bool true) w := fun w => Lib.run_eql_slice_nil (P := Tryz.prog) w 26 3 none 0 0 0 0 Tryz.underlying26
    go_enter Tryz.func96, Tryz.ntmps96
    go_wp2
    go_ret
    exact ⟨_, _, rfl, World.ownsRow_nil _ _ _ _, Below.refl _ _⟩
  · obtain ⟨ad, rfl⟩ := Option.ne_none_iff_exists'.1 ha
    clear ha
    have heq : ∀ w, (binOp .eql 26 (.slice (some ad) n c) (.slice none 0 0)).run Tryz.prog w = .ok (.bool false) w := fun w => Lib.run_eql_slice_nil (P := Tryz.prog) w 26 3 (some ad) n c 0 0 Tryz.underlying26
    have hown := World.ownsRow_lit (base := w.heap.size) (e := 3) (size := 1) w #[] 0 (Nat.le_refl _) (by unfold maxLen; omega) rfl
    have hr1 := hr.below ((Below.refl w.heap.size w).alloc (Nat.le_refl _) (Obj.cells #[] 3))
    go_enter Tryz.func96, Tryz.ntmps96
    go_wp2_with (at_builtin; refine app_ints _ rfl _ _ rfl w.heap.size _ _ _ [] rfl hown _ _ _ l rfl hr1 (by omega) (by simp) ?_)
    intro a' c' w' h1 h2
    go_wp2
    go_ret
    exact ⟨_, _, rfl, h1, ((Below.refl _ _).alloc (Nat.le_refl _) _).grown h2 (by simp) (fun k hk => by simp [Value.ownBlock] at hk; omega)⟩
theorem appq_cells (w : World) {ops : Array Oper} {rest : List Oper} {o : Oper} {a : Act} {Q : Exit → Act → World → Prop} (hgd : o.guard = none) (s x : Operand)
    (ho : o.op = .call { callee := .builtin .append, args := #[s, x], argTypes := #[44, 44] }) (base : Nat)
    (sa : Option Addr) (sn sc : Nat) (xs : List CellV) (hs : a.eval s = .slice sa sn sc) (hown : w.ownsRow base 41 2 (.slice sa sn sc) sn (cellsV xs))
    (xa : Option Addr) (m xc : Nat) (ys : List CellV) (hx : a.eval x = .slice xa m xc) (hrd : RdC w xa m xc ys) (hbytes : (sn + m) * 16 ≤ 140737488355328) (hbase : base ≤ w.heap.size)
    (h : ∀ a' c' w', w'.ownsRow base 41 2 (.slice a' (sn + m) c') (sn + m) (cellsV (xs ++ ys)) → (∀ (p : Nat) (ob : Obj), w.heap[p]? = some ob → (∀ cur, ob ≠ .cells cur 41 (0, 0)) → w'.heap[p]? = some ob) → (∀ W, Below base W w → Below base W w') → wpList Tryz.prog ops Q rest (a.put o.dst (.slice a' (sn + m) c')) w') :
    wpList Tryz.prog ops Q (o :: rest) a w :=
  app_cells w hgd s x ho base sa sn sc xs hs hown xa m xc ys hx hrd hbytes hbase fun a' c' w' h1 h2 => h a' c' w' h1 (fun p o hp ho => qgrown h2 hp (qown_no hown hp ho)) (fun W hb => hb.grown h2 hbase (fun k e => (hown.lt k e).1))
theorem qappend {P : Program} {op : Oper} {a : Act} {w w' : World} {K : Act → World → Prop} {Q : Exit → Act → World → Prop} (s x : Operand) (t : TypeId) (ho : op.op = .call { callee := .builtin .append, args := #[s, x], argTypes := #[t, t] }) (v1 v2 v : Value)
    (hs : a.eval s = v1) (hx : a.eval x = v2) (hr : (Builtin.append_ #[t, t] op.type #[v1, v2]).run P w = .ok v w') (h : K (a.put op.dst v) w') : op.wp P a w K Q := by
  unfold Oper.wp
  simp [execOp, ho, resolve, invoke, builtin, hs, hx, hr, Result.andThen]
  exact h
theorem run_app_q (w : World) (base : Nat) (sa : Option Addr) (sn sc : Nat) (xs : List Int) (hown : w.ownsRow base 3 1 (.slice sa sn sc) sn (xs.map intV)) (xa : Option Addr) (m xc : Nat) (ys : List Int) (hrd : RdI w xa m xc ys)
    (hbytes : (sn + m) * 8 ≤ 140737488355328) (hbase : base ≤ w.heap.size) :
    ∃ a' c' w', (Builtin.append_ #[26, 26] 26 #[.slice sa sn sc, .slice xa m xc]).run Tryz.prog w = .ok (.slice a' (sn + m) c') w' ∧ w'.ownsRow base 3 1 (.slice a' (sn + m) c') (sn + m) ((xs ++ ys).map intV) ∧
      (∀ (p : Nat) (ob : Obj), w.heap[p]? = some ob → (∀ cur, ob ≠ .cells cur 3 (0, 0)) → w'.heap[p]? = some ob) ∧ (∀ W, Below base W w → Below base W w') := by
  obtain ⟨a', c', w', h1, h2, h3⟩ := run_app_i w base sa sn sc xs hown xa m xc ys hrd hbytes hbase
  exact ⟨a', c', w', h1, h2, fun p o hp ho => qgrown h3 hp (qown_no hown hp ho), fun W hb => hb.grown h3 hbase (fun k e => (hown.lt k e).1)⟩
end Go.Proofs.YtimmadkbkimonaaGreatDoor
namespace Go.Proofs.YtimmadkbkimonaaGreatDoor
set_option linter.unusedSimpArgs false
set_option linter.unusedVariables false
open Go.RowKit

def withF (f : FaceV) (l : List Int) : FaceV := { f with kinds := l }
theorem qoneF (f : FaceV) (a : Option Addr) (n : Nat) : (f.cells a n).all (·.oneCell') = true := qone f a n
set_option maxHeartbeats 4000000 in
set_option maxRecDepth 100000 in
theorem with_any (f : FaceV) (a : Option Addr) (n : Nat) (l : List Int) (b : Option Addr) (m cb : Nat) (w : World) (hl : l.length = m) :
    Calls Tryz.prog 97 #[.agg (f.cells a n), .slice b m cb] w fun e w' => e = .returned (.agg ((withF f l).cells b cb)) ∧ Below w.heap.size w w' := by
  have JL := Lib.hid hl
  clear hl
  have AL := Lib.hid (al2 w (.cells (f.cells a n) 28) (.cells #[.int .i64 0, .int .i64 0, .int .i64 0, .slice none 0 0] 28))
  go_enter Tryz.func97, Tryz.ntmps97
  go_upto_region 1 with fail
  obtain ⟨p, hp⟩ : ∃ p, Hid (w.heap.size = p) := ⟨_, Lib.hid rfl⟩
  obtain ⟨z, hz⟩ : ∃ z, Hid (w.heap.size + 1 = z) := ⟨_, Lib.hid rfl⟩
  rw [hz.out] at AL ⊢
  rw [hp.out] at AL ⊢
  generalize ((w.alloc (.cells (f.cells a n) 28)).alloc (.cells #[.int .i64 0, .int .i64 0, .int .i64 0, .slice none 0 0] 28)) = W0 at *
  have BF : Hid (Below w.heap.size w W0) := Lib.hid (by rw [hp.out]; exact AL.out.1)
  have XF : Hid (W0.heap[p]? = some (.cells (f.cells a n) 28 (0, 0))) := Lib.hid AL.out.2.1
  have XZ : Hid (W0.heap[z]? = some (.cells (zeroF.cells none 0) 28 (0, 0))) := Lib.hid AL.out.2.2
  clear AL
  have c0 := qcell XF.out 0 (.int .i64 f.eye) rfl
  have c1 := qcell XF.out 1 (.int .i64 f.rings) rfl
  have c2 := qcell XF.out 2 (.int .i64 f.sectors) rfl
  have c3 := qcell XF.out 3 (.slice a f.kinds.length n) rfl
  have fz := qfroz XF.out 3
  go_upto_region 2 with (first
    | (refine wpList_load_row rfl 28 _ rfl p rfl 28 (f.cells a n) (0, 0) _ XF.out Tryz.underlying28 rfl (by exact (qJF f a n)) ?_)
    | (refine wpList_load_row rfl 28 _ rfl z rfl 28 (zeroF.cells none 0) (0, 0) _ XZ.out Tryz.underlying28 rfl (by exact (qJF zeroF none 0)) ?_)
    | fail)
  clear c0 c1 c2 c3
  clear fz
  have XG : Hid ((W0.setCell ⟨p, 3, none⟩ (.slice b m cb)).heap[p]? = some (.cells ((withF f l).cells b cb) 28 (0, 0))) := Lib.hid (by rw [qput_at XF.out 3 _, ← JL.out]; rfl)
  have HG := qput_grown W0 p 3 (.slice b m cb)
  replace BF := Lib.hid (qstep BF.out HG (by have h1 := hp.out; omega))
  replace XZ := Lib.hid (qgrown HG XZ.out (fun e => by have h1 := hp.out; have h2 := hz.out; have := Option.some.inj e; omega))
  clear HG XF
  generalize W0.setCell ⟨p, 3, none⟩ (.slice b m cb) = W1 at *
  go_wp2_with (first
    | (refine wpList_load_row rfl 28 _ rfl p rfl 28 ((withF f l).cells b cb) (0, 0) _ XG.out Tryz.underlying28 rfl (by exact (qJF (withF f l) b cb)) ?_)
    | (refine wpList_load_row rfl 28 _ rfl z rfl 28 (zeroF.cells none 0) (0, 0) _ XZ.out Tryz.underlying28 rfl (by exact (qJF zeroF none 0)) ?_)
    | (refine wpList_qstore rfl 28 _ _ rfl z (zeroF.cells none 0) ((withF f l).cells b cb) 28 rfl rfl XZ.out (by exact (qJF (withF f l) b cb)) rfl (qoneF (withF f l) b cb) ?_; intro VZ hzz hgz; replace BF := Lib.hid (qstep BF.out hgz (by have h1 := hz.out; omega)); replace XG := Lib.hid (qgrown hgz XG.out (fun e => by have h1 := hp.out; have h2 := hz.out; have := Option.some.inj e; omega)); replace XZ := Lib.hid hzz; clear hzz hgz)
    | fail)
  (try simp only [Exit.inBlock, Exit.then])
  refine bodyPost_ret (results_cell_row rfl _ VZ z 28 ((withF f l).cells b cb) (0, 0) _ rfl XZ.out Tryz.underlying28 rfl (by exact (qJF (withF f l) b cb))) rfl ?_
  exact ⟨rfl, BF.out⟩
end Go.Proofs.YtimmadkbkimonaaGreatDoor
namespace Go.Proofs.YtimmadkbkimonaaGreatDoor

section
variable {P : Program} {ops : Array Oper} {Q : Exit → Act → World → Prop} {md : Region.Mode} {m : Nat} {S : World → Prop}
def AnyBut (P : Program) (md : Region.Mode) (ops : Array Oper) (Q : Exit → Act → World → Prop) (m : Nat) (S : World → Prop) : Nat → Array Bool → Act → World → Prop
  | 0, l, a, w => Region.ready md ops l = [] ∧ Q .normal a w
  | n + 1, l, a, w => (Region.ready md ops l = [] → Q .normal a w) ∧ ∀ i ∈ Region.ready md ops l, wpOp P ops Q i (fun a' w' => (i ≠ m → S w') ∧ AnyBut P md ops Q m S n (l.setIfInBounds i true) a' w') a w
theorem AnyBut.any : ∀ (n : Nat) (l : Array Bool) (a : Act) (w : World), AnyBut P md ops Q m S n l a w → wpAny P md ops Q n l a w
  | 0, _, _, _, h => h
  | n + 1, _, _, _, h => ⟨h.1, fun i hi => wpOp_mono (fun a' w' h' => AnyBut.any n _ a' w' h'.2) (h.2 i hi)⟩
theorem AnyBut.done {l : Array Bool} {a : Act} {w : World} (hr : Region.ready md ops l = []) (h : Q .normal a w) : ∀ n, AnyBut P md ops Q m S n l a w
  | 0 => ⟨hr, h⟩
  | _ + 1 => ⟨fun _ => h, by rw [hr]; simp⟩
theorem not_ready {i : Nat} {l : Array Bool} (hm : Region.waitsFor md ops m i = true) (hi : l.getD i true = false) : m ∉ Region.ready md ops l := fun hr => by
  obtain ⟨oj, hj, e, he, hb, hon⟩ := Region.waitsFor_spec hm
  obtain ⟨_, oj', hj', hall⟩ := mem_ready.1 hr
  have h0 : oj' = oj := Option.some.inj (hj'.symm.trans hj)
  subst h0
  have h1 := hall e he hb
  rw [hon, getD_both hi] at h1
  cases h1
theorem AnyBut.first {i : Nat} {oi : Oper} {v : Value} (hi : ops[i]? = some oi) (hsel : ∀ (j : Nat) (o : Oper) cs b, ops[j]? = some o → o.op ≠ .select cs b) (hm : Region.waitsFor md ops m i = true) (hne : i ≠ m)
    (hQ : ∀ c a w, Q (.panic c) (a.put oi.dst v) w → Q (.panic c) a w) : ∀ (n : Nat) (l : Array Bool) (a : Act) (w : World),
      (∀ j oj, ops[j]? = some oj → j ≠ i → l.getD j true = false → (∀ e ∈ oj.after, Region.binds md e = true → e.on ≠ i) → oi.apart ops oj = true) →
      i ∈ Region.ready md ops l → YieldsIf P ops S oi v a → S w → AnyBut P md ops Q m S n (l.setIfInBounds i true) (a.put oi.dst v) w → AnyBut P md ops Q m S (n + 1) l a w := by
  intro n
  induction n with
  | zero =>
    intro l a w _ hr hy hS H
    refine ⟨fun h => (by rw [h] at hr; cases hr), fun j hj => ?_⟩
    by_cases e : j = i
    · rw [e]; exact hy.wpOp hi hS ⟨fun _ => hS, H⟩
    · have h1 := ready_mono hj e
      rw [H.1] at h1
      cases h1
  | succ n ih =>
    intro l a w hfree hr hy hS H
    refine ⟨fun h => (by rw [h] at hr; cases hr), fun j hj => ?_⟩
    by_cases e : j = i
    · rw [e]; exact hy.wpOp hi hS ⟨fun _ => hS, H⟩
    · obtain ⟨hjun, oj, hoj, hall⟩ := mem_ready.1 hj
      have hiun := (mem_ready.1 hr).1
      have hjm : j ≠ m := fun e2 => not_ready hm hiun (e2 ▸ hj)
      have hno : ∀ x ∈ oj.after, Region.binds md x = true → x.on ≠ i := fun x hx hb heq => by
        have h1 := hall x hx hb
        rw [heq, getD_both hiun] at h1
        cases h1
      have h2 := wpOp_putIf hoj (hfree j oj hoj e hjun hno) (fun cs b => hsel i oi cs b hi) (fun cs b => hsel j oj cs b hoj) hQ hy (H.2 j (ready_mono hj e))
      refine wpOp_mono (fun a' w' h3 => ⟨fun _ => h3.2.1 hjm, ih (l.setIfInBounds j true) a' w' (fun k ok hk hki hun hn => ?_) (ready_mono hr (Ne.symm e)) h3.1 (h3.2.1 hjm) ?_⟩) h2
      · refine hfree k ok hk hki ?_ hn
        by_cases e2 : j = k
        · rw [← e2]; exact hjun
        · rw [getD_set_ne true e2] at hun; exact hun
      · rw [Array.setIfInBounds_comm _ _ e]
        exact h3.2.2
theorem AnyBut.take {i : Nat} {oi : Oper} {v : Value} {n : Nat} {l : Array Bool} {a : Act} {w : World} (hi : ops[i]? = some oi) (hs : Region.noSelect ops = true) (hf : Region.free md ops l i = true) (hr : (Region.ready md ops l).contains i = true)
    (hm : (Region.waitsFor md ops m i && decide (i ≠ m)) = true) (hQ : ∀ c a w, Q (.panic c) (a.put oi.dst v) w → Q (.panic c) a w) (hy : YieldsIf P ops S oi v a) (hS : S w)
    (h : AnyBut P md ops Q m S n (l.setIfInBounds i true) (a.put oi.dst v) w) : AnyBut P md ops Q m S (n + 1) l a w := by
  rw [Bool.and_eq_true, decide_eq_true_eq] at hm
  exact AnyBut.first hi (Region.noSelect_spec hs) hm.1 hm.2 hQ n l a w (Region.free_spec hi hf) (by simpa using hr) hy hS h
def AllBut (P : Program) (md : Region.Mode) (ops : Array Oper) (Q : Exit → Act → World → Prop) (m : Nat) (S : World → Prop) (n : Nat) (l : Array Bool) (a : Act) (w : World) (rs : List Nat) : Prop :=
  ∀ i ∈ rs, wpOp P ops Q i (fun a' w' => (i ≠ m → S w') ∧ AnyBut P md ops Q m S n (l.setIfInBounds i true) a' w') a w
theorem AllBut.nil {n : Nat} {l : Array Bool} {a : Act} {w : World} : AllBut P md ops Q m S n l a w [] := fun _ h => by cases h
theorem AllBut.cons {n : Nat} {l : Array Bool} {a : Act} {w : World} {i : Nat} {o : Oper} {rs : List Nat} (ho : ops[i]? = some o)
    (h : ∀ K : Act → World → Prop, Shut (∀ a w, S w → (S w → AnyBut P md ops Q m S n (l.setIfInBounds i true) a w) → K a w) → if Region.wanted o (yielded ops a.tmps) = true then Oper.wp P o a w K Q else K (a.put o.dst undef) w)
    (hs : AllBut P md ops Q m S n l a w rs) : AllBut P md ops Q m S n l a w (i :: rs) := fun j hj => by
  rcases List.mem_cons.1 hj with e | hj
  · rw [e]
    exact wpOp_step ho (fun K hK => h K (fun a w hS hW => hK a w ⟨fun _ => hS, hW hS⟩))
  · exact hs j hj
theorem AllBut.last {n : Nat} {l : Array Bool} {a : Act} {w : World} {o : Oper} (ho : ops[m]? = some o)
    (h : ∀ K : Act → World → Prop, Shut (∀ a w, AnyBut P md ops Q m S n (l.setIfInBounds m true) a w → K a w) → if Region.wanted o (yielded ops a.tmps) = true then Oper.wp P o a w K Q else K (a.put o.dst undef) w) : AllBut P md ops Q m S n l a w [m] := fun j hj => by
  rw [List.mem_singleton.1 hj]
  exact wpOp_step ho (fun K hK => h K (fun a w hW => hK a w ⟨fun e => absurd rfl e, hW⟩))
theorem AnyBut.ready {rs : List Nat} {n : Nat} {l : Array Bool} {a : Act} {w : World} (hr : Region.ready md ops l = rs) (hne : rs ≠ []) (h : AllBut P md ops Q m S n l a w rs) : AnyBut P md ops Q m S (n + 1) l a w :=
  ⟨fun h0 => absurd (hr ▸ h0) hne, hr ▸ h⟩
theorem bW {n : Nat} {l : Array Bool} {a a' : Act} {w : World} (i : Nat) {oi : Oper} (hi : ops[i]? = some oi) (v : Value) (h : AnyBut P md ops Q m S n (l.setIfInBounds i true) a' w)
    (hs : Region.noSelect ops = true := by kernel_rfl) (hf : Region.free md ops l i = true := by kernel_rfl) (hr : (Region.ready md ops l).contains i = true := by kernel_rfl) (hm : (Region.waitsFor md ops m i && decide (i ≠ m)) = true := by kernel_rfl)
    (hQ : ∀ c a w, Q (.panic c) (a.put oi.dst v) w → Q (.panic c) a w := by exact fun _ _ _ h => h) (hS : S w := by assumption) (hy : YieldsIf P ops S oi v a := by exact Or.inl ⟨by kernel_rfl, by intro W _; go_simp⟩)
    (ha : a.put oi.dst v = a' := by first | (simp only [Act.put, List.getElem_toArray, List.getElem_cons_succ, List.getElem_cons_zero, List.setIfInBounds_toArray, List.set_cons_zero, List.set_cons_succ]; rfl) | rfl) :
    AnyBut P md ops Q m S (n + 1) l a w := AnyBut.take hi hs hf hr hm hQ hy hS (ha ▸ h)
theorem bS {n : Nat} {l : Array Bool} {a a' : Act} {w : World} (i : Nat) {oi : Oper} (hi : ops[i]? = some oi) (v : Value) (hq : ∀ W, S W → (execOp a.eval oi).run P W = .ok (.value v) W) (h : AnyBut P md ops Q m S n (l.setIfInBounds i true) a' w)
    (hs : Region.noSelect ops = true := by kernel_rfl) (hf : Region.free md ops l i = true := by kernel_rfl) (hr : (Region.ready md ops l).contains i = true := by kernel_rfl) (hm : (Region.waitsFor md ops m i && decide (i ≠ m)) = true := by kernel_rfl)
    (hQ : ∀ c a w, Q (.panic c) (a.put oi.dst v) w → Q (.panic c) a w := by exact fun _ _ _ h => h) (hS : S w := by assumption) (hw : Region.wanted oi (yielded ops a.tmps) = true := by kernel_rfl)
    (ha : a.put oi.dst v = a' := by first | (simp only [Act.put, List.getElem_toArray, List.getElem_cons_succ, List.getElem_cons_zero, List.setIfInBounds_toArray, List.set_cons_zero, List.set_cons_succ]; rfl) | rfl) :
    AnyBut P md ops Q m S (n + 1) l a w := AnyBut.take hi hs hf hr hm hQ (.inl ⟨hw, hq⟩) hS (ha ▸ h)
theorem bR {n : Nat} {l : Array Bool} {a : Act} {w : World} (i : Nat) {o : Oper} (ho : ops[i]? = some o)
    (h : ∀ K : Act → World → Prop, Shut (∀ a w, S w → (S w → AnyBut P md ops Q m S n (l.setIfInBounds i true) a w) → K a w) → if Region.wanted o (yielded ops a.tmps) = true then Oper.wp P o a w K Q else K (a.put o.dst undef) w)
    (hr : Region.ready md ops l = [i] := by kernel_rfl) : AnyBut P md ops Q m S (n + 1) l a w := AnyBut.ready hr (by simp) (AllBut.cons ho h AllBut.nil)
theorem bL {n : Nat} {l : Array Bool} {a : Act} {w : World} {o : Oper} (ho : ops[m]? = some o)
    (h : ∀ K : Act → World → Prop, Shut (∀ a w, AnyBut P md ops Q m S n (l.setIfInBounds m true) a w → K a w) → if Region.wanted o (yielded ops a.tmps) = true then Oper.wp P o a w K Q else K (a.put o.dst undef) w)
    (hr : Region.ready md ops l = [m] := by kernel_rfl) : AnyBut P md ops Q m S (n + 1) l a w := AnyBut.ready hr (by simp) (AllBut.last ho h)
theorem bK {n : Nat} {l : Array Bool} {a a' : Act} {w : World} {K : Act → World → Prop} (hK : Shut (∀ a w, S w → (S w → AnyBut P md ops Q m S n l a w) → K a w)) (hS : S w) (h : S w → AnyBut P md ops Q m S n l a' w)
    (ha : a = a' := by first | (simp only [Act.put, List.getElem_toArray, List.getElem_cons_succ, List.getElem_cons_zero, List.setIfInBounds_toArray, List.set_cons_zero, List.set_cons_succ]; rfl) | rfl) : K a w := by
  subst ha
  exact hK.out _ _ hS h
theorem bE {n : Nat} {l : Array Bool} {a : Act} {w : World} {Q : Exit → Act → World → Prop} (h : Q .normal a w) (hr : Region.ready md ops l = [] := by kernel_rfl) : AnyBut P md ops (NoPanic Q) m S n l a w := AnyBut.done hr (NoPanic.normal h) _
theorem bD {id : Nat} {a : Act} {w : World} {Q : Exit → Act → World → Prop} (m : Nat) (S : World → Prop) (hS : S w.drew) (h : S w.drew → AnyBut P .any ops (NoPanic Q) m S ops.size (Array.replicate ops.size false) a w.drew) (hm : P.follows .mixedOrders = true := by kernel_rfl) :
    (Code.region id ops true).wp P Q a w := wp_region_noPanic (wp_region_any hm (AnyBut.any _ _ _ _ (h hS)))
end
end Go.Proofs.YtimmadkbkimonaaGreatDoor
namespace Go.Proofs.YtimmadkbkimonaaGreatDoor
set_option linter.unusedSimpArgs false
set_option linter.unusedVariables false
open Go.RowKit

theorem dig_all : (List.range 100).all (fun n => Lib.decDigits n == itoaB n) = true := by decide +kernel
theorem dig_itoa {n : Nat} (h : n < 100) : Lib.decDigits n = itoaB n := by
  have := List.all_eq_true.1 dig_all n (List.mem_range.2 h)
  simpa using this
def headS (f : FaceV) : ByteArray := ⟨(headB f).toArray⟩
theorem bytes_ext {a b : ByteArray} (h : a.data.toList = b.data.toList) : a = b := by
  obtain ⟨⟨x⟩⟩ := a
  obtain ⟨⟨y⟩⟩ := b
  simp only at h
  subst h
  rfl
theorem headS_eq {f : FaceV} (h : headF f = true) : (((((⟨#[102, 97, 99, 101, 32]⟩ : ByteArray) ++ ⟨(Lib.decDigits f.eye.toNat).toArray⟩) ++ ⟨#[32]⟩) ++ ⟨(Lib.decDigits f.rings.toNat).toArray⟩) ++ ⟨#[32]⟩) ++ ⟨(Lib.decDigits f.sectors.toNat).toArray⟩ = headS f := by
  have hh := headF_iff.1 h
  rw [dig_itoa (n := f.eye.toNat) (by omega), dig_itoa (n := f.rings.toNat) (by omega), dig_itoa (n := f.sectors.toNat) (by omega)]
  apply bytes_ext
  unfold headS headB
  simp [faceB]
theorem sz1 : (⟨#[32]⟩ : ByteArray).size = 1 := rfl
theorem sz5 : (⟨#[102, 97, 99, 101, 32]⟩ : ByteArray).size = 5 := rfl
set_option maxHeartbeats 4000000 in
set_option maxRecDepth 100000 in
theorem header_any (f : FaceV) (a : Option Addr) (n : Nat) (w : World) (hv : headF f = true) : Calls Tryz.prog 74 #[.agg (f.cells a n)] w fun e w' => e = .returned (.string (headS f)) ∧ Below w.heap.size w w' := by
  have DL : Hid ((Lib.decDigits f.eye.toNat).length ≤ 2 ∧ (Lib.decDigits f.rings.toNat).length ≤ 2 ∧ (Lib.decDigits f.sectors.toNat).length ≤ 2) := Lib.hid (by
    have hh := headF_iff.1 hv
    rw [dig_itoa (n := f.eye.toNat) (by omega), dig_itoa (n := f.rings.toNat) (by omega), dig_itoa (n := f.sectors.toNat) (by omega)]
    have h : ∀ n, (itoaB n).length ≤ 2 := fun n => by unfold itoaB; split <;> simp
    exact ⟨h _, h _, h _⟩)
  have HH := Lib.hid (headF_iff.1 hv)
  have EQ := Lib.hid (headS_eq hv)
  have IE := Lib.hid (fun W => sh_strconv_Itoa_small f.eye.toNat (by have := HH.out; omega) W)
  have IR := Lib.hid (fun W => sh_strconv_Itoa_small f.rings.toNat (by have := HH.out; omega) W)
  have IS := Lib.hid (fun W => sh_strconv_Itoa_small f.sectors.toNat (by have := HH.out; omega) W)
  rw [Int.toNat_of_nonneg (by have := HH.out; omega)] at IE IR IS
  clear hv
  obtain ⟨x1, hx1⟩ : ∃ x, Hid ((⟨(Lib.decDigits f.eye.toNat).toArray⟩ : ByteArray) = x) := ⟨_, Lib.hid rfl⟩
  obtain ⟨x2, hx2⟩ : ∃ x, Hid ((⟨(Lib.decDigits f.rings.toNat).toArray⟩ : ByteArray) = x) := ⟨_, Lib.hid rfl⟩
  obtain ⟨x3, hx3⟩ : ∃ x, Hid ((⟨(Lib.decDigits f.sectors.toNat).toArray⟩ : ByteArray) = x) := ⟨_, Lib.hid rfl⟩
  have L1 : Hid (x1.size ≤ 2) := Lib.hid (by rw [← hx1.out]; exact DL.out.1)
  have L2 : Hid (x2.size ≤ 2) := Lib.hid (by rw [← hx2.out]; exact DL.out.2.1)
  have L3 : Hid (x3.size ≤ 2) := Lib.hid (by rw [← hx3.out]; exact DL.out.2.2)
  rw [hx1.out] at EQ IE
  rw [hx2.out] at EQ IR
  rw [hx3.out] at EQ IS
  clear hx1 hx2 hx3 DL
  obtain ⟨s1, hs1⟩ : ∃ x, Hid ((⟨#[102, 97, 99, 101, 32]⟩ : ByteArray) ++ x1 = x) := ⟨_, Lib.hid rfl⟩
  obtain ⟨s2, hs2⟩ : ∃ x, Hid (s1 ++ (⟨#[32]⟩ : ByteArray) = x) := ⟨_, Lib.hid rfl⟩
  obtain ⟨s3, hs3⟩ : ∃ x, Hid (s2 ++ x2 = x) := ⟨_, Lib.hid rfl⟩
  obtain ⟨s4, hs4⟩ : ∃ x, Hid (s3 ++ (⟨#[32]⟩ : ByteArray) = x) := ⟨_, Lib.hid rfl⟩
  obtain ⟨s5, hs5⟩ : ∃ x, Hid (s4 ++ x3 = x) := ⟨_, Lib.hid rfl⟩
  rw [hs1.out, hs2.out, hs3.out, hs4.out, hs5.out] at EQ
  have M1 : Hid (s1.size ≤ 10) := Lib.hid (by have := L1.out; rw [← hs1.out, ByteArray.size_append]; show 5 + _ ≤ _; omega)
  have M2 : Hid (s2.size ≤ 12) := Lib.hid (by have := M1.out; rw [← hs2.out, ByteArray.size_append]; show _ + 1 ≤ _; omega)
  have M3 : Hid (s3.size ≤ 20) := Lib.hid (by have := M2.out; have := L2.out; rw [← hs3.out, ByteArray.size_append]; omega)
  have M4 : Hid (s4.size ≤ 22) := Lib.hid (by have := M3.out; rw [← hs4.out, ByteArray.size_append]; show _ + 1 ≤ _; omega)
  have AL := Lib.hid (al1 w (.cells (f.cells a n) 28))
  go_enter Tryz.func74, Tryz.ntmps74
  go_upto_region 1 with fail
  obtain ⟨p, hp⟩ : ∃ p, Hid (w.heap.size = p) := ⟨_, Lib.hid rfl⟩
  rw [hp.out] at AL ⊢
  generalize (w.alloc (.cells (f.cells a n) 28)) = W0 at *
  have BF : Hid (Below w.heap.size w W0) := Lib.hid (by rw [hp.out]; exact AL.out.1)
  have XF : Hid (W0.heap[p]? = some (.cells (f.cells a n) 28 (0, 0))) := Lib.hid AL.out.2
  clear AL
  have c0 := qcell XF.out 0 (.int .i64 f.eye) rfl
  have c1 := qcell XF.out 1 (.int .i64 f.rings) rfl
  have c2 := qcell XF.out 2 (.int .i64 f.sectors) rfl
  have c3 := qcell XF.out 3 (.slice a f.kinds.length n) rfl
  clear c0 c1 c2 c3
  have hd : Below W0.heap.size W0 W0.drew := (Below.refl _ _).drew
  replace BF := Lib.hid (BF.out.drew)
  replace XF := Lib.hid (qblk hd XF.out)
  refine zD (fun W => Below w.heap.size w W ∧ W.heap[p]? = some (.cells (f.cells a n) 28 (0, 0))) ⟨BF.out, XF.out⟩ (fun hHeld => ?_)
  clear hd
  generalize W0.drew = V0 at *
  refine zW 0 rfl (.pointer (some ⟨p, 0, none⟩)) ?_
  refine zS 1 rfl (.int .i64 f.eye) (fun W hW => by have c := qcell hW.2 0 (.int .i64 f.eye) rfl; go_simp) ?_
  refine zW 5 rfl (.pointer (some ⟨p, 1, none⟩)) ?_
  refine zS 6 rfl (.int .i64 f.rings) (fun W hW => by have c := qcell hW.2 1 (.int .i64 f.rings) rfl; go_simp) ?_
  refine zW 10 rfl (.pointer (some ⟨p, 2, none⟩)) ?_
  refine zS 11 rfl (.int .i64 f.sectors) (fun W hW => by have c := qcell hW.2 2 (.int .i64 f.sectors) rfl; go_simp) ?_
  refine zR 2 rfl (fun K hK => ?_)
  go_simp
  refine (IE.out _).mono ?_
  rintro e V1 ⟨rfl, rfl⟩
  dsimp only
  refine zK hK ⟨BF.out, XF.out⟩ (fun hHeld => ?_)
  clear hK K
  refine zW 3 rfl (.string s1) (hy := .inl ⟨by kernel_rfl, by intro W _; have e := hs1.out; go_simp; have l1 := L1.out; have l2 := L1.out; (try simp only [sz1, sz5]); omega⟩) ?_
  refine zW 4 rfl (.string s2) (hy := .inl ⟨by kernel_rfl, by intro W _; have e := hs2.out; go_simp; have l1 := M1.out; have l2 := M1.out; (try simp only [sz1, sz5]); omega⟩) ?_
  refine zR 7 rfl (fun K hK => ?_)
  go_simp
  refine (IR.out _).mono ?_
  rintro e V1 ⟨rfl, rfl⟩
  dsimp only
  refine zK hK ⟨BF.out, XF.out⟩ (fun hHeld => ?_)
  clear hK K
  refine zW 8 rfl (.string s3) (hy := .inl ⟨by kernel_rfl, by intro W _; have e := hs3.out; go_simp; have l1 := M2.out; have l2 := L2.out; (try simp only [sz1, sz5]); omega⟩) ?_
  refine zW 9 rfl (.string s4) (hy := .inl ⟨by kernel_rfl, by intro W _; have e := hs4.out; go_simp; have l1 := M3.out; have l2 := M3.out; (try simp only [sz1, sz5]); omega⟩) ?_
  refine zR 12 rfl (fun K hK => ?_)
  go_simp
  refine (IS.out _).mono ?_
  rintro e V1 ⟨rfl, rfl⟩
  dsimp only
  refine zK hK ⟨BF.out, XF.out⟩ (fun hHeld => ?_)
  clear hK K
  refine zW 13 rfl (.string s5) (hy := .inl ⟨by kernel_rfl, by intro W _; have e := hs5.out; go_simp; have l1 := M4.out; have l2 := L3.out; (try simp only [sz1, sz5]); omega⟩) ?_
  refine zW 14 rfl (.string s5) ?_
  refine zE ?_
  go_wp2_with fail
  go_ret
  exact ⟨by rw [← EQ.out]; rfl, BF.out⟩
end Go.Proofs.YtimmadkbkimonaaGreatDoor
namespace Go.Proofs.YtimmadkbkimonaaGreatDoor
set_option linter.unusedSimpArgs false
set_option linter.unusedVariables false
open Go.RowKit

theorem cellsF_succ (f : FaceV) (K : Int) (k : Nat) : cellsF f K (k + 1) = cellsF f K k ++ (if f.kat k = K then [cellF f k] else []) := by
  unfold cellsF
  rw [List.range_succ, List.filterMap_append]
  congr 1
  by_cases h : f.kat k = K
  · rw [if_pos h, List.filterMap_cons, if_pos h]; rfl
  · rw [if_neg h, List.filterMap_cons, if_neg h]; rfl
theorem cellsF_len (f : FaceV) (K : Int) (k : Nat) : (cellsF f K k).length ≤ k := by
  unfold cellsF
  refine Nat.le_trans (List.length_filterMap_le _ _) ?_
  rw [List.length_range]
  exact Nat.le_refl _
theorem FaceV.len_le {f : FaceV} (h : f.valid = true) : f.kinds.length ≤ 2304 := by
  have h2 := FaceV.int h
  have h3 : f.rings * f.sectors ≤ 24 * 96 := Int.mul_le_mul (by omega) (by omega) (by omega) (by omega)
  omega
theorem FaceV.kat_at {f : FaceV} {k : Nat} (h : k < f.kinds.length) : f.kinds[k]? = some (f.kat k) := by
  unfold FaceV.kat
  rw [List.getElem?_eq_getElem h]
  rfl
set_option maxHeartbeats 4000000 in
set_option maxRecDepth 100000 in
theorem cellsP_any (f : FaceV) (a : Option Addr) (n : Nat) (K : Int) (w : World) (hr : RdI w a f.kinds.length n f.kinds) :
    Calls Tryz.prog 61 #[.agg (f.cells a n), .int .i64 K] w fun e w' => ∃ oa oc, e = .returned (.tuple #[.slice oa (cellsP f K).1.length oc, .int .i64 (cellsP f K).2]) ∧ w'.ownsRow w.heap.size 41 2 (.slice oa (cellsP f K).1.length oc) (cellsP f K).1.length (cellsV (cellsP f K).1) ∧ Below w.heap.size w w' := by
  have AV := Lib.hid (fun W (hb : Below w.heap.size w W) => valid2_any f a n W (hr.below hb))
  have HR := Lib.hid (fun W (hb : Below w.heap.size w W) => hr.below hb)
  clear hr
  have AL := Lib.hid (al1 w (.cells (f.cells a n) 28))
  go_enter Tryz.func61, Tryz.ntmps61
  go_upto_region 1 with fail
  obtain ⟨p, hp⟩ : ∃ p, Hid (w.heap.size = p) := ⟨_, Lib.hid rfl⟩
  rw [hp.out] at AL ⊢
  generalize (w.alloc (.cells (f.cells a n) 28)) = W0 at *
  have BF : Hid (Below w.heap.size w W0) := Lib.hid (by rw [hp.out]; exact AL.out.1)
  have XF : Hid (W0.heap[p]? = some (.cells (f.cells a n) 28 (0, 0))) := Lib.hid AL.out.2
  clear AL
  have c0 := qcell XF.out 0 (.int .i64 f.eye) rfl
  have c1 := qcell XF.out 1 (.int .i64 f.rings) rfl
  have c2 := qcell XF.out 2 (.int .i64 f.sectors) rfl
  have c3 := qcell XF.out 3 (.slice a f.kinds.length n) rfl
  go_wp2_with (first
    | (refine wpList_load_row rfl 28 _ rfl p rfl 28 (f.cells a n) (0, 0) _ XF.out Tryz.underlying28 rfl (by exact (qJF f a n)) ?_)
    | fail)
  refine (AV.out W0 BF.out).mono ?_
  rintro e V1 ⟨rfl, b⟩
  clear c0 c1 c2 c3
  replace BF := Lib.hid (BF.out.trans (b.mono BF.out.size))
  replace XF := Lib.hid (qblk b XF.out)
  clear b
  have c0 := qcell XF.out 0 (.int .i64 f.eye) rfl
  have c1 := qcell XF.out 1 (.int .i64 f.rings) rfl
  have c2 := qcell XF.out 2 (.int .i64 f.sectors) rfl
  have c3 := qcell XF.out 3 (.slice a f.kinds.length n) rfl
  cases hv : f.valid
  · go_wp2_with (first
      | (refine wpList_load_row rfl 28 _ rfl p rfl 28 (f.cells a n) (0, 0) _ XF.out Tryz.underlying28 rfl (by exact (qJF f a n)) ?_)
      | fail)
    go_ret2
    unfold cellsP
    rw [if_pos hv]
    exact ⟨none, 0, rfl, World.ownsRow_nil _ _ _ _, BF.out⟩
  · have IV := Lib.hid (FaceV.int hv)
    have LL := Lib.hid (FaceV.len_le hv)
    go_wp2_with (first
      | (refine wpList_load_row rfl 28 _ rfl p rfl 28 (f.cells a n) (0, 0) _ XF.out Tryz.underlying28 rfl (by exact (qJF f a n)) ?_)
      | fail)
    refine (kind_any K V1).mono ?_
    rintro e V2 ⟨rfl, rfl⟩
    cases hb : kindB K
    · go_wp2_with (first
        | (refine wpList_load_row rfl 28 _ rfl p rfl 28 (f.cells a n) (0, 0) _ XF.out Tryz.underlying28 rfl (by exact (qJF f a n)) ?_)
        | fail)
      go_ret2
      unfold cellsP
      rw [if_neg (by rw [hv]; decide), if_pos hb]
      exact ⟨none, 0, rfl, World.ownsRow_nil _ _ _ _, BF.out⟩
    · have HB := Lib.hid hb
      have HV := Lib.hid hv
      clear hb hv
      go_wp2_with (first
        | (refine wpList_load_row rfl 28 _ rfl p rfl 28 (f.cells a n) (0, 0) _ XF.out Tryz.underlying28 rfl (by exact (qJF f a n)) ?_)
        | fail)
      clear c0 c1 c2 c3
      go_loopw [6, 20] (fun o i wr => ∃ (k : Nat) (oa : Option Addr) (oc : Nat), i = .int .i64 k ∧ o = .slice oa (cellsF f K k).length oc ∧ k ≤ f.kinds.length ∧ Hid (wr.ownsRow w.heap.size 41 2 (.slice oa (cellsF f K k).length oc) (cellsF f K k).length (cellsV (cellsF f K k))) ∧ Hid (Below w.heap.size w wr) ∧ Hid (wr.heap[p]? = some (.cells (f.cells a n) 28 (0, 0)))) (fun _ i _ => f.kinds.length - (intOf i).toNat)
      case atStart => exact ⟨0, none, 0, rfl, rfl, Nat.zero_le _, Lib.hid (World.ownsRow_nil _ _ _ _), BF, XF⟩
      case round =>
        clear BF XF
        obtain ⟨k, oa, oc, rfl, rfl, hk, OW, BF, XF⟩ := hrel
        by_cases hkn : k < f.kinds.length
        · have t0 : decide ((k : Int) < (f.kinds.length : Int)) = true := by simp; omega
          obtain ⟨b, off, rfl, hx⟩ := (HR.out _ BF.out).get (FaceV.kat_at hkn)
          have hk64 : (k : Int) + 1 ≤ 9223372036854775807 := by have := LL.out; omega
          have HL := Lib.hid (cellsF_len f K k)
          obtain ⟨y, hy⟩ : ∃ y, Hid (f.kat k = y) := ⟨_, Lib.hid rfl⟩
          rw [hy.out] at hx
          have c0 := qcell XF.out 0 (.int .i64 f.eye) rfl
          have c1 := qcell XF.out 1 (.int .i64 f.rings) rfl
          have c2 := qcell XF.out 2 (.int .i64 f.sectors) rfl
          have c3 := qcell XF.out 3 (.slice (some ⟨b, off, none⟩) f.kinds.length n) rfl
          cases he : decide (y = K)
          · have he2 : (y == K) = false := by simpa using he
            go_wp2_with (first
              | (refine wpList_load_row rfl 28 _ rfl p rfl 28 (f.cells (some ⟨b, off, none⟩) n) (0, 0) _ XF.out Tryz.underlying28 rfl (by exact (qJF f (some ⟨b, off, none⟩) n)) ?_)
              | fail)
            go_roundw
            case rel =>
              have e : cellsF f K (k + 1) = cellsF f K k := by rw [cellsF_succ, hy.out, if_neg (by simpa using he), List.append_nil]
              refine ⟨k + 1, oa, oc, by simp, by rw [e], by omega, ?_, BF, XF⟩
              rw [e]
              exact OW
            case measure => simp [intOf]; omega
          · have he2 : (y == K) = true := by simpa using he
            have HLL : Hid ((cellsF f K k).length + 1 ≤ 2305) := Lib.hid (by have := HL.out; have := LL.out; omega)
            go_wp2_with (first
              | (refine wpList_load_row rfl 28 _ rfl p rfl 28 (f.cells (some ⟨b, off, none⟩) n) (0, 0) _ XF.out Tryz.underlying28 rfl (by exact (qJF f (some ⟨b, off, none⟩) n)) ?_)
              | fail)
            refine (cellOf_any f (some ⟨b, off, none⟩) n k wr (by have := IV.out; omega) (by have := LL.out; omega)).mono ?_
            rintro e V3 ⟨rfl, b2⟩
            replace OW := Lib.hid (own_below OW.out b2)
            clear hx
            have HK64 := Lib.hid hk64
            clear hk64
            clear c0 c1 c2 c3
            replace BF := Lib.hid (BF.out.trans (b2.mono BF.out.size))
            replace XF := Lib.hid (qblk b2 XF.out)
            clear b2
            have c0 := qcell XF.out 0 (.int .i64 f.eye) rfl
            have c1 := qcell XF.out 1 (.int .i64 f.rings) rfl
            have c2 := qcell XF.out 2 (.int .i64 f.sectors) rfl
            have c3 := qcell XF.out 3 (.slice (some ⟨b, off, none⟩) f.kinds.length n) rfl
            go_upto_region 11 with (first
              | (refine wpList_load_row rfl 28 _ rfl p rfl 28 (f.cells (some ⟨b, off, none⟩) n) (0, 0) _ XF.out Tryz.underlying28 rfl (by exact (qJF f (some ⟨b, off, none⟩) n)) ?_)
              | (at_builtin; refine appq_cells _ rfl _ _ rfl w.heap.size _ _ _ (cellsF f K k) rfl (own_below OW.out (zB V3 _)) _ _ _ [cellF f k] rfl (lit_cell V3 (cellF f k)) (by have := HLL.out; omega) (Nat.le_trans BF.out.size (zB V3 _).size) ?_; intro oa2 oc2 V4 h1 h2 h3; clear c0 c1 c2 c3; replace BF := Lib.hid (h3 _ (BF.out.trans ((zB V3 _).mono BF.out.size))); replace XF := Lib.hid (h2 _ _ (qblk (zB V3 _) XF.out) (by simp)); replace OW := Lib.hid h1; clear h1 h2 h3; have c0 := qcell XF.out 0 (.int .i64 f.eye) rfl; have c1 := qcell XF.out 1 (.int .i64 f.rings) rfl; have c2 := qcell XF.out 2 (.int .i64 f.sectors) rfl; have c3 := qcell XF.out 3 (.slice (some ⟨b, off, none⟩) f.kinds.length n) rfl)
              | fail)
            have hk64 := HK64.out
            go_wp2_with (first
              | (refine wpList_load_row rfl 28 _ rfl p rfl 28 (f.cells (some ⟨b, off, none⟩) n) (0, 0) _ XF.out Tryz.underlying28 rfl (by exact (qJF f (some ⟨b, off, none⟩) n)) ?_)
              | fail)
            go_roundw
            case rel =>
              have e : cellsF f K (k + 1) = cellsF f K k ++ [cellF f k] := by rw [cellsF_succ, hy.out, if_pos (by simpa using he)]
              refine ⟨k + 1, oa2, oc2, by simp, by rw [e, List.length_append]; rfl, by omega, ?_, BF, XF⟩
              rw [e, List.length_append]
              exact OW
            case measure => simp [intOf]; omega
        · have t0 : decide ((k : Int) < (f.kinds.length : Int)) = false := by simp; omega
          have e : k = f.kinds.length := by omega
          subst e
          have c0 := qcell XF.out 0 (.int .i64 f.eye) rfl
          have c1 := qcell XF.out 1 (.int .i64 f.rings) rfl
          have c2 := qcell XF.out 2 (.int .i64 f.sectors) rfl
          have c3 := qcell XF.out 3 (.slice a f.kinds.length n) rfl
          go_wp2_with (first
            | (refine wpList_load_row rfl 28 _ rfl p rfl 28 (f.cells a n) (0, 0) _ XF.out Tryz.underlying28 rfl (by exact (qJF f a n)) ?_)
            | fail)
          go_ret2
          unfold cellsP
          rw [if_neg (by rw [HV.out]; decide), if_neg (by rw [HB.out]; decide)]
          exact ⟨oa, oc, rfl, OW.out, BF.out⟩
set_option maxHeartbeats 4000000 in
set_option maxRecDepth 100000 in
theorem areaP_any (f : FaceV) (a : Option Addr) (n : Nat) (K : Int) (w : World) (hr : RdI w a f.kinds.length n f.kinds) :
    Calls Tryz.prog 63 #[.agg (f.cells a n), .int .i64 K] w fun e w' => e = .returned (.tuple #[.int .i64 (areaP f K).1, .int .i64 (areaP f K).2]) ∧ Below w.heap.size w w' := by
  have CA := Lib.hid (fun W (hb : Below w.heap.size w W) => cellsP_any f a n K W (hr.below hb))
  have LL : Hid ((cellsP f K).1.length ≤ 2304) := Lib.hid (by
    unfold cellsP
    by_cases hv : f.valid = true
    · rw [if_neg (by rw [hv]; decide)]
      split
      · simp
      · exact Nat.le_trans (cellsF_len _ _ _) (FaceV.len_le hv)
    · rw [if_pos (by simpa using hv)]
      simp)
  have WG : Hid (∀ c ∈ (cellsP f K).1, (1 ≤ f.eye ∧ f.eye ≤ 16) ∧ 0 ≤ c.1 ∧ c.1 ≤ 24) := Lib.hid (fun c hc => by
    unfold cellsP at hc
    by_cases hv : f.valid = true
    · rw [if_neg (by rw [hv]; decide)] at hc
      split at hc
      · cases hc
      · obtain ⟨i, hi, _, rfl⟩ := cellsF_mem.1 hc
        obtain ⟨k1, _⟩ := cellF_has hv (i := (i : Int)) ⟨by omega, by omega⟩
        have h1 := (hasF_iff.1 k1).1
        have h2 := FaceV.int hv
        exact ⟨(FaceV.valid_iff.1 hv).1, h1.1, by omega⟩
    · rw [if_pos (by simpa using hv)] at hc
      cases hc)
  clear hr
  have AL := Lib.hid (al1 w (.cells (f.cells a n) 28))
  go_enter Tryz.func63, Tryz.ntmps63
  go_upto_region 1 with fail
  obtain ⟨p, hp⟩ : ∃ p, Hid (w.heap.size = p) := ⟨_, Lib.hid rfl⟩
  rw [hp.out] at AL ⊢
  generalize (w.alloc (.cells (f.cells a n) 28)) = W0 at *
  have BF : Hid (Below w.heap.size w W0) := Lib.hid (by rw [hp.out]; exact AL.out.1)
  have XF : Hid (W0.heap[p]? = some (.cells (f.cells a n) 28 (0, 0))) := Lib.hid AL.out.2
  clear AL
  have c0 := qcell XF.out 0 (.int .i64 f.eye) rfl
  have c1 := qcell XF.out 1 (.int .i64 f.rings) rfl
  have c2 := qcell XF.out 2 (.int .i64 f.sectors) rfl
  have c3 := qcell XF.out 3 (.slice a f.kinds.length n) rfl
  go_wp2_with (first
    | (refine wpList_load_row rfl 28 _ rfl p rfl 28 (f.cells a n) (0, 0) _ XF.out Tryz.underlying28 rfl (by exact (qJF f a n)) ?_)
    | fail)
  refine (CA.out W0 BF.out).mono ?_
  rintro e V1 ⟨oa, oc, rfl, own, b⟩
  have R0 := Lib.hid (RdA.of_own own)
  clear own
  clear c0 c1 c2 c3
  replace BF := Lib.hid (BF.out.trans (b.mono BF.out.size))
  replace XF := Lib.hid (qblk b XF.out)
  clear b
  have c0 := qcell XF.out 0 (.int .i64 f.eye) rfl
  have c1 := qcell XF.out 1 (.int .i64 f.rings) rfl
  have c2 := qcell XF.out 2 (.int .i64 f.sectors) rfl
  have c3 := qcell XF.out 3 (.slice a f.kinds.length n) rfl
  have B1 := Lib.hid BF.out
  obtain ⟨l, hl⟩ : ∃ l, Hid ((cellsP f K).1 = l) := ⟨_, Lib.hid rfl⟩
  obtain ⟨er, her⟩ : ∃ er, Hid ((cellsP f K).2 = er) := ⟨_, Lib.hid rfl⟩
  rw [hl.out] at LL WG R0 ⊢
  rw [her.out]
  have RR := Lib.hid (fun W (hb : Below V1.heap.size V1 W) => R0.out.below hb)
  clear R0
  go_wp2_with (first
    | (refine wpList_load_row rfl 28 _ rfl p rfl 28 (f.cells a n) (0, 0) _ XF.out Tryz.underlying28 rfl (by exact (qJF f a n)) ?_)
    | fail)
  clear c0 c1 c2 c3
  go_loopw [8, 19] (fun s i wr => ∃ k : Nat, i = .int .i64 k ∧ s = .int .i64 (((l.take k).map fun c => weightF f c.1).sum) ∧ k ≤ l.length ∧ Hid (0 ≤ ((l.take k).map fun c => weightF f c.1).sum ∧ ((l.take k).map fun c => weightF f c.1).sum ≤ 100 * (k : Int)) ∧ Hid (Below V1.heap.size V1 wr) ∧ Hid (Below w.heap.size w wr) ∧ Hid (wr.heap[p]? = some (.cells (f.cells a n) 28 (0, 0)))) (fun _ i _ => l.length - (intOf i).toNat)
  case atStart => exact ⟨0, rfl, by simp, Nat.zero_le _, Lib.hid (by simp), Lib.hid (Below.refl _ _), BF, XF⟩
  case round =>
    clear BF XF
    obtain ⟨k, rfl, rfl, hk, SM, BV, BF, XF⟩ := hrel
    have c0 := qcell XF.out 0 (.int .i64 f.eye) rfl
    have c1 := qcell XF.out 1 (.int .i64 f.rings) rfl
    have c2 := qcell XF.out 2 (.int .i64 f.sectors) rfl
    have c3 := qcell XF.out 3 (.slice a f.kinds.length n) rfl
    by_cases hkn : k < l.length
    · have t0 : decide ((k : Int) < (l.length : Int)) = true := by simp; omega
      obtain ⟨c, hc⟩ : ∃ c, l[k]? = some c := ⟨l[k], List.getElem?_eq_getElem hkn⟩
      have WC := Lib.hid (WG.out c (List.mem_of_getElem? hc))
      have hk64 : (k : Int) + 1 ≤ 9223372036854775807 := by have := LL.out; omega
      have e1 : l.take (k + 1) = l.take k ++ [c] := by rw [List.take_add_one, hc]; rfl
      have E1 : Hid (((l.take (k + 1)).map fun c => weightF f c.1).sum = ((l.take k).map fun c => weightF f c.1).sum + weightF f c.1) := Lib.hid (by rw [e1, List.map_append, List.sum_append]; simp)
      have WF : Hid (0 ≤ weightF f c.1 ∧ weightF f c.1 ≤ 100) := Lib.hid (by have := WC.out; unfold weightF; omega)
      have KL : Hid (k ≤ 2304) := Lib.hid (by have := LL.out; omega)
      have W1 : Hid (wrap64 (((l.take k).map fun c => weightF f c.1).sum + weightF f c.1) = ((l.take (k + 1)).map fun c => weightF f c.1).sum) := Lib.hid (by have := SM.out; have := WF.out; have := KL.out; rw [E1.out]; unfold wrap64; omega)
      obtain ⟨b0, off, rfl, h4⟩ := RdA.at (RR.out _ BV.out) (by omega)
      have hx0 := h4 (k * 2) _ (cellsV_at l k c hc).1
      have hx1 := h4 (k * 2 + 1) _ (cellsV_at l k c hc).2
      rw [← Nat.add_assoc] at hx1
      obtain ⟨S, hS⟩ : ∃ S, Hid (((l.take k).map fun c => weightF f c.1).sum = S) := ⟨_, Lib.hid rfl⟩
      rw [hS.out] at W1 ⊢
      clear h4 e1 hc
      have HK64 := Lib.hid hk64
      clear hk64
      have HXX := Lib.hid (And.intro hx0 hx1)
      clear hx0 hx1
      have hx0 := HXX.out.1
      have hx1 := HXX.out.2
      go_upto_region 6 with (first
        | (refine wpList_load_row rfl 28 _ rfl p rfl 28 (f.cells a n) (0, 0) _ XF.out Tryz.underlying28 rfl (by exact (qJF f a n)) ?_)
        | fail)
      have AL := al1 wr (.cells #[.int .i64 c.1, .int .i64 c.2] 41)
      clear hx0 hx1 c0 c1 c2 c3
      have hq0 := qcell AL.2 0 (.int .i64 c.1) rfl
      replace BF := Lib.hid (BF.out.trans (AL.1.mono BF.out.size))
      replace BV := Lib.hid (BV.out.trans (AL.1.mono BV.out.size))
      replace XF := Lib.hid (qblk AL.1 XF.out)
      clear AL
      generalize wr.alloc (.cells #[.int .i64 c.1, .int .i64 c.2] 41) = V3 at *
      generalize wr.heap.size = q at *
      have c0 := qcell XF.out 0 (.int .i64 f.eye) rfl
      have c1 := qcell XF.out 1 (.int .i64 f.rings) rfl
      have c2 := qcell XF.out 2 (.int .i64 f.sectors) rfl
      have c3 := qcell XF.out 3 (.slice a f.kinds.length n) rfl
      go_wp2_with (first
        | (refine wpList_load_row rfl 28 _ rfl p rfl 28 (f.cells a n) (0, 0) _ XF.out Tryz.underlying28 rfl (by exact (qJF f a n)) ?_)
        | fail)
      refine (weight_any f a n c.1 V3 WC.out.1 WC.out.2).mono ?_
      rintro e V4 ⟨rfl, b⟩
      clear hq0
      replace BV := Lib.hid (BV.out.trans (b.mono BV.out.size))
      clear c0 c1 c2 c3
      replace BF := Lib.hid (BF.out.trans (b.mono BF.out.size))
      replace XF := Lib.hid (qblk b XF.out)
      clear b
      have c0 := qcell XF.out 0 (.int .i64 f.eye) rfl
      have c1 := qcell XF.out 1 (.int .i64 f.rings) rfl
      have c2 := qcell XF.out 2 (.int .i64 f.sectors) rfl
      have c3 := qcell XF.out 3 (.slice a f.kinds.length n) rfl
      have WE := W1.out
      have hk64 := HK64.out
      go_wp2_with (first
        | (refine wpList_load_row rfl 28 _ rfl p rfl 28 (f.cells a n) (0, 0) _ XF.out Tryz.underlying28 rfl (by exact (qJF f a n)) ?_)
        | fail)
      go_roundw
      case rel => exact ⟨k + 1, by simp, by rw [← W1.out], by omega, Lib.hid (by have := SM.out; have := WF.out; rw [E1.out]; omega), BV, BF, XF⟩
      case measure => simp [intOf]; omega
    · have t0 : decide ((k : Int) < (l.length : Int)) = false := by simp; omega
      have e : k = l.length := by omega
      subst e
      go_wp2_with (first
        | (refine wpList_load_row rfl 28 _ rfl p rfl 28 (f.cells a n) (0, 0) _ XF.out Tryz.underlying28 rfl (by exact (qJF f a n)) ?_)
        | fail)
      go_ret2
      unfold areaP
      rw [hl.out, her.out]
      exact ⟨by rw [List.take_length]; rfl, BF.out⟩
end Go.Proofs.YtimmadkbkimonaaGreatDoor
namespace Go.Proofs.YtimmadkbkimonaaGreatDoor
set_option linter.unusedSimpArgs false
set_option linter.unusedVariables false
open Go.RowKit

theorem body_step {f : FaceV} {k : Nat} {x : Int} (hx : f.kinds[k]? = some x) : bodyB f.S 0 (f.kinds.take (k + 1)) = bodyB f.S 0 (f.kinds.take k) ++ ((if k % f.S = 0 then [10] else []) ++ [signB x]) := by
  have hk := (List.getElem?_eq_some_iff.1 hx).1
  rw [List.take_add_one, hx, body_app, List.length_take, Nat.min_eq_left (by omega), Nat.zero_add]
  rfl
theorem body_len (S : Nat) : ∀ (l : List Int) (i : Nat), (bodyB S i l).length ≤ 2 * l.length
  | [], _ => Nat.le_refl _
  | k :: l, i => by
    have := body_len S l (i + 1)
    show ((if i % S = 0 then [10] else []) ++ signB k :: bodyB S (i + 1) l).length ≤ _
    rw [List.length_append, List.length_cons, List.length_cons]
    have : (if i % S = 0 then ([10] : List UInt8) else []).length ≤ 1 := by split <;> simp
    omega
theorem itoa_len (n : Nat) : (itoaB n).length ≤ 2 := by unfold itoaB; split <;> simp
theorem head_len (f : FaceV) : (headB f).length ≤ 20 := by
  have h1 := itoa_len f.eye.toNat
  have h2 := itoa_len f.rings.toNat
  have h3 := itoa_len f.sectors.toNat
  unfold headB
  rw [List.length_append, List.length_cons, List.length_append, List.length_cons, List.length_append, List.length_cons]
  have : faceB.length = 4 := rfl
  omega
def prB (f : FaceV) (k : Nat) : List UInt8 := headB f ++ bodyB f.S 0 (f.kinds.take k)
theorem prB_len {f : FaceV} (hv : f.valid = true) (k : Nat) : (prB f k).length ≤ 5000 := by
  have h1 := head_len f
  have h2 := body_len f.S (f.kinds.take k) 0
  have h3 := FaceV.len_le hv
  rw [List.length_take] at h2
  unfold prB
  rw [List.length_append]
  omega
theorem prB_nl {f : FaceV} {k : Nat} {x : Int} (hm : k % f.S = 0) (hx : f.kinds[k]? = some x) : prB f (k + 1) = prB f k ++ [10] ++ [signB x] := by
  unfold prB
  rw [body_step hx, if_pos hm, List.append_assoc, List.append_assoc]
theorem prB_in {f : FaceV} {k : Nat} {x : Int} (hm : ¬ k % f.S = 0) (hx : f.kinds[k]? = some x) : prB f (k + 1) = prB f k ++ [signB x] := by
  unfold prB
  rw [body_step hx, if_neg hm, List.nil_append, List.append_assoc]
set_option maxHeartbeats 4000000 in
set_option maxRecDepth 100000 in
theorem print_any (f : FaceV) (a : Option Addr) (n : Nat) (w : World) (hr : RdI w a f.kinds.length n f.kinds) :
    Calls Tryz.prog 18 #[.agg (f.cells a n)] w fun e w' => e = .returned (.tuple #[.string ⟨(printP f).1.toArray⟩, .int .i64 (printP f).2]) ∧ Below w.heap.size w w' := by
  have HR := Lib.hid hr
  clear hr
  have AL := Lib.hid (al1 w (.cells (f.cells a n) 28))
  go_enter Tryz.func18, Tryz.ntmps18
  go_upto_region 1 with fail
  obtain ⟨p, hp⟩ : ∃ p, Hid (w.heap.size = p) := ⟨_, Lib.hid rfl⟩
  rw [hp.out] at AL ⊢
  generalize (w.alloc (.cells (f.cells a n) 28)) = W0 at *
  have BF : Hid (Below w.heap.size w W0) := Lib.hid (by rw [hp.out]; exact AL.out.1)
  have XF : Hid (W0.heap[p]? = some (.cells (f.cells a n) 28 (0, 0))) := Lib.hid AL.out.2
  clear AL
  replace HR := Lib.hid (HR.out.below BF.out)
  go_wp2_with (first | (refine wpList_load_row rfl 28 _ rfl p rfl 28 (f.cells a n) (0, 0) _ XF.out Tryz.underlying28 rfl (by exact (qJF f a n)) ?_) | fail)
  refine (valid2_any f a n _ HR.out).mono ?_
  rintro e U1 ⟨rfl, b⟩
  replace BF := Lib.hid (BF.out.trans (b.mono BF.out.size))
  replace HR := Lib.hid (HR.out.below b)
  replace XF := Lib.hid (qblk b XF.out)
  clear b
  cases hv : f.valid
  · have PE : Hid (printP f = ([], 10)) := Lib.hid (by unfold printP; rw [if_neg (by rw [hv]; decide)])
    clear hv
    go_wp2_with fail
    go_ret2
    exact ⟨by rw [PE.out]; rfl, BF.out⟩
  · have PE : Hid (printP f = (printF f, 0)) := Lib.hid (by unfold printP; rw [if_pos hv])
    have HV := Lib.hid hv
    have NV := Lib.hid (FaceV.nat hv)
    have VI := Lib.hid (FaceV.valid_iff.1 hv)
    have LL := Lib.hid (FaceV.len_le hv)
    have HH : Hid (headF f = true) := Lib.hid (headF_iff.2 ⟨VI.out.1, VI.out.2.1, VI.out.2.2.1⟩)
    clear hv
    go_upto_region 4 with fail
    obtain ⟨g, hg⟩ : ∃ g, Hid (U1.heap.size = g) := ⟨_, Lib.hid rfl⟩
    have AL := Lib.hid (al1 U1 (.cells #[.pointer none, .slice none 0 0] 87))
    rw [hg.out] at AL ⊢
    obtain ⟨B, hB⟩ : ∃ B, Hid (g = B) := ⟨_, Lib.hid rfl⟩
    rw [hB.out] at AL
    generalize U1.alloc (.cells #[.pointer none, .slice none 0 0] 87) = U2 at *
    have XB : Hid (U2.heap[g]? = some (.cells #[.pointer none, .slice none 0 0] 87 (0, 0))) := Lib.hid (by rw [hB.out]; exact AL.out.2)
    have BG : Hid (B ≤ g ∧ U1.heap.size = B) := Lib.hid (by rw [← hB.out]; exact ⟨Nat.le_refl _, hg.out⟩)
    have BU : Hid (Below B U1 U2) := Lib.hid AL.out.1
    clear AL hB hg
    have HR0 : Hid (∀ W, Below B U1 W → RdI W a f.kinds.length n f.kinds) := Lib.hid (fun W hb => HR.out.below (by rw [BG.out.2]; exact hb))
    have XF0 : Hid (∀ W, Below B U1 W → W.heap[p]? = some (.cells (f.cells a n) 28 (0, 0))) := Lib.hid (fun W hb => qblk (by rw [BG.out.2]; exact hb) XF.out)
    have BF0 : Hid (∀ W, Below B U1 W → Below w.heap.size w W) := Lib.hid (fun W hb => BF.out.trans (hb.mono (by rw [← BG.out.2]; exact BF.out.size)))
    clear HR XF BF
    have HR := Lib.hid (HR0.out _ BU.out)
    have XF := Lib.hid (XF0.out _ BU.out)
    go_wp2_with (first | (refine wpList_load_row rfl 28 _ rfl p rfl 28 (f.cells a n) (0, 0) _ XF.out Tryz.underlying28 rfl (by exact (qJF f a n)) ?_) | fail)
    refine (header_any f a n _ HH.out).mono ?_
    rintro e U3 ⟨rfl, b⟩
    replace BU := Lib.hid (BU.out.trans (b.mono (by have := BU.out.size; have := BG.out; omega)))
    have BW : Hid (BldW B g [] U3) := Lib.hid (bld_zero BG.out.1 (qblk b XB.out))
    clear b XB HR XF
    go_wp2_with fail
    refine (bld_string B g [] (headS f) U3 BW.out (by have := head_len f; show 0 + (headB f).toArray.size ≤ _; rw [List.size_toArray]; omega)).mono ?_
    rintro e U4 ⟨rfl, bw, b⟩
    replace BU := Lib.hid (BU.out.trans b)
    replace BW : Hid (BldW B g (prB f 0) U4) := Lib.hid (by
      have e : prB f 0 = [] ++ (headS f).data.toList := by unfold prB headS; rw [List.take_zero]; simp [bodyB]
      rw [e]; exact bw)
    clear bw b
    have XF := Lib.hid (XF0.out _ BU.out)
    have c3 := qcell XF.out 3 (.slice a f.kinds.length n) rfl
    go_wp2_with fail
    clear c3 XF
    go_loopw [16] (fun v wr => ∃ k : Nat, v = .int .i64 (k : Int) ∧ k ≤ f.kinds.length ∧ Hid (Below B U1 wr) ∧ Hid (BldW B g (prB f k) wr)) (fun v _ => f.kinds.length - (intOf v).toNat)
    case atStart => exact ⟨0, rfl, Nat.zero_le _, BU, BW⟩
    case round =>
      clear BU BW
      obtain ⟨k, rfl, hk, BU, BW⟩ := hrel
      by_cases hkn : k < f.kinds.length
      · have t0 : decide ((k : Int) < (f.kinds.length : Int)) = true := by simp; omega
        obtain ⟨x, hx⟩ : ∃ x, f.kinds[k]? = some x := ⟨f.kinds[k]'hkn, List.getElem?_eq_getElem hkn⟩
        have HX := Lib.hid hx
        have HKN := Lib.hid hkn
        have KX : Hid (0 ≤ x ∧ x ≤ 2) := Lib.hid (VI.out.2.2.2.2 x (List.mem_of_getElem? hx))
        have HR := Lib.hid (HR0.out _ BU.out)
        have XF := Lib.hid (XF0.out _ BU.out)
        obtain ⟨bb, off, rfl, hk1⟩ := HR.out.get hx
        have c2 := qcell XF.out 2 (.int .i64 f.sectors) rfl
        clear hx
        have ts : ¬ f.sectors = 0 := by have := NV.out; omega
        by_cases hm : k % f.S = 0
        · have tm : ((k : Int) % f.sectors == 0) = true := by rw [NV.out.2.1, beq_iff_eq]; omega
          go_wp2_with fail
          refine (bld_byte B g (prB f k) 10 _ BW.out (by have := prB_len HV.out k; omega)).mono ?_
          rintro e V1 ⟨rfl, bw, b⟩
          replace BU := Lib.hid (BU.out.trans b)
          replace BW := Lib.hid bw
          clear bw b
          obtain h0 | h0 | h0 : x = 0 ∨ x = 1 ∨ x = 2 := by have := KX.out; omega
          all_goals subst h0
          · have HZ := Lib.hid (show prB f (k + 1) = prB f k ++ [10] ++ [46] from by rw [prB_nl hm HX.out]; rfl)
            (clear hk1 c2 HX KX)
            (try clear ts tm)
            go_wp2_with fail
            refine (bld_byte B g (prB f k ++ [10]) 46 _ BW.out (by have := prB_len HV.out k; simp; omega)).mono ?_
            rintro e V2 ⟨rfl, bw, b⟩
            replace BU := Lib.hid (BU.out.trans b)
            replace BW := Lib.hid bw
            rw [← HZ.out] at BW
            clear bw b
            (try clear HR XF)
            (try clear hk1 c2)
            have hk64 : (k : Int) + 1 ≤ 9223372036854775807 := by have := LL.out; omega
            go_wp2_with fail
            go_roundw
            case rel => exact ⟨k + 1, by simp, by omega, BU, BW⟩
            case measure => simp [intOf]; omega
          · have HZ := Lib.hid (show prB f (k + 1) = prB f k ++ [10] ++ [115] from by rw [prB_nl hm HX.out]; rfl)
            (clear hk1 c2 HX KX)
            (try clear ts tm)
            go_wp2_with fail
            refine (bld_byte B g (prB f k ++ [10]) 115 _ BW.out (by have := prB_len HV.out k; simp; omega)).mono ?_
            rintro e V2 ⟨rfl, bw, b⟩
            replace BU := Lib.hid (BU.out.trans b)
            replace BW := Lib.hid bw
            rw [← HZ.out] at BW
            clear bw b
            (try clear HR XF)
            (try clear hk1 c2)
            have hk64 : (k : Int) + 1 ≤ 9223372036854775807 := by have := LL.out; omega
            go_wp2_with fail
            go_roundw
            case rel => exact ⟨k + 1, by simp, by omega, BU, BW⟩
            case measure => simp [intOf]; omega
          · have HZ := Lib.hid (show prB f (k + 1) = prB f k ++ [10] ++ [102] from by rw [prB_nl hm HX.out]; rfl)
            (clear hk1 c2 HX KX)
            (try clear ts tm)
            go_wp2_with fail
            refine (bld_byte B g (prB f k ++ [10]) 102 _ BW.out (by have := prB_len HV.out k; simp; omega)).mono ?_
            rintro e V2 ⟨rfl, bw, b⟩
            replace BU := Lib.hid (BU.out.trans b)
            replace BW := Lib.hid bw
            rw [← HZ.out] at BW
            clear bw b
            (try clear HR XF)
            (try clear hk1 c2)
            have hk64 : (k : Int) + 1 ≤ 9223372036854775807 := by have := LL.out; omega
            go_wp2_with fail
            go_roundw
            case rel => exact ⟨k + 1, by simp, by omega, BU, BW⟩
            case measure => simp [intOf]; omega
        · have tm : ((k : Int) % f.sectors == 0) = false := by rw [NV.out.2.1, beq_eq_false_iff_ne]; omega
          obtain h0 | h0 | h0 : x = 0 ∨ x = 1 ∨ x = 2 := by have := KX.out; omega
          all_goals subst h0
          · have HZ := Lib.hid (show prB f (k + 1) = prB f k ++ [46] from by rw [prB_in hm HX.out]; rfl)
            clear HX KX
            go_wp2_with fail
            refine (bld_byte B g (prB f k) 46 _ BW.out (by have := prB_len HV.out k; simp; omega)).mono ?_
            rintro e V2 ⟨rfl, bw, b⟩
            replace BU := Lib.hid (BU.out.trans b)
            replace BW := Lib.hid bw
            rw [← HZ.out] at BW
            clear bw b
            (try clear HR XF)
            (try clear hk1 c2)
            have hk64 : (k : Int) + 1 ≤ 9223372036854775807 := by have := LL.out; omega
            go_wp2_with fail
            go_roundw
            case rel => exact ⟨k + 1, by simp, by omega, BU, BW⟩
            case measure => simp [intOf]; omega
          · have HZ := Lib.hid (show prB f (k + 1) = prB f k ++ [115] from by rw [prB_in hm HX.out]; rfl)
            clear HX KX
            go_wp2_with fail
            refine (bld_byte B g (prB f k) 115 _ BW.out (by have := prB_len HV.out k; simp; omega)).mono ?_
            rintro e V2 ⟨rfl, bw, b⟩
            replace BU := Lib.hid (BU.out.trans b)
            replace BW := Lib.hid bw
            rw [← HZ.out] at BW
            clear bw b
            (try clear HR XF)
            (try clear hk1 c2)
            have hk64 : (k : Int) + 1 ≤ 9223372036854775807 := by have := LL.out; omega
            go_wp2_with fail
            go_roundw
            case rel => exact ⟨k + 1, by simp, by omega, BU, BW⟩
            case measure => simp [intOf]; omega
          · have HZ := Lib.hid (show prB f (k + 1) = prB f k ++ [102] from by rw [prB_in hm HX.out]; rfl)
            clear HX KX
            go_wp2_with fail
            refine (bld_byte B g (prB f k) 102 _ BW.out (by have := prB_len HV.out k; simp; omega)).mono ?_
            rintro e V2 ⟨rfl, bw, b⟩
            replace BU := Lib.hid (BU.out.trans b)
            replace BW := Lib.hid bw
            rw [← HZ.out] at BW
            clear bw b
            (try clear HR XF)
            (try clear hk1 c2)
            have hk64 : (k : Int) + 1 ≤ 9223372036854775807 := by have := LL.out; omega
            go_wp2_with fail
            go_roundw
            case rel => exact ⟨k + 1, by simp, by omega, BU, BW⟩
            case measure => simp [intOf]; omega
      · have t0 : decide ((k : Int) < (f.kinds.length : Int)) = false := by simp; omega
        have e : k = f.kinds.length := by omega
        rw [e] at BW t0
        have hn := e
        go_wp2_with fail
        refine (bld_byte B g (prB f f.kinds.length) 10 _ BW.out (by have := prB_len HV.out f.kinds.length; omega)).mono ?_
        rintro e V1 ⟨rfl, bw, b⟩
        replace BU := Lib.hid (BU.out.trans b)
        replace BW := Lib.hid bw
        clear bw b
        go_wp2_with fail
        refine (bld_text B g _ _ BW.out).mono ?_
        rintro e V2 ⟨rfl, b⟩
        replace BU := Lib.hid (BU.out.trans b)
        clear b
        go_wp2_with fail
        go_ret2
        refine ⟨?_, BF0.out _ BU.out⟩
        rw [PE.out]
        have e2 : prB f f.kinds.length ++ [10] = printF f := by unfold prB printF; rw [List.take_length, List.append_assoc]
        rw [← e2]
        rfl
end Go.Proofs.YtimmadkbkimonaaGreatDoor
namespace Go.Proofs.YtimmadkbkimonaaGreatDoor
set_option linter.unusedSimpArgs false
set_option linter.unusedVariables false
open Go.Shelf

def sh_lays160_ren : Go.Shelf.Ren := ⟨fun | 160 => 80 | 232 => 117 | 231 => 116 | 227 => 118 | 234 => 120 | 233 => 119 | 236 => 122 | 235 => 121 | 228 => 141 | 271 => 144 | 151 => 143 | 197 => 142 | 120 => 158 | 152 => 157 | 260 => 156 | 137 => 82 | 119 => 183 | 224 => 154 | 225 => 153 | 217 => 125 | 266 => 148 | n => n, fun | 9 => 9 | 4 => 4 | 3 => 3 | 5 => 5 | 117 => 137 | 116 => 136 | 0 => 0 | 124 => 140 | 21 => 21 | 105 => 155 | 46 => 162 | 119 => 190 | 139 => 193 | 138 => 192 | n => n, fun | 3 => 1 | 4 => 2 | n => n⟩
theorem sh_lays160 : Go.Proofs.Lays.n160 Tryz.prog sh_lays160_ren := {
  mixed := by kernel_rfl
  f119 := Tryz.func183.trans (congrArg some (by kernel_rfl))
  f120 := Tryz.func158.trans (congrArg some (by kernel_rfl))
  f137 := Tryz.func82.trans (congrArg some (by kernel_rfl))
  f151 := Tryz.func143.trans (congrArg some (by kernel_rfl))
  f152 := Tryz.func157.trans (congrArg some (by kernel_rfl))
  f160 := Tryz.func80.trans (congrArg some (by kernel_rfl))
  f197 := Tryz.func142.trans (congrArg some (by kernel_rfl))
  f217 := Tryz.func125.trans (congrArg some (by kernel_rfl))
  f224 := Tryz.func154.trans (congrArg some (by kernel_rfl))
  f225 := Tryz.func153.trans (congrArg some (by kernel_rfl))
  f227 := Tryz.func118.trans (congrArg some (by kernel_rfl))
  f228 := Tryz.func141.trans (congrArg some (by kernel_rfl))
  f231 := Tryz.func116.trans (congrArg some (by kernel_rfl))
  f232 := Tryz.func117.trans (congrArg some (by kernel_rfl))
  f233 := Tryz.func119.trans (congrArg some (by kernel_rfl))
  f234 := Tryz.func120.trans (congrArg some (by kernel_rfl))
  f235 := Tryz.func121.trans (congrArg some (by kernel_rfl))
  f236 := Tryz.func122.trans (congrArg some (by kernel_rfl))
  f260 := Tryz.func156.trans (congrArg some (by kernel_rfl))
  f266 := Tryz.func148.trans (congrArg some (by kernel_rfl))
  f271 := Tryz.func144.trans (congrArg some (by kernel_rfl))
  t0 := Tryz.underlying0
  a0 := Tryz.isAgg0
  z0 := Tryz.sizeOf0
  v0 := Tryz.zeroValue0
  t3 := Tryz.underlying3
  a3 := Tryz.isAgg3
  z3 := Tryz.sizeOf3
  v3 := Tryz.zeroValue3
  t4 := Tryz.underlying4
  a4 := Tryz.isAgg4
  z4 := Tryz.sizeOf4
  v4 := Tryz.zeroValue4
  t5 := Tryz.underlying5
  a5 := Tryz.isAgg5
  z5 := Tryz.sizeOf5
  v5 := Tryz.zeroValue5
  t9 := Tryz.underlying9
  a9 := Tryz.isAgg9
  z9 := Tryz.sizeOf9
  v9 := Tryz.zeroValue9
  t21 := Tryz.underlying21
  a21 := Tryz.isAgg21
  z21 := Tryz.sizeOf21
  v21 := Tryz.zeroValue21
  t46 := Tryz.underlying162
  a46 := Tryz.isAgg162
  z46 := Tryz.sizeOf162
  v46 := Tryz.zeroValue162
  t105 := Tryz.underlying155
  a105 := Tryz.isAgg155
  z105 := Tryz.sizeOf155
  v105 := Tryz.zeroValue155
  t116 := Tryz.underlying136
  a116 := Tryz.isAgg136
  z116 := Tryz.sizeOf136
  t117 := Tryz.underlying137
  a117 := Tryz.isAgg137
  z117 := Tryz.sizeOf137
  v117 := Tryz.zeroValue137
  t119 := Tryz.underlying190
  a119 := Tryz.isAgg190
  z119 := Tryz.sizeOf190
  t124 := Tryz.underlying140
  a124 := Tryz.isAgg140
  z124 := Tryz.sizeOf140
  v124 := Tryz.zeroValue140
  t138 := Tryz.underlying192
  a138 := Tryz.isAgg192
  z138 := Tryz.sizeOf192
  v138 := Tryz.zeroValue192
  t139 := Tryz.underlying193
  a139 := Tryz.isAgg193
  z139 := Tryz.sizeOf193
  v139 := Tryz.zeroValue193
  g3 := by kernel_rfl
  g4 := by kernel_rfl }
theorem sh_trim (s : ByteArray) (w : World) (hs : s.size ≤ 9223372036854775807) :
    Calls Tryz.prog 80 #[.string s, .string ⟨#[46, 115, 102]⟩] w fun e w' => e = .returned (.string ⟨(Lib.trimS s.data.toList [46, 115, 102]).toArray⟩) ∧ RowKit.Below w.heap.size w w' :=
  Any.strings_Trim_laid sh_lays160 (by kernel_rfl) s ⟨#[46, 115, 102]⟩ w hs (by decide) (ascii_of_all (by decide))
end Go.Proofs.YtimmadkbkimonaaGreatDoor
namespace Go.Proofs.YtimmadkbkimonaaGreatDoor
section
variable {P : Program} {ops : Array Oper} {Q : Exit → Act → World → Prop} {rest : List Oper} {o : Oper} {a a' : Act} {w : World}
theorem yW (v : Value) (h : wpList P ops Q rest a' w) (hy : YieldsIf P ops (fun W => W = w) o v a := by exact Or.inl ⟨by kernel_rfl, by intro W hW; rw [hW]; go_simp⟩)
    (ha : a.put o.dst v = a' := by first | (simp only [Act.put, List.getElem_toArray, List.getElem_cons_succ, List.getElem_cons_zero, List.setIfInBounds_toArray, List.set_cons_zero, List.set_cons_succ]; rfl) | rfl) : wpList P ops Q (o :: rest) a w := by
  subst ha
  unfold wpList
  rcases hy with ⟨hw, hv⟩ | ⟨hw, rfl⟩
  · rw [if_pos hw]
    left
    unfold Oper.wp
    rw [hv w rfl]
    exact h
  · rw [if_neg (by rw [hw]; exact Bool.false_ne_true)]
    exact h
theorem yM (v : Value) (h : wpList P ops Q rest a' w) (hw : Region.wanted o (yielded ops a.tmps) = true := by kernel_rfl) (hv : ∀ W, (execOp a.eval o).run P W = .ok (.value v) W := by intro W; kernel_rfl)
    (ha : a.put o.dst v = a' := by first | (simp only [Act.put, List.getElem_toArray, List.getElem_cons_succ, List.getElem_cons_zero, List.setIfInBounds_toArray, List.set_cons_zero, List.set_cons_succ]; rfl) | rfl) : wpList P ops Q (o :: rest) a w :=
  yW v h (.inl ⟨hw, fun W _ => hv W⟩) ha
theorem yR (h : ∀ K : Act → World → Prop, RowKit.Hid (∀ a w, wpList P ops Q rest a w → K a w) → o.wp P a w K Q) (hw : Region.wanted o (yielded ops a.tmps) = true := by kernel_rfl) : wpList P ops Q (o :: rest) a w := by
  unfold wpList
  rw [if_pos hw]
  exact .inl (h _ (Lib.hid fun _ _ h => h))
theorem yK {K : Act → World → Prop} (hK : RowKit.Hid (∀ a w, wpList P ops Q rest a w → K a w)) (h : wpList P ops Q rest a' w)
    (ha : a = a' := by first | (simp only [Act.put, List.getElem_toArray, List.getElem_cons_succ, List.getElem_cons_zero, List.setIfInBounds_toArray, List.set_cons_zero, List.set_cons_succ]; rfl) | rfl) : K a w := by
  subst ha
  exact hK.out _ _ h
theorem yE (h : Q .normal a w) : wpList P ops Q [] a w := wpList_nil h
theorem yB {id : Nat} {l : List Oper} (h : wpList P l.toArray Q l a w) : (Code.region id l.toArray false).wp P Q a w := wp_region_lit h
end
end Go.Proofs.YtimmadkbkimonaaGreatDoor
namespace Go.Proofs.YtimmadkbkimonaaGreatDoor
set_option linter.unusedSimpArgs false
set_option linter.unusedVariables false
open Go.RowKit

def EnvW (W : World) : Prop := (∃ m, W.cell? ⟨0, 0, none⟩ = some (.int .i64 m)) ∧ (∃ ev, W.cell? ⟨3, 0, none⟩ = some ev ∧ (ev = .nilIface ∨ ∃ te pe, ev = .iface te pe)) ∧ ∃ ev, W.cell? ⟨4, 0, none⟩ = some ev ∧ (ev = .nilIface ∨ ∃ te pe, ev = .iface te pe)
theorem EnvW.below {W W' : World} (h : EnvW W) (hb : Below W.heap.size W W') : EnvW W' := by
  obtain ⟨⟨m, h1⟩, ⟨e1, h2, h3⟩, ⟨e2, h4, h5⟩⟩ := h
  exact ⟨⟨m, (hb.cell (p := ⟨0, 0, none⟩) (World.block_lt_of_cell? W _ h1)).trans h1⟩, ⟨e1, (hb.cell (p := ⟨3, 0, none⟩) (World.block_lt_of_cell? W _ h2)).trans h2, h3⟩, ⟨e2, (hb.cell (p := ⟨4, 0, none⟩) (World.block_lt_of_cell? W _ h4)).trans h4, h5⟩⟩
def atoiV (l : List UInt8) : Int := match Lib.atoiAll l with
  | Lib.NumEnd.ok v => v
  | Lib.NumEnd.syntax => 0
  | Lib.NumEnd.range => Lib.atoiSat l
theorem atoi_any (s : ByteArray) (w : World) (hs : s.size ≤ 1000000) (he : EnvW w) : Calls Tryz.prog 124 #[.string s] w fun e w' => (∃ ev, e = .returned (.tuple #[.int .i64 (atoiV s.data.toList), ev])) ∧ Below w.heap.size w w' := by
  obtain ⟨_, ⟨e1, h2, h3⟩, ⟨e2, h4, h5⟩⟩ := he
  unfold atoiV
  match h : Lib.atoiAll s.data.toList with
  | Lib.NumEnd.ok v =>
    refine (sh_strconv_Atoi_ok s (by omega) v h w).mono ?_
    rintro e W ⟨rfl, hw⟩
    refine ⟨⟨_, rfl⟩, ?_⟩
    rcases hw with rfl | ⟨t, rfl⟩
    · exact Below.refl _ _
    · exact Lib.bytesWorld_below _ _ _
  | Lib.NumEnd.syntax =>
    refine (sh_strconv_Atoi_syntax s (by omega) h e1 w h2 h3).mono ?_
    rintro e W ⟨N, rfl, _, _, hb⟩
    exact ⟨⟨_, rfl⟩, hb⟩
  | Lib.NumEnd.range =>
    refine (sh_strconv_Atoi_range s (by omega) h e2 w h4 h5).mono ?_
    rintro e W ⟨N, rfl, _, _, hb⟩
    exact ⟨⟨_, rfl⟩, hb⟩
def wordsS (s : ByteArray) : List ByteArray := Lib.splitB ⟨#[32]⟩ 0 (Lib.countB s ⟨#[32]⟩) s
theorem wordsS_len (s : ByteArray) : (wordsS s).length = Lib.countB s ⟨#[32]⟩ + 1 := Lib.splitB_all ⟨#[32]⟩ (by decide) 0 _ s rfl
theorem splitB_size (sep : ByteArray) : ∀ (k : Nat) (s x : ByteArray), x ∈ Lib.splitB sep 0 k s → x.size ≤ s.size
  | 0, s, x, h => by
    have := List.mem_singleton.1 h
    subst this; exact Nat.le_refl _
  | k + 1, s, x, h => by
    unfold Lib.splitB at h
    split at h
    · have := List.mem_singleton.1 h
      subst this; exact Nat.le_refl _
    · rcases List.mem_cons.1 h with h | h
      · subst h
        rw [ByteArray.size_extract]; omega
      · have := splitB_size sep k _ x h
        rw [ByteArray.size_extract] at this; omega
theorem wordsS_size (s x : ByteArray) (h : x ∈ wordsS s) : x.size ≤ s.size := splitB_size _ _ s x h
def hdrF (s : ByteArray) : FaceV × Bool := match wordsS s with
  | [_, a, b, c] => (⟨atoiV a.data.toList, atoiV b.data.toList, atoiV c.data.toList, []⟩, headF ⟨atoiV a.data.toList, atoiV b.data.toList, atoiV c.data.toList, []⟩ && headS ⟨atoiV a.data.toList, atoiV b.data.toList, atoiV c.data.toList, []⟩ == s)
  | _ => (zeroF, false)
def hdrC (a b c : Int) (k : Nat) : Array Value := #[.int .i64 (if 0 < k then a else 0), .int .i64 (if 1 < k then b else 0), .int .i64 (if 2 < k then c else 0), .slice none 0 0]
theorem hdrF_four {s w0 a b c : ByteArray} (h : wordsS s = [w0, a, b, c]) : hdrF s = (⟨atoiV a.data.toList, atoiV b.data.toList, atoiV c.data.toList, []⟩, headF ⟨atoiV a.data.toList, atoiV b.data.toList, atoiV c.data.toList, []⟩ && headS ⟨atoiV a.data.toList, atoiV b.data.toList, atoiV c.data.toList, []⟩ == s) := by
  unfold hdrF
  rw [h]
theorem hdrF_not {s : ByteArray} (h : (wordsS s).length ≠ 4) : hdrF s = (zeroF, false) := by
  unfold hdrF
  split
  · rename_i h1; rw [h1] at h; exact absurd rfl h
  · rfl
set_option maxHeartbeats 4000000 in
set_option maxRecDepth 100000 in
theorem parseHeader_any (s : ByteArray) (w : World) (hs : s.size ≤ 100000) (he : EnvW w) : Calls Tryz.prog 81 #[.string s] w fun e w' => e = .returned (.tuple #[.agg ((hdrF s).1.cells none 0), .bool (hdrF s).2]) ∧ Below w.heap.size w w' := by
  have EV := Lib.hid (fun W (hb : Below w.heap.size w W) => he.below hb)
  have HS := Lib.hid hs
  clear he hs
  have AL := Lib.hid (al2 w (.cells #[.int .i64 0, .int .i64 0, .int .i64 0, .slice none 0 0] 28) (.cells #[.int .i64 0, .int .i64 0, .int .i64 0, .slice none 0 0] 28))
  go_enter Tryz.func81, Tryz.ntmps81
  go_upto_region 2 with fail
  obtain ⟨z, hz⟩ : ∃ z, Hid (w.heap.size = z) := ⟨_, Lib.hid rfl⟩
  obtain ⟨p, hp⟩ : ∃ p, Hid (w.heap.size + 1 = p) := ⟨_, Lib.hid rfl⟩
  rw [hp.out] at AL ⊢
  rw [hz.out] at AL ⊢
  generalize ((w.alloc (.cells #[.int .i64 0, .int .i64 0, .int .i64 0, .slice none 0 0] 28)).alloc (.cells #[.int .i64 0, .int .i64 0, .int .i64 0, .slice none 0 0] 28)) = W0 at *
  have BF : Hid (Below w.heap.size w W0) := Lib.hid (by rw [hz.out]; exact AL.out.1)
  have XZ : Hid (W0.heap[z]? = some (.cells (zeroF.cells none 0) 28 (0, 0))) := Lib.hid AL.out.2.1
  have XP : Hid (W0.heap[p]? = some (.cells (zeroF.cells none 0) 28 (0, 0))) := Lib.hid AL.out.2.2
  clear AL
  go_wp2_with fail
  obtain ⟨m, hm⟩ := (EV.out W0 BF.out).1
  refine (sh_strings_Split s ⟨#[32]⟩ m W0 (by have := HS.out; omega) hm (by decide)).mono ?_
  rintro e V1 ⟨rfl, hV1⟩
  have eW : Lib.splitB ⟨#[32]⟩ 0 (Lib.countB s ⟨#[32]⟩) s = wordsS s := rfl
  rw [eW] at hV1
  clear eW hm
  have AL := al1 W0 (.cells ((wordsS s).map Value.string).toArray 9)
  rw [← hV1] at AL
  obtain ⟨g, hg⟩ : ∃ x, Hid (W0.heap.size = x) := ⟨_, Lib.hid rfl⟩
  have NG : Hid (z ≠ p ∧ g ≠ p ∧ w.heap.size ≤ p ∧ w.heap.size ≤ z) := Lib.hid (by have h1 := hz.out; have h2 := hp.out; have h3 := qlt XP.out; have h4 := hg.out; omega)
  replace BF := Lib.hid (BF.out.trans (AL.1.mono BF.out.size))
  replace XZ := Lib.hid (qblk AL.1 XZ.out)
  replace XP := Lib.hid (qblk AL.1 XP.out)
  have XG := Lib.hid AL.2
  rw [hg.out] at XG ⊢
  clear AL hV1
  obtain ⟨L, hL⟩ : ∃ L, Hid ((Lib.countB s ⟨#[32]⟩ + 1) = L) := ⟨_, Lib.hid rfl⟩
  have WL := Lib.hid (wordsS_len s)
  rw [hL.out] at WL ⊢
  by_cases h4 : L = 4
  · subst h4
    obtain ⟨w0, a1, a2, a3, hw⟩ : ∃ w0 a1 a2 a3, wordsS s = [w0, a1, a2, a3] := by
      have h := WL.out
      match wordsS s, h with
      | [w0, a1, a2, a3], _ => exact ⟨w0, a1, a2, a3, rfl⟩
    have HD := Lib.hid (hdrF_four hw)
    have S1 := Lib.hid (wordsS_size s a1 (by rw [hw]; simp))
    have S2 := Lib.hid (wordsS_size s a2 (by rw [hw]; simp))
    have S3 := Lib.hid (wordsS_size s a3 (by rw [hw]; simp))
    rw [hw] at XG
    have XW : Hid (V1.heap[g]? = some (.cells #[.string w0, .string a1, .string a2, .string a3] 9 (0, 0))) := Lib.hid XG.out
    clear XG hw WL hL
    obtain ⟨v1, hv1⟩ : ∃ v, Hid (atoiV a1.data.toList = v) := ⟨_, Lib.hid rfl⟩
    obtain ⟨v2, hv2⟩ : ∃ v, Hid (atoiV a2.data.toList = v) := ⟨_, Lib.hid rfl⟩
    obtain ⟨v3, hv3⟩ : ∃ v, Hid (atoiV a3.data.toList = v) := ⟨_, Lib.hid rfl⟩
    rw [hv1.out, hv2.out, hv3.out] at HD
    go_upto_region 5 with fail
    refine yB ?_
    refine yW (.pointer (some ⟨p, 0, none⟩)) ?_
    refine yW (.pointer (some ⟨p, 1, none⟩)) ?_
    refine yW (.pointer (some ⟨p, 2, none⟩)) ?_
    refine yR (fun K hK => ?_)
    refine qbuild (w' := V1.alloc (.cells #[.pointer (some ⟨p, 0, none⟩), .pointer (some ⟨p, 1, none⟩), .pointer (some ⟨p, 2, none⟩)] 142)) (.slice (some ⟨V1.heap.size, 0, none⟩) 3 3) (by kernel_rfl) ?_
    have AL := al1 V1 (.cells #[.pointer (some ⟨p, 0, none⟩), .pointer (some ⟨p, 1, none⟩), .pointer (some ⟨p, 2, none⟩)] 142)
    have hd := AL.1
    obtain ⟨R, hR⟩ : ∃ x, Hid (V1.heap.size = x) := ⟨_, Lib.hid rfl⟩
    have NR : Hid (R ≠ p) := Lib.hid (by have h1 := qlt XP.out; have h2 := hR.out; omega)
    replace BF := Lib.hid (BF.out.trans (hd.mono BF.out.size))
    replace XZ := Lib.hid (qblk hd XZ.out)
    replace XP := Lib.hid (qblk hd XP.out)
    replace XW := Lib.hid (qblk hd XW.out)
    have XR := Lib.hid AL.2
    rw [hR.out] at XR ⊢
    clear AL hd
    generalize V1.alloc (.cells #[.pointer (some ⟨p, 0, none⟩), .pointer (some ⟨p, 1, none⟩), .pointer (some ⟨p, 2, none⟩)] 142) = V2 at *
    refine yK hK ?_
    clear hK K
    refine yW (.int .i64 3) ?_
    refine yM (.int .i64 0) ?_
    refine yE ?_
    go_wp2_with fail
    go_loopw [20] (fun v wr => ∃ k : Nat, v = .int .i64 (k : Int) ∧ k ≤ 3 ∧ Hid (Below w.heap.size w wr) ∧ Hid (wr.heap[z]? = some (.cells (zeroF.cells none 0) 28 (0, 0))) ∧ Hid (wr.heap[p]? = some (.cells (hdrC v1 v2 v3 k) 28 (0, 0))) ∧ Hid (wr.heap[g]? = some (.cells #[.string w0, .string a1, .string a2, .string a3] 9 (0, 0))) ∧ Hid (wr.heap[R]? = some (.cells #[.pointer (some ⟨p, 0, none⟩), .pointer (some ⟨p, 1, none⟩), .pointer (some ⟨p, 2, none⟩)] 142 (0, 0)))) (fun v _ => 3 - (intOf v).toNat)
    case atStart => exact ⟨0, rfl, by omega, BF, XZ, XP, XW, XR⟩
    case round =>
      clear BF XZ XP XW XR
      obtain ⟨k, rfl, hk, BF, XZ, XP, XW, XR⟩ := hrel
      rcases (show k = 0 ∨ k = 1 ∨ k = 2 ∨ k = 3 by omega) with rfl | rfl | rfl | rfl
      · have cr := qcell XR.out 0 (.pointer (some ⟨p, 0, none⟩)) rfl
        have cw := qcell XW.out 1 (.string a1) rfl
        go_upto_region 8 with fail
        go_wp2_with fail
        refine (atoi_any a1 _ (by have := S1.out; have := HS.out; omega) (EV.out _ BF.out)).mono ?_
        rintro e X1 ⟨⟨ev, rfl⟩, b⟩
        clear cr cw
        replace BF := Lib.hid (BF.out.trans (b.mono BF.out.size))
        replace XZ := Lib.hid (qblk b XZ.out)
        replace XP := Lib.hid (qblk b XP.out)
        replace XW := Lib.hid (qblk b XW.out)
        replace XR := Lib.hid (qblk b XR.out)
        clear b
        rw [hv1.out]
        have cp := qcell XP.out 0 (.int .i64 0) rfl
        have fz := qfroz XP.out 0
        go_upto_region 9 with fail
        clear cp fz
        have HG := qput_grown X1 p 0 (.int .i64 v1)
        replace BF := Lib.hid (qstep BF.out HG NG.out.2.2.1)
        have XP2 : Hid ((X1.setCell ⟨p, 0, none⟩ (.int .i64 v1)).heap[p]? = some (.cells (hdrC v1 v2 v3 1) 28 (0, 0))) := Lib.hid (by rw [qput_at XP.out 0 _]; rfl)
        replace XZ := Lib.hid (qgrown HG XZ.out (fun e => NG.out.1 (Option.some.inj e)))
        replace XW := Lib.hid (qgrown HG XW.out (fun e => NG.out.2.1 (Option.some.inj e)))
        replace XR := Lib.hid (qgrown HG XR.out (fun e => NR.out (Option.some.inj e)))
        clear HG XP
        generalize X1.setCell ⟨p, 0, none⟩ (.int .i64 v1) = X2 at *
        go_wp2_with fail
        go_roundw
        case rel => exact ⟨1, rfl, by omega, BF, XZ, XP2, XW, XR⟩
        case measure => simp [intOf]
      · have cr := qcell XR.out 1 (.pointer (some ⟨p, 1, none⟩)) rfl
        have cw := qcell XW.out 2 (.string a2) rfl
        go_upto_region 8 with fail
        go_wp2_with fail
        refine (atoi_any a2 _ (by have := S2.out; have := HS.out; omega) (EV.out _ BF.out)).mono ?_
        rintro e X1 ⟨⟨ev, rfl⟩, b⟩
        clear cr cw
        replace BF := Lib.hid (BF.out.trans (b.mono BF.out.size))
        replace XZ := Lib.hid (qblk b XZ.out)
        replace XP := Lib.hid (qblk b XP.out)
        replace XW := Lib.hid (qblk b XW.out)
        replace XR := Lib.hid (qblk b XR.out)
        clear b
        rw [hv2.out]
        have cp := qcell XP.out 1 (.int .i64 0) rfl
        have fz := qfroz XP.out 1
        go_upto_region 9 with fail
        clear cp fz
        have HG := qput_grown X1 p 1 (.int .i64 v2)
        replace BF := Lib.hid (qstep BF.out HG NG.out.2.2.1)
        have XP2 : Hid ((X1.setCell ⟨p, 1, none⟩ (.int .i64 v2)).heap[p]? = some (.cells (hdrC v1 v2 v3 2) 28 (0, 0))) := Lib.hid (by rw [qput_at XP.out 1 _]; rfl)
        replace XZ := Lib.hid (qgrown HG XZ.out (fun e => NG.out.1 (Option.some.inj e)))
        replace XW := Lib.hid (qgrown HG XW.out (fun e => NG.out.2.1 (Option.some.inj e)))
        replace XR := Lib.hid (qgrown HG XR.out (fun e => NR.out (Option.some.inj e)))
        clear HG XP
        generalize X1.setCell ⟨p, 1, none⟩ (.int .i64 v2) = X2 at *
        go_wp2_with fail
        go_roundw
        case rel => exact ⟨2, rfl, by omega, BF, XZ, XP2, XW, XR⟩
        case measure => simp [intOf]
      · have cr := qcell XR.out 2 (.pointer (some ⟨p, 2, none⟩)) rfl
        have cw := qcell XW.out 3 (.string a3) rfl
        go_upto_region 8 with fail
        go_wp2_with fail
        refine (atoi_any a3 _ (by have := S3.out; have := HS.out; omega) (EV.out _ BF.out)).mono ?_
        rintro e X1 ⟨⟨ev, rfl⟩, b⟩
        clear cr cw
        replace BF := Lib.hid (BF.out.trans (b.mono BF.out.size))
        replace XZ := Lib.hid (qblk b XZ.out)
        replace XP := Lib.hid (qblk b XP.out)
        replace XW := Lib.hid (qblk b XW.out)
        replace XR := Lib.hid (qblk b XR.out)
        clear b
        rw [hv3.out]
        have cp := qcell XP.out 2 (.int .i64 0) rfl
        have fz := qfroz XP.out 2
        go_upto_region 9 with fail
        clear cp fz
        have HG := qput_grown X1 p 2 (.int .i64 v3)
        replace BF := Lib.hid (qstep BF.out HG NG.out.2.2.1)
        have XP2 : Hid ((X1.setCell ⟨p, 2, none⟩ (.int .i64 v3)).heap[p]? = some (.cells (hdrC v1 v2 v3 3) 28 (0, 0))) := Lib.hid (by rw [qput_at XP.out 2 _]; rfl)
        replace XZ := Lib.hid (qgrown HG XZ.out (fun e => NG.out.1 (Option.some.inj e)))
        replace XW := Lib.hid (qgrown HG XW.out (fun e => NG.out.2.1 (Option.some.inj e)))
        replace XR := Lib.hid (qgrown HG XR.out (fun e => NR.out (Option.some.inj e)))
        clear HG XP
        generalize X1.setCell ⟨p, 2, none⟩ (.int .i64 v3) = X2 at *
        go_wp2_with fail
        go_roundw
        case rel => exact ⟨3, rfl, by omega, BF, XZ, XP2, XW, XR⟩
        case measure => simp [intOf]
      · have F3 : Hid (wr.heap[p]? = some (.cells ((⟨v1, v2, v3, []⟩ : FaceV).cells none 0) 28 (0, 0))) := Lib.hid XP.out
        clear XP XW XR
        obtain ⟨F, hF⟩ : ∃ F : FaceV, Hid (F = ⟨v1, v2, v3, []⟩) := ⟨_, Lib.hid rfl⟩
        have e1 : Hid (F.eye = v1 ∧ F.rings = v2 ∧ F.sectors = v3) := Lib.hid (by rw [hF.out]; exact ⟨rfl, rfl, rfl⟩)
        rw [← hF.out] at HD F3
        have N1 : Hid (inB v1 1 16 = false → headF F = false) := Lib.hid (fun h => by unfold headF; rw [e1.out.1, h]; rfl)
        have N2 : Hid (inB v2 1 24 = false → headF F = false) := Lib.hid (fun h => by unfold headF; rw [e1.out.2.1, h]; simp)
        have N3 : Hid (inB v3 2 96 = false → headF F = false) := Lib.hid (fun h => by unfold headF; rw [e1.out.2.2, h]; simp)
        have NY : Hid (inB v1 1 16 = true → inB v2 1 24 = true → inB v3 2 96 = true → headF F = true) := Lib.hid (fun h1 h2 h3 => by unfold headF; rw [e1.out.1, e1.out.2.1, e1.out.2.2, h1, h2, h3]; rfl)
        have p0 := qcell F3.out 0 (.int .i64 v1) (by rw [hF.out]; rfl)
        have p1 := qcell F3.out 1 (.int .i64 v2) (by rw [hF.out]; rfl)
        have p2 := qcell F3.out 2 (.int .i64 v3) (by rw [hF.out]; rfl)
        clear hv1 hv2 hv3 S1 S2 S3
        go_upto_region 10 with fail
        refine yB ?_
        refine yW (.pointer (some ⟨p, 0, none⟩)) ?_
        refine yW (.int .i64 v1) ?_
        refine yR (fun K hK => ?_)
        go_simp
        refine (within_any v1 1 16 _).mono ?_
        rintro e wr ⟨rfl, rfl⟩
        cases h1 : inB v1 1 16
        · have HN := Lib.hid (N1.out h1)
          clear h1
          try dsimp only
          refine yK hK ?_
          clear hK K
          refine yM (.bool false) ?_
          go_skip
          refine yM (.bool false) ?_
          refine yM (.bool false) ?_
          go_skip
          refine yM (.bool false) ?_
          refine yM (.bool false) ?_
          refine yE ?_
          go_upto_region 11 with fail
          clear p0 p1 p2
          clear N1 N2 N3 NY
          have hzd : Below wr.heap.size wr wr.drew := (Below.refl _ _).drew
          replace XZ := Lib.hid (qblk hzd XZ.out)
          clear hzd
          have hd : Below wr.heap.size wr wr.drew := (Below.refl _ _).drew
          replace BF := Lib.hid (BF.out.drew)
          replace F3 := Lib.hid (qblk hd F3.out)
          refine zD (fun W => Below w.heap.size w W ∧ W.heap[p]? = some (.cells (F.cells none 0) 28 (0, 0))) ⟨BF.out, F3.out⟩ (fun hHeld => ?_)
          clear hd
          generalize wr.drew = V3 at *
          refine zT 0 rfl (.agg (F.cells none 0)) (qyrow (by kernel_rfl) 28 _ rfl p rfl _ 28 (0, 0) _ (fun W hW => hW.2) Tryz.underlying28 rfl (by exact (qJF F none 0))) ?_
          refine zW 1 rfl (.bool false) ?_
          refine zW 2 rfl (.bool false) ?_
          refine zW 3 rfl undef (hy := .inr ⟨by kernel_rfl, rfl⟩) ?_
          refine zW 4 rfl undef (hy := .inr ⟨by kernel_rfl, rfl⟩) ?_
          refine zW 5 rfl undef (hy := .inr ⟨by kernel_rfl, rfl⟩) ?_
          refine zW 6 rfl undef (hy := .inr ⟨by kernel_rfl, rfl⟩) ?_
          refine zW 7 rfl (.bool false) ?_
          have HR : Hid (hdrF s = (F, false)) := Lib.hid (by rw [HD.out, HN.out, Bool.false_and])
          refine zR 8 rfl (fun K hK => ?_)
          rw [if_pos (by kernel_rfl)]
          refine qstore 28 _ _ rfl z (zeroF.cells none 0) (F.cells none 0) 28 rfl rfl XZ.out (by exact qJF F none 0) rfl (qone F none 0) ?_
          intro X h8 hg8 hs8
          replace BF := Lib.hid (qstep BF.out hg8 NG.out.2.2.2)
          replace F3 := Lib.hid (qgrown hg8 F3.out (fun e => NG.out.1 (Option.some.inj e).symm))
          replace XZ := Lib.hid h8
          clear h8 hg8 hs8
          refine zK hK ⟨BF.out, F3.out⟩ (fun hHeld => ?_)
          clear hK K
          refine zW 9 rfl (.bool false) ?_
          refine zE ?_
          clear hHeld
          go_wp2_with fail
          (try simp only [Exit.inBlock, Exit.then])
          refine bodyPost_ret (results_ct rfl _ X z 28 (F.cells none 0) (0, 0) _ rfl XZ.out Tryz.underlying28 rfl (by exact qJF F none 0)) rfl ?_
          rw [HR.out]
          exact ⟨rfl, BF.out⟩
        · have H1 := Lib.hid h1
          clear h1
          try dsimp only
          refine yK hK ?_
          clear hK K
          refine yM (.bool true) ?_
          refine yW (.pointer (some ⟨p, 1, none⟩)) ?_
          refine yW (.int .i64 v2) ?_
          refine yR (fun K hK => ?_)
          go_simp
          refine (within_any v2 1 24 _).mono ?_
          rintro e wr ⟨rfl, rfl⟩
          cases h2 : inB v2 1 24
          · have HN := Lib.hid (N2.out h2)
            clear h2
            try dsimp only
            refine yK hK ?_
            clear hK K
            refine yM (.bool false) ?_
            refine yM (.bool false) ?_
            go_skip
            refine yM (.bool false) ?_
            refine yM (.bool false) ?_
            refine yE ?_
            go_upto_region 11 with fail
            clear p0 p1 p2
            clear N1 N2 N3 NY
            have hzd : Below wr.heap.size wr wr.drew := (Below.refl _ _).drew
            replace XZ := Lib.hid (qblk hzd XZ.out)
            clear hzd
            have hd : Below wr.heap.size wr wr.drew := (Below.refl _ _).drew
            replace BF := Lib.hid (BF.out.drew)
            replace F3 := Lib.hid (qblk hd F3.out)
            refine zD (fun W => Below w.heap.size w W ∧ W.heap[p]? = some (.cells (F.cells none 0) 28 (0, 0))) ⟨BF.out, F3.out⟩ (fun hHeld => ?_)
            clear hd
            generalize wr.drew = V3 at *
            refine zT 0 rfl (.agg (F.cells none 0)) (qyrow (by kernel_rfl) 28 _ rfl p rfl _ 28 (0, 0) _ (fun W hW => hW.2) Tryz.underlying28 rfl (by exact (qJF F none 0))) ?_
            refine zW 1 rfl (.bool false) ?_
            refine zW 2 rfl (.bool false) ?_
            refine zW 3 rfl undef (hy := .inr ⟨by kernel_rfl, rfl⟩) ?_
            refine zW 4 rfl undef (hy := .inr ⟨by kernel_rfl, rfl⟩) ?_
            refine zW 5 rfl undef (hy := .inr ⟨by kernel_rfl, rfl⟩) ?_
            refine zW 6 rfl undef (hy := .inr ⟨by kernel_rfl, rfl⟩) ?_
            refine zW 7 rfl (.bool false) ?_
            have HR : Hid (hdrF s = (F, false)) := Lib.hid (by rw [HD.out, HN.out, Bool.false_and])
            refine zR 8 rfl (fun K hK => ?_)
            rw [if_pos (by kernel_rfl)]
            refine qstore 28 _ _ rfl z (zeroF.cells none 0) (F.cells none 0) 28 rfl rfl XZ.out (by exact qJF F none 0) rfl (qone F none 0) ?_
            intro X h8 hg8 hs8
            replace BF := Lib.hid (qstep BF.out hg8 NG.out.2.2.2)
            replace F3 := Lib.hid (qgrown hg8 F3.out (fun e => NG.out.1 (Option.some.inj e).symm))
            replace XZ := Lib.hid h8
            clear h8 hg8 hs8
            refine zK hK ⟨BF.out, F3.out⟩ (fun hHeld => ?_)
            clear hK K
            refine zW 9 rfl (.bool false) ?_
            refine zE ?_
            clear hHeld
            go_wp2_with fail
            (try simp only [Exit.inBlock, Exit.then])
            refine bodyPost_ret (results_ct rfl _ X z 28 (F.cells none 0) (0, 0) _ rfl XZ.out Tryz.underlying28 rfl (by exact qJF F none 0)) rfl ?_
            rw [HR.out]
            exact ⟨rfl, BF.out⟩
          · have H2 := Lib.hid h2
            clear h2
            try dsimp only
            refine yK hK ?_
            clear hK K
            refine yM (.bool true) ?_
            refine yM (.bool true) ?_
            refine yW (.pointer (some ⟨p, 2, none⟩)) ?_
            refine yW (.int .i64 v3) ?_
            refine yR (fun K hK => ?_)
            go_simp
            refine (within_any v3 2 96 _).mono ?_
            rintro e wr ⟨rfl, rfl⟩
            cases h3 : inB v3 2 96
            · have HN := Lib.hid (N3.out h3)
              clear h3
              try dsimp only
              refine yK hK ?_
              clear hK K
              refine yM (.bool false) ?_
              refine yM (.bool false) ?_
              refine yE ?_
              go_upto_region 11 with fail
              clear p0 p1 p2
              clear N1 N2 N3 NY
              have hzd : Below wr.heap.size wr wr.drew := (Below.refl _ _).drew
              replace XZ := Lib.hid (qblk hzd XZ.out)
              clear hzd
              have hd : Below wr.heap.size wr wr.drew := (Below.refl _ _).drew
              replace BF := Lib.hid (BF.out.drew)
              replace F3 := Lib.hid (qblk hd F3.out)
              refine zD (fun W => Below w.heap.size w W ∧ W.heap[p]? = some (.cells (F.cells none 0) 28 (0, 0))) ⟨BF.out, F3.out⟩ (fun hHeld => ?_)
              clear hd
              generalize wr.drew = V3 at *
              refine zT 0 rfl (.agg (F.cells none 0)) (qyrow (by kernel_rfl) 28 _ rfl p rfl _ 28 (0, 0) _ (fun W hW => hW.2) Tryz.underlying28 rfl (by exact (qJF F none 0))) ?_
              refine zW 1 rfl (.bool false) ?_
              refine zW 2 rfl (.bool false) ?_
              refine zW 3 rfl undef (hy := .inr ⟨by kernel_rfl, rfl⟩) ?_
              refine zW 4 rfl undef (hy := .inr ⟨by kernel_rfl, rfl⟩) ?_
              refine zW 5 rfl undef (hy := .inr ⟨by kernel_rfl, rfl⟩) ?_
              refine zW 6 rfl undef (hy := .inr ⟨by kernel_rfl, rfl⟩) ?_
              refine zW 7 rfl (.bool false) ?_
              have HR : Hid (hdrF s = (F, false)) := Lib.hid (by rw [HD.out, HN.out, Bool.false_and])
              refine zR 8 rfl (fun K hK => ?_)
              rw [if_pos (by kernel_rfl)]
              refine qstore 28 _ _ rfl z (zeroF.cells none 0) (F.cells none 0) 28 rfl rfl XZ.out (by exact qJF F none 0) rfl (qone F none 0) ?_
              intro X h8 hg8 hs8
              replace BF := Lib.hid (qstep BF.out hg8 NG.out.2.2.2)
              replace F3 := Lib.hid (qgrown hg8 F3.out (fun e => NG.out.1 (Option.some.inj e).symm))
              replace XZ := Lib.hid h8
              clear h8 hg8 hs8
              refine zK hK ⟨BF.out, F3.out⟩ (fun hHeld => ?_)
              clear hK K
              refine zW 9 rfl (.bool false) ?_
              refine zE ?_
              clear hHeld
              go_wp2_with fail
              (try simp only [Exit.inBlock, Exit.then])
              refine bodyPost_ret (results_ct rfl _ X z 28 (F.cells none 0) (0, 0) _ rfl XZ.out Tryz.underlying28 rfl (by exact qJF F none 0)) rfl ?_
              rw [HR.out]
              exact ⟨rfl, BF.out⟩
            · have H3 := Lib.hid h3
              clear h3
              have HN := Lib.hid (NY.out H1.out H2.out H3.out)
              try dsimp only
              refine yK hK ?_
              clear hK K
              refine yM (.bool true) ?_
              refine yM (.bool true) ?_
              refine yE ?_
              go_upto_region 11 with fail
              clear p0 p1 p2
              clear N1 N2 N3 NY
              have hzd : Below wr.heap.size wr wr.drew := (Below.refl _ _).drew
              replace XZ := Lib.hid (qblk hzd XZ.out)
              clear hzd
              have hd : Below wr.heap.size wr wr.drew := (Below.refl _ _).drew
              replace BF := Lib.hid (BF.out.drew)
              replace F3 := Lib.hid (qblk hd F3.out)
              refine zD (fun W => Below w.heap.size w W ∧ W.heap[p]? = some (.cells (F.cells none 0) 28 (0, 0))) ⟨BF.out, F3.out⟩ (fun hHeld => ?_)
              clear hd
              generalize wr.drew = V3 at *
              refine zT 0 rfl (.agg (F.cells none 0)) (qyrow (by kernel_rfl) 28 _ rfl p rfl _ 28 (0, 0) _ (fun W hW => hW.2) Tryz.underlying28 rfl (by exact (qJF F none 0))) ?_
              refine zW 1 rfl (.bool true) ?_
              refine zW 2 rfl (.bool true) ?_
              refine zT 3 rfl (.agg (F.cells none 0)) (qyrow (by kernel_rfl) 28 _ rfl p rfl _ 28 (0, 0) _ (fun W hW => hW.2) Tryz.underlying28 rfl (by exact (qJF F none 0))) ?_
              refine zW 5 rfl (.string s) ?_
              refine zR 4 rfl (fun K hK => ?_)
              go_simp
              refine (header_any F none 0 V3 HN.out).mono ?_
              rintro e V4 ⟨rfl, b⟩
              replace XZ := Lib.hid (qblk b XZ.out)
              replace BF := Lib.hid (BF.out.trans (b.mono BF.out.size))
              replace F3 := Lib.hid (qblk b F3.out)
              clear b
              dsimp only
              refine zK hK ⟨BF.out, F3.out⟩ (fun hHeld => ?_)
              clear hK K
              refine zW 6 rfl (.bool (headS F == s)) (hy := .inl ⟨by kernel_rfl, by intro W _; go_simp; exact (beq_toListBytes _ _).symm⟩) ?_
              refine zW 7 rfl (.bool (headS F == s)) ?_
              have HR : Hid (hdrF s = (F, headS F == s)) := Lib.hid (by rw [HD.out, HN.out, Bool.true_and])
              refine zR 8 rfl (fun K hK => ?_)
              rw [if_pos (by kernel_rfl)]
              refine qstore 28 _ _ rfl z (zeroF.cells none 0) (F.cells none 0) 28 rfl rfl XZ.out (by exact qJF F none 0) rfl (qone F none 0) ?_
              intro X h8 hg8 hs8
              replace BF := Lib.hid (qstep BF.out hg8 NG.out.2.2.2)
              replace F3 := Lib.hid (qgrown hg8 F3.out (fun e => NG.out.1 (Option.some.inj e).symm))
              replace XZ := Lib.hid h8
              clear h8 hg8 hs8
              refine zK hK ⟨BF.out, F3.out⟩ (fun hHeld => ?_)
              clear hK K
              refine zW 9 rfl (.bool (headS F == s)) ?_
              refine zE ?_
              clear hHeld
              go_wp2_with fail
              (try simp only [Exit.inBlock, Exit.then])
              refine bodyPost_ret (results_ct rfl _ X z 28 (F.cells none 0) (0, 0) _ rfl XZ.out Tryz.underlying28 rfl (by exact qJF F none 0)) rfl ?_
              rw [HR.out]
              exact ⟨rfl, BF.out⟩
  · have hb : (((L : Nat) : Int) != 4) = true := by rw [bne_iff_ne]; omega
    have HN := Lib.hid (hdrF_not (s := s) (by rw [WL.out]; exact h4))
    go_wp2_with (first
      | (refine wpList_load_row rfl 28 _ rfl z rfl 28 (zeroF.cells none 0) (0, 0) _ XZ.out Tryz.underlying28 rfl (by exact (qJF zeroF none 0)) ?_)
      | (refine wpList_load_row rfl 28 _ rfl p rfl 28 (zeroF.cells none 0) (0, 0) _ XP.out Tryz.underlying28 rfl (by exact (qJF zeroF none 0)) ?_)
      | (refine wpList_qstore rfl 28 _ _ rfl z (zeroF.cells none 0) (zeroF.cells none 0) 28 rfl rfl XZ.out (by exact (qJF zeroF none 0)) rfl (qone zeroF none 0) ?_; intro VZ hzz hgz; replace BF := Lib.hid (qstep BF.out hgz (by have h1 := hz.out; omega)); replace XP := Lib.hid (qgrown hgz XP.out (fun e => by have h1 := hp.out; have h2 := hz.out; have := Option.some.inj e; omega)); replace XZ := Lib.hid hzz; clear hzz hgz)
      | fail)
    (try simp only [Exit.inBlock, Exit.then])
    refine bodyPost_ret (results_ct rfl _ VZ z 28 (zeroF.cells none 0) (0, 0) _ rfl XZ.out Tryz.underlying28 rfl (by exact (qJF zeroF none 0))) rfl ?_
    rw [HN.out]
    exact ⟨rfl, BF.out⟩
end Go.Proofs.YtimmadkbkimonaaGreatDoor
namespace Go.Proofs.YtimmadkbkimonaaGreatDoor
set_option linter.unusedSimpArgs false
set_option linter.unusedVariables false
open Go.RowKit

theorem index_app (c : UInt8) : ∀ (u v : List UInt8), (∀ b ∈ u, b ≠ c) → Lib.index (u ++ c :: v) [c] = (u.length : Int)
  | [], v, _ => by
    show Lib.index (c :: v) [c] = 0
    unfold Lib.index
    rw [if_pos (by simp [List.isPrefixOf])]
  | b :: u, v, h => by
    have hb := h b (List.mem_cons_self ..)
    have ih := index_app c u v fun x hx => h x (List.mem_cons_of_mem _ hx)
    show Lib.index (b :: (u ++ c :: v)) [c] = _
    unfold Lib.index
    rw [if_neg (by simp [List.isPrefixOf, Ne.symm hb]), ih, if_neg (by rw [beq_iff_eq]; omega), List.length_cons]
    push_cast
    rfl
theorem index_none (c : UInt8) : ∀ (l : List UInt8), (∀ b ∈ l, b ≠ c) → Lib.index l [c] = -1
  | [], _ => rfl
  | b :: u, h => by
    have hb := h b (List.mem_cons_self ..)
    have ih := index_none c u fun x hx => h x (List.mem_cons_of_mem _ hx)
    unfold Lib.index
    rw [if_neg (by simp [List.isPrefixOf, Ne.symm hb]), ih, if_pos (by decide)]
theorem cut_no : ∀ (l : List UInt8), ∀ b ∈ (cutL l).1, b ≠ 10
  | [], b, h => by cases h
  | x :: l, b, h => by
    unfold cutL at h
    by_cases hx : x = 10
    · rw [if_pos hx] at h; cases h
    · rw [if_neg hx] at h
      rcases List.mem_cons.1 h with rfl | h
      · exact hx
      · exact cut_no l b h
theorem cut_rest : ∀ (l : List UInt8), (cutL l).2.2 = false → (cutL l).2.1 = []
  | [], _ => rfl
  | x :: l, h => by
    unfold cutL at h ⊢
    by_cases hx : x = 10
    · rw [if_pos hx] at h; cases h
    · rw [if_neg hx] at h ⊢
      exact cut_rest l h
theorem cut_at (u v : List UInt8) (h : ∀ b ∈ u, b ≠ 10) : Lib.cut (u ++ 10 :: v) [10] = (u, v, true) := by
  have hn := index_app 10 u v h
  unfold Lib.cut
  rw [if_pos (by rw [hn]; omega), hn, Int.toNat_natCast]
  refine Prod.ext ?_ (Prod.ext ?_ rfl)
  · show List.take u.length (u ++ 10 :: v) = u
    rw [List.take_append_of_le_length (Nat.le_refl _), List.take_length]
  · show List.drop (u.length + 1) (u ++ 10 :: v) = v
    rw [← List.drop_drop, List.drop_append_of_le_length (Nat.le_refl _), List.drop_length]
    rfl
theorem cut_eq (l : List UInt8) : Lib.cut l [10] = cutL l := by
  cases h : (cutL l).2.2
  · obtain ⟨h1, h2⟩ := cut_open l h
    unfold Lib.cut
    rw [if_neg (by rw [index_none 10 l h2]; decide)]
    exact (Prod.ext h1 (Prod.ext (cut_rest l h) h)).symm
  · have e := cut_ended l h
    have hn := cut_at (cutL l).1 (cutL l).2.1 (cut_no l)
    rw [← e] at hn
    rw [hn]
    exact Prod.ext rfl (Prod.ext rfl h.symm)
theorem dw_nil {p : UInt8 → Bool} : ∀ l : List UInt8, List.dropWhile p l = [] ↔ ∀ x ∈ l, p x = true
  | [] => by simp
  | x :: l => by
    rw [List.dropWhile_cons]
    cases h : p x with
    | true => simp [h, dw_nil l]
    | false => simp [h]
theorem beq_bytes {a b : ByteArray} : (a == b) = true ↔ a = b := by
  rw [beq_toListBytes, beq_iff_eq, ByteArray.toList_eq, ByteArray.toList_eq]
  exact ⟨bytes_ext, fun h => by rw [h]⟩
theorem cut_size (l : List UInt8) : (cutL l).1.length ≤ l.length ∧ (cutL l).2.1.length ≤ l.length := by
  cases h : (cutL l).2.2
  · rw [(cut_open l h).1, cut_rest l h]; simp
  · have := congrArg List.length (cut_ended l h)
    rw [List.length_append, List.length_cons] at this
    omega
theorem trim_signs (l : List UInt8) : (Lib.trimS l [46, 115, 102] == []) = l.all isSign := by
  have hp : ∀ b, ([46, 115, 102] : List UInt8).contains b = isSign b := by
    intro b
    unfold isSign
    simp [List.contains, List.elem]
    cases h1 : (b == 46) <;> cases h2 : (b == 115) <;> cases h3 : (b == 102) <;> rfl
  unfold Lib.trimS Lib.trimLeftS Lib.trimRightS
  rw [show (fun x => ([46, 115, 102] : List UInt8).contains x) = isSign from funext hp]
  cases hd : List.dropWhile isSign l.reverse with
  | nil =>
    have h := (dw_nil _).1 hd
    have : l.all isSign = true := List.all_eq_true.2 fun b hb => h b (List.mem_reverse.2 hb)
    rw [this]
    rfl
  | cons y ys =>
    have hy : isSign y = false := by
      have h1 := List.head?_dropWhile_not isSign l.reverse
      rw [hd] at h1
      simpa using h1
    have hm : y ∈ l := by
      have h1 : y ∈ List.dropWhile isSign l.reverse := by rw [hd]; exact List.mem_cons_self ..
      exact List.mem_reverse.1 ((List.dropWhile_sublist isSign).mem h1)
    have h1 : l.all isSign = false := List.all_eq_false.2 ⟨y, hm, by rw [hy]; decide⟩
    rw [h1, beq_eq_false_iff_ne]
    intro h2
    have h3 := (dw_nil _).1 h2 y (List.mem_reverse.2 (List.mem_cons_self ..))
    rw [hy] at h3
    cases h3
theorem index_sign {b : UInt8} (h : isSign b = true) : Lib.indexByte [46, 115, 102] b = kindOf b := by
  unfold isSign at h
  simp only [Bool.or_eq_true, beq_iff_eq] at h
  rcases h with h | h | h <;> subst h <;> decide
theorem ws_one {s : ByteArray} (h : ∀ b ∈ s.data.toList, b ≠ 32) : wordsS s = [s] := by
  have hi : Lib.indexB s ⟨#[32]⟩ = -1 := index_none 32 _ h
  unfold wordsS
  exact Lib.splitB_miss _ _ _ _ hi
theorem ws_cons {s : ByteArray} {u v : List UInt8} (hs : s.data.toList = u ++ 32 :: v) (hu : ∀ b ∈ u, b ≠ 32) : wordsS s = (⟨u.toArray⟩ : ByteArray) :: wordsS ⟨v.toArray⟩ := by
  have hi : Lib.indexB s ⟨#[32]⟩ = (u.length : Int) := by
    show Lib.index s.data.toList [32] = _
    rw [hs]
    exact index_app 32 u v hu
  have hz : s.size = u.length + 1 + v.length := by
    have := congrArg List.length hs
    rw [List.length_append, List.length_cons] at this
    have e : s.size = s.data.toList.length := rfl
    omega
  have e1 : s.extract 0 (u.length + 0) = ⟨u.toArray⟩ := bytes_ext (by
    rw [ByteArray.data_extract, Array.toList_extract]
    simp [hs])
  have e2 : s.extract (u.length + (⟨#[32]⟩ : ByteArray).size) s.size = ⟨v.toArray⟩ := bytes_ext (by
    rw [ByteArray.data_extract, Array.toList_extract, sz1, hz]
    simp [hs, List.extract_eq_take_drop])
  unfold wordsS
  rw [Lib.countB_hit s ⟨#[32]⟩ u.length (by decide) hi, Nat.add_comm 1, Lib.splitB_hit _ _ _ _ _ hi, e1, e2]
theorem atoi_itoa {n : Nat} (h : n < 100) : atoiV (itoaB n) = (n : Int) := by
  have h0 : (List.range 100).all (fun n => atoiV (itoaB n) == (n : Int)) = true := by decide +kernel
  have := List.all_eq_true.1 h0 n (List.mem_range.2 h)
  simpa using this
theorem hdr_head (s : ByteArray) : headP s.data.toList = if (hdrF s).2 = true then some (hdrF s).1 else none := by
  by_cases h : (hdrF s).2 = true
  · rw [if_pos h]
    unfold hdrF at h ⊢
    split at h
    · rename_i a b c hw
      rw [Bool.and_eq_true, beq_bytes] at h
      obtain ⟨h1, h2⟩ := h
      have := headP_head h1
      rw [← h2]
      exact this
    · cases h
  · rw [if_neg h]
    cases hp : headP s.data.toList with
    | none => rfl
    | some g =>
      exfalso
      apply h
      obtain ⟨g1, g2, g3⟩ := headP_some hp
      have hh := headF_iff.1 g1
      have a := num_itoa (n := g.eye.toNat) (by omega)
      have b := num_itoa (n := g.rings.toNat) (by omega)
      have c := num_itoa (n := g.sectors.toNat) (by omega)
      unfold headB at g3
      have hw : wordsS s = [⟨faceB.toArray⟩, ⟨(itoaB g.eye.toNat).toArray⟩, ⟨(itoaB g.rings.toNat).toArray⟩, ⟨(itoaB g.sectors.toNat).toArray⟩] := by
        rw [ws_cons g3.symm (by decide), ws_cons (s := ⟨_⟩) rfl (fun x hx => (a.2 x hx).1), ws_cons (s := ⟨_⟩) rfl (fun x hx => (b.2 x hx).1), ws_one (s := ⟨(itoaB g.sectors.toNat).toArray⟩) (fun x hx => (c.2 x hx).1)]
      rw [hdrF_four hw]
      dsimp only
      rw [atoi_itoa (by omega), atoi_itoa (by omega), atoi_itoa (by omega), Int.toNat_of_nonneg (by omega), Int.toNat_of_nonneg (by omega), Int.toNat_of_nonneg (by omega), Bool.and_eq_true, beq_bytes]
      refine ⟨g1, bytes_ext ?_⟩
      rw [← g3]
      rfl
end Go.Proofs.YtimmadkbkimonaaGreatDoor
namespace Go.Proofs.YtimmadkbkimonaaGreatDoor
set_option linter.unusedSimpArgs false
set_option linter.unusedVariables false
open Go.RowKit

theorem results_ctt {P : Program} {fn : Func} {r s t : Nat} {ty : TypeId} (h : fn.results = #[.cell r ty, .tmp s, .tmp t]) (tmps : Array Value) (w : World) (p : Nat) (pt : TypeId) (cs : Array Value) (fr : Nat × Nat) (d : TypeDesc) (hp : tmps.getD r undef = .pointer (some ⟨p, 0, none⟩)) (hw : w.heap[p]? = some (.cells cs pt fr)) (hu : P.underlying ty = some d) (hd : (match d with | .struct _ | .array _ _ => true | _ => false) = true) (hi : (P.info? ty).map (·.size) = some cs.size) :
    (results fn tmps).run P w = .ok (.tuple #[.agg cs, tmps.getD s undef, tmps.getD t undef]) w := by
  have hp' : tmps[r]?.getD undef = .pointer (some ⟨p, 0, none⟩) := by simpa using hp
  simp [results, h, hp', asAddr, run_loadVar_row w p pt ty cs fr d hw hu hd hi]
set_option maxHeartbeats 4000000 in
set_option maxRecDepth 100000 in
theorem parseX_any (s line rest : ByteArray) (ended : Bool) (w : World) (hs : s.size ≤ 65536) (he : EnvW w) (hl : s.data.toList ≠ []) (hc : Lib.cut s.data.toList [10] = (line.data.toList, rest.data.toList, ended)) (hh : line.size ≠ 0 ∧ line.size ≤ 100000 ∧ (hdrF line).2 = false) : Calls Tryz.prog 20 #[.string s] w fun e w' => e = .returned (.tuple #[.agg (zeroF.cells none 0), .int .i64 11, .int .i64 1]) ∧ Below w.heap.size w w' := by
  have EV := Lib.hid (fun W (hb : Below w.heap.size w W) => he.below hb)
  have HS := Lib.hid hs
  have HC := Lib.hid hc
  have HL := Lib.hid hl
  have HH := Lib.hid hh
  clear he hs hc hl hh
  have t0 : decide ((65536 : Int) < (s.size : Int)) = false := by have := HS.out; simp; omega
  have AL := Lib.hid (al1 w (.cells #[.int .i64 0, .int .i64 0, .int .i64 0, .slice none 0 0] 28))
  go_enter Tryz.func20, Tryz.ntmps20
  go_upto_region 3 with fail
  obtain ⟨z, hz⟩ : ∃ z, Hid (w.heap.size = z) := ⟨_, Lib.hid rfl⟩
  rw [hz.out] at AL ⊢
  generalize (w.alloc (.cells #[.int .i64 0, .int .i64 0, .int .i64 0, .slice none 0 0] 28)) = W0 at *
  have BF : Hid (Below w.heap.size w W0) := Lib.hid (by rw [hz.out]; exact AL.out.1)
  have XZ : Hid (W0.heap[z]? = some (.cells (zeroF.cells none 0) 28 (0, 0))) := Lib.hid AL.out.2
  clear AL
  clear t0
  go_upto_region 5 with fail
  have AL := al1 W0 (.cells #[.int .i64 0, .int .i64 0, .int .i64 0, .slice none 0 0] 28)
  obtain ⟨p, hp⟩ : ∃ x, Hid (W0.heap.size = x) := ⟨_, Lib.hid rfl⟩
  have NG : Hid (z ≠ p ∧ w.heap.size ≤ p ∧ w.heap.size ≤ z) := Lib.hid (by have h1 := hz.out; have h2 := hp.out; have h3 := qlt XZ.out; have h4 := BF.out.size; omega)
  replace BF := Lib.hid (BF.out.trans (AL.1.mono BF.out.size))
  replace XZ := Lib.hid (qblk AL.1 XZ.out)
  have XP := Lib.hid AL.2
  rw [hp.out] at XP ⊢
  clear AL
  generalize W0.alloc (.cells #[.int .i64 0, .int .i64 0, .int .i64 0, .slice none 0 0] 28) = W1 at *
  replace XP := Lib.hid (show W1.heap[p]? = some (.cells (zeroF.cells none 0) 28 (0, 0)) from XP.out)
  go_wp2_with fail
  refine wp_loop_once ?_
  have sn : (s.toList == ([] : List UInt8)) = false := by
    rw [ByteArray.toList_eq]
    have h := HL.out
    cases e : s.data.toList with
    | nil => exact absurd e (by have := HL.out; simpa using this)
    | cons a b => rfl
  go_upto_region 8 with fail
  clear sn
  obtain ⟨m, hm⟩ := (EV.out W1 BF.out).1
  go_wp2_with fail
  refine (sh_strings_Cut s ⟨#[10]⟩ m W1 (by have := HS.out; omega) hm).mono ?_
  rintro e V1 ⟨rfl, q9, rfl⟩
  clear hm
  have b : Below W1.heap.size W1 (W1.drewN q9) := ⟨rfl, rfl, rfl, Nat.le_refl _, fun _ _ => rfl⟩
  replace BF := Lib.hid (BF.out.trans (b.mono BF.out.size))
  replace XZ := Lib.hid (qblk b XZ.out)
  replace XP := Lib.hid (qblk b XP.out)
  clear b
  generalize W1.drewN q9 = V1 at *
  rw [HC.out]
  have c1 := qcell XP.out 1 (.int .i64 0) rfl
  have c2 := qcell XP.out 2 (.int .i64 0) rfl
  have tl : ((line.size : Int) == 0) = false := by have := HH.out.1; rw [beq_eq_false_iff_ne]; omega
  go_upto_region 12 with fail
  clear c1 c2 tl
  go_wp2_with fail
  refine (parseHeader_any line V1 HH.out.2.1 (EV.out V1 BF.out)).mono ?_
  rintro e V2 ⟨rfl, b⟩
  replace BF := Lib.hid (BF.out.trans (b.mono BF.out.size))
  replace XZ := Lib.hid (qblk b XZ.out)
  replace XP := Lib.hid (qblk b XP.out)
  clear b
  rw [HH.out.2.2]
  go_wp2_with (first
    | (refine wpList_qstore rfl 28 _ _ rfl p (zeroF.cells none 0) ((hdrF line).1.cells none 0) 28 rfl rfl XP.out (by exact qJF (hdrF line).1 none 0) rfl (qone (hdrF line).1 none 0) ?_; intro V3 hzz hgz; replace BF := Lib.hid (qstep BF.out hgz NG.out.2.1); replace XZ := Lib.hid (qgrown hgz XZ.out (fun e => NG.out.1 (Option.some.inj e))); replace XP := Lib.hid hzz; clear hzz hgz)
    | (refine wpList_qstore rfl 28 _ _ rfl z (zeroF.cells none 0) (zeroF.cells none 0) 28 rfl rfl XZ.out (by exact qJF zeroF none 0) rfl (qone zeroF none 0) ?_; intro V4 hzz hgz; replace BF := Lib.hid (qstep BF.out hgz NG.out.2.2); replace XZ := Lib.hid hzz; clear hzz hgz)
    | fail)
  (try simp only [Exit.inBlock, Exit.then])
  refine bodyPost_ret (results_ctt rfl _ V4 z 28 (zeroF.cells none 0) (0, 0) _ rfl XZ.out Tryz.underlying28 rfl (by exact qJF zeroF none 0)) rfl ?_
  exact ⟨rfl, BF.out⟩
end Go.Proofs.YtimmadkbkimonaaGreatDoor
