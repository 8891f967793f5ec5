/- Parts of the proof, in this order: One effect on a register; the state of a register within a range over events; The iterator of the program's events, in the range that makes a register; The program's register of a bench; The plain lemmas of AsOf: the sizes of what it finds; The plain law of a register: what AsOf of the program gives is told by plain functions on a list of notes; The plain law of a register, second part: the order of events, what they do, and the conflicts; AsOf of the program; Fold of the program, of a small set. -/
import Derived.Test.YtlnhppgfhkkidaaGreatKPpw9
set_option linter.unusedSimpArgs false
set_option linter.unusedVariables false
open List renaming getElem_toArray → lq0, getElem_cons_succ → lq1, getElem_cons_zero → lq2, setIfInBounds_toArray → lq3, set_cons_zero → lq4, set_cons_succ → lq5
namespace Go.Proofs.YtlnhppgfhkkidaaGreat
set_option linter.unusedSimpArgs false
open Go.RowKit

theorem Same.weaken {S T : Nat → Prop} {W W' : World} (h : Same S W W') (hs : ∀ k, S k → T k) : Same T W W' := ⟨h.os, h.tape, h.output, h.size, fun k hk ht => h.block k hk (fun e => ht (hs k e))⟩
theorem keeps_below {W W' : World} (h : Below W.heap.size W W') : KeepsOthers W W' := ⟨h.size, fun _ _ hk _ => below_blk h hk⟩
theorem own_cells {W : World} {base : Nat} {e : TypeId} {k : Nat} {v : Value} {n : Nat} {xs : List Value} (h : W.ownsRow base e k v n xs) {j : Nat} {o : Obj} (hj : Value.ownBlock v = some j) (ho : W.heap[j]? = some o) : o.isCells = true := by
  rcases h.2 with ⟨h2, _⟩ | ⟨g, cap, cur, h2, _, hg, _⟩
  · rw [h2] at hj; simp [Value.ownBlock] at hj
  · rw [h2] at hj
    simp only [Value.ownBlock, Option.some.injEq] at hj
    subst hj
    rw [hg] at ho
    cases ho
    rfl
theorem keeps_reg {base : Nat} {W W' : World} {p : Nat} {v : Value} {A : Array Value} {t e : TypeId} {k n : Nat} {xs : List Value} (hp : W.heap[p]? = some (.cells A t (0, 0))) (hv : W.ownsRow base e k v n xs) (s : Same (fun k => k = p ∨ Value.ownBlock v = some k) W W') : KeepsOthers W W' := by
  refine ⟨s.size, fun j o hj ho => (s.block j (Array.getElem?_eq_some_iff.1 hj).1 ?_).trans hj⟩
  rintro (rfl | h)
  · rw [hp] at hj; cases hj; cases ho
  · have := own_cells hv h hj; rw [this] at ho; cases ho
abbrev regOwn (p : Nat) (ha : Option Addr) (hn hc : Nat) (ea : Option Addr) (en ec : Nat) : Nat → Prop := fun k => k = p ∨ Value.ownBlock (.slice ha hn hc) = some k ∨ Value.ownBlock (.slice ea en ec) = some k
def EffEnd (base : Nat) (W : World) (p : Nat) (ha : Option Addr) (hc : Nat) (ea : Option Addr) (ec : Nat) (R : RegV) (e : EvV) (r : Ending) (W' : World) : Prop :=
  r = .returned (.bool (effB R e)) ∧ RegSt base W' p (effR R e) ∧ Same (regOwn p ha R.hs.length hc ea R.es.length ec) W W' ∧ KeepsOthers W W'
section
variable {e : EvV} {base p : Nat} {R : RegV} {W : World} {ha : Option Addr} {hc : Nat} {ea : Option Addr} {ec : Nat} {ca : Option Addr} {cc : Nat}
theorem effAdd (h : RegAt base W p ha hc ea ec ca cc R.hs R.es R.cs) (hbase : base ≤ W.heap.size) (hsz : R.es.length ≤ 1000000) (h1 : e.x.n.kind ≠ 1) (h2 : e.x.n.kind ≠ 2) :
    Calls Tryz.prog 216 #[.pointer (some ⟨p, 0, none⟩), .agg (evA e)] W (EffEnd base W p ha hc ea ec R e) := by
  refine (add_any e base p ha hc ea ec ca cc R.hs R.es R.cs W h hbase hsz).mono ?_
  rintro r W' ⟨rfl, a', c', h3, h4⟩
  have hb : effB R e = true := by simp [effB, h1, h2]
  have hr : effR R e = { R with es := R.es ++ [e] } := by simp [effR, hb, h1]
  refine ⟨by rw [hb], ?_, h4.weaken (fun k hk => hk.imp id .inr), keeps_reg h.blk h.eown h4⟩
  rw [hr]
  exact ⟨ha, hc, a', c', ca, cc, h3⟩
theorem effHeap (h : RegAt base W p ha hc ea ec ca cc R.hs R.es R.cs) (hbase : base ≤ W.heap.size) (hsz : R.hs.length ≤ 1000000) (h1 : e.x.n.kind = 1) :
    Calls Tryz.prog 217 #[.pointer (some ⟨p, 0, none⟩), .agg (evA e)] W (EffEnd base W p ha hc ea ec R e) := by
  refine (heapEff_any e base p ha hc ea ec ca cc R.hs R.es R.cs W h hbase hsz).mono ?_
  rintro r W' (⟨h8, rfl, h3⟩ | ⟨h8, rfl, a', c', h3, h4⟩)
  · have hb : effB R e = false := by simp [effB, h1, h8]
    have hr : effR R e = R := by simp [effR, hb]
    refine ⟨by rw [hb], ?_, Same.of_below h3, keeps_below h3⟩
    rw [hr]
    exact ⟨ha, hc, ea, ec, ca, cc, h.below h3⟩
  · have hb : effB R e = true := by simp [effB, h1, h8]
    have hr : effR R e = { R with hs := R.hs ++ [e] } := by simp [effR, hb, h1]
    refine ⟨by rw [hb], ?_, h4.weaken (fun k hk => hk.imp id .inl), keeps_reg h.blk h.hown h4⟩
    rw [hr]
    exact ⟨a', c', ea, ec, ca, cc, h3⟩
theorem effPass (q : Nat) (h : RegAt base W p ha hc ea ec ca cc R.hs R.es R.cs) (hq : W.heap[q]? = some (.cells #[fAdd] 250 (0, 0))) (hbase : base ≤ W.heap.size) (hsz : R.es.length ≤ 1000000) (h1 : e.x.n.kind = 2) :
    Calls Tryz.prog 218 #[.pointer (some ⟨p, 0, none⟩), .agg (evA e), .pointer (some ⟨q, 0, none⟩)] W (EffEnd base W p ha hc ea ec R e) := by
  refine (passEff_any e base p ha hc ea ec ca cc R.hs R.es R.cs q W h hq hbase hsz).mono ?_
  rintro r W' (⟨h8, rfl, h3⟩ | ⟨h8, rfl, a', c', h3, h4⟩)
  · have hb : effB R e = false := by simp [effB, h1, h8]
    have hr : effR R e = R := by simp [effR, hb]
    refine ⟨by rw [hb], ?_, Same.of_below h3, keeps_below h3⟩
    rw [hr]
    exact ⟨ha, hc, ea, ec, ca, cc, h.below h3⟩
  · have hb : effB R e = true := by simp only [effB, h1]; simp; omega
    have hr : effR R e = { R with es := R.es ++ [e] } := by simp [effR, hb, h1]
    refine ⟨by rw [hb], ?_, h4.weaken (fun k hk => hk.imp id .inr), keeps_reg h.blk h.eown h4⟩
    rw [hr]
    exact ⟨ha, hc, a', c', ca, cc, h3⟩
end

structure RState (Wb : World) (p : Nat) (R : RegV) (W : World) : Prop where
  reg : RegSt Wb.heap.size W p R
  same : Same (fun k => k = p) Wb W
theorem RState.below {Wb W W' : World} {p : Nat} {R : RegV} (h : RState Wb p R W) (hb : Below W.heap.size W W') : RState Wb p R W' := ⟨h.reg.below hb, h.same.trans (Same.of_below hb)⟩
theorem RState.size {Wb W : World} {p : Nat} {R : RegV} (h : RState Wb p R W) : Wb.heap.size ≤ W.heap.size := h.same.size
theorem Same.reg {Wb W W' : World} {p : Nat} (h : Same (fun k => k = p) Wb W) (s : Same (RegW Wb.heap.size p) W W') : Same (fun k => k = p) Wb W' :=
  ⟨s.os.trans h.os, s.tape.trans h.tape, s.output.trans h.output, Nat.le_trans h.size s.size, fun k hk hp => (s.block k (Nat.lt_of_lt_of_le hk h.size) (by rintro (rfl | h2); exact hp rfl; omega)).trans (h.block k hk hp)⟩
theorem RState.putObj {Wb W : World} {p : Nat} {R : RegV} (h : RState Wb p R W) (o : Loop) (hl : ∃ r, W.heap[Wb.heap.size + 1]? = some (.loop r)) : RState Wb p R (W.putObj (Wb.heap.size + 1) (.loop o)) := by
  obtain ⟨r, hl⟩ := hl
  obtain ⟨ha, hc, ea, ec, ca, cc, h1, h2, h3, h4, h5⟩ := h.reg
  have hne : p ≠ Wb.heap.size + 1 := fun e => by rw [e, hl] at h1; cases h1
  refine ⟨⟨ha, hc, ea, ec, ca, cc, (World.putObj_heap_other hne).trans h1, ownsRow_putObj h2 _ hl rfl, ownsRow_putObj h3 _ hl rfl, ownsRow_putObj h4 _ hl rfl, h5⟩, ?_⟩
  exact h.same.reg (Same.of_grown (grownBy_putObj' W _ _) (fun k e => by cases e; exact .inr (by omega)))
theorem RState.blk {Wb W : World} {p : Nat} {R : RegV} (h : RState Wb p R W) {k : Nat} {o : Obj} (hk : Wb.heap[k]? = some o) (hne : k ≠ p) : W.heap[k]? = some o := (h.same.block k (Array.getElem?_eq_some_iff.1 hk).1 hne).trans hk
theorem RState.eff {Wb W W' : World} {p : Nat} {R : RegV} {e : EvV} {r : Ending} {ha : Option Addr} {hc : Nat} {ea : Option Addr} {ec : Nat} {ca : Option Addr} {cc : Nat} (hs : Same (fun k => k = p) Wb W) (h : RegAt Wb.heap.size W p ha hc ea ec ca cc R.hs R.es R.cs) (he : EffEnd Wb.heap.size W p ha hc ea ec R e r W') : RState Wb p (effR R e) W' :=
  ⟨he.2.1, hs.reg (he.2.2.1.weaken (fun k hk => by rcases hk with h1 | h1 | h1; exact .inl h1; exact .inr (h.hown.lt k h1).1; exact .inr (h.eown.lt k h1).1))⟩
structure RStateB (Wb : World) (p : Nat) (R : RegV) (top : Nat) (W : World) : Prop where
  reg : ∃ ha hc ea ec ca cc, RegAt Wb.heap.size W p ha hc ea ec ca cc R.hs R.es R.cs ∧ ∀ k, k = p ∨ Value.ownBlock (.slice ha R.hs.length hc) = some k ∨ Value.ownBlock (.slice ea R.es.length ec) = some k → k < top
  same : Same (fun k => k = p) Wb W
theorem RState.bound {Wb W W' : World} {p : Nat} {R : RegV} (h : RState Wb p R W) (hb : Below W.heap.size W W') : RStateB Wb p R W.heap.size W' := by
  obtain ⟨ha, hc, ea, ec, ca, cc, h1⟩ := h.reg
  exact ⟨⟨ha, hc, ea, ec, ca, cc, h1.below hb, fun k hk => by rcases hk with rfl | hk | hk; exact h1.lt; exact (h1.hown.lt k hk).2; exact (h1.eown.lt k hk).2⟩, h.same.trans (Same.of_below hb)⟩
theorem RStateB.st {Wb W : World} {p top : Nat} {R : RegV} (h : RStateB Wb p R top W) : RState Wb p R W := by
  obtain ⟨ha, hc, ea, ec, ca, cc, h1, _⟩ := h.reg
  exact ⟨⟨ha, hc, ea, ec, ca, cc, h1⟩, h.same⟩
theorem RStateB.putObj {Wb W : World} {p top : Nat} {R : RegV} (h : RStateB Wb p R top W) (o : Loop) (hl : ∃ r, W.heap[Wb.heap.size + 1]? = some (.loop r)) : RStateB Wb p R top (W.putObj (Wb.heap.size + 1) (.loop o)) := by
  have h9 := h.st.putObj o hl
  obtain ⟨ha, hc, ea, ec, ca, cc, h1, h2⟩ := h.reg
  obtain ⟨r, hl⟩ := hl
  obtain ⟨k1, k2, k3, k4, k5⟩ := h1
  have hne : p ≠ Wb.heap.size + 1 := fun e => by rw [e, hl] at k1; cases k1
  exact ⟨⟨ha, hc, ea, ec, ca, cc, ⟨(World.putObj_heap_other hne).trans k1, ownsRow_putObj k2 _ hl rfl, ownsRow_putObj k3 _ hl rfl, ownsRow_putObj k4 _ hl rfl, k5⟩, h2⟩, h9.same⟩
end Go.Proofs.YtlnhppgfhkkidaaGreat
namespace Go.Proofs.YtlnhppgfhkkidaaGreat
set_option linter.unusedSimpArgs false
open Go.RowKit
attribute [local go_sem] Oper.semAt_some

def evOf (x : LN) : EvV := ⟨x.nm, x⟩
theorem ln_at {W : World} {a : Option Addr} {n c : Nat} {xs : List LN} (h : RdA W 19 a n c (lnCells xs)) (h0 : 0 < n) : ∃ b off, a = some ⟨b, off, none⟩ ∧ ∀ i x, xs[i]? = some x → W.rangeAt b (off + i * 19) (x.n.cells x.sa x.sc) := by
  rcases h.2.2.2 with h5 | ⟨b, off, rfl, h4⟩
  · have := h.2.1; omega
  · refine ⟨b, off, rfl, fun i x hx j v hv => ?_⟩
    have hj : j < 19 := (List.getElem?_eq_some_iff.1 hv).1
    have h5 := flat_at 19 (xs.map fun x => x.n.cells x.sa x.sc) (by intro r hr; obtain ⟨y, _, rfl⟩ := List.mem_map.1 hr; rfl) i (x.n.cells x.sa x.sc) (by rw [List.getElem?_map, hx]; rfl) j hj
    have h6 := h4 (i * 19 + j) v (h5.trans hv)
    rwa [← Nat.add_assoc] at h6
structure EvEnv (Wb : World) (p pL : Nat) (base0 : Nat) (a : Option Addr) (c : Nat) (xs : List LN) : Prop where
  reg : Wb.heap[p]? = some (.cells #[.slice none 0 0, .slice none 0 0, .slice none 0 0] 77 (0, 0))
  lst : Wb.heap[pL]? = some (.cells #[.slice a xs.length c] 24 (0, 0))
  own : Wb.ownsRow base0 47 19 (.slice a xs.length c) xs.length (lnCells xs)
theorem EvEnv.ne {Wb : World} {p pL base0 : Nat} {a : Option Addr} {c : Nat} {xs : List LN} (h : EvEnv Wb p pL base0 a c xs) : pL ≠ p := fun e => by have h1 := h.lst; rw [e, h.reg] at h1; simp at h1
theorem EvEnv.lst_at {Wb W : World} {p pL base0 : Nat} {a : Option Addr} {c : Nat} {xs : List LN} {R : RegV} (h : EvEnv Wb p pL base0 a c xs) (hr : RState Wb p R W) : W.heap[pL]? = some (.cells #[.slice a xs.length c] 24 (0, 0)) := hr.blk h.lst h.ne
theorem EvEnv.own_at {Wb W : World} {p pL base0 : Nat} {a : Option Addr} {c : Nat} {xs : List LN} {R : RegV} (h : EvEnv Wb p pL base0 a c xs) (hr : RState Wb p R W) : W.ownsRow base0 47 19 (.slice a xs.length c) xs.length (lnCells xs) :=
  own_keep h.own hr.same (fun b hb e => own_no h.own h.reg (by intro cur; simp) (by rw [hb, e]))
def AtEv (Wb : World) (p : Nat) (day : Int) (xs : List LN) (s : Nat × LN) (W : World) : Prop := xs[s.1]? = some s.2 ∧ RState Wb p (regOf day ((xs.take s.1).map evOf)) W
theorem regOf_next (day : Int) (xs : List LN) (k : Nat) (x : LN) (hx : xs[k]? = some x) : regOf day ((xs.take (k + 1)).map evOf) = regStep day (regOf day ((xs.take k).map evOf)) (evOf x) := by
  rw [List.take_add_one, hx]
  simp only [Option.toList, List.map_append, List.map_cons, List.map_nil]
  exact regOf_snoc _ _ _
theorem LoopAt.of_below {rec : LoopState → Option Code → Loop} {D : Nat} {st : LoopState} {pe : Option Code} {W W' : World} (h : LoopAt rec D st pe W) (hb : Below W.heap.size W W') : LoopAt rec D st pe W' :=
  ⟨below_blk hb h.1, below_blk hb h.2⟩
theorem wide_wide : Wide Fence.wide := .inl rfl
theorem not_lets {Q : Exit → Act → World → Prop} (h : ∀ a w, ¬ Q .outgrown a w) : ¬ LetsOut Q := fun ⟨a, w, hq⟩ => h a w hq
section
variable {F : Fence} {n : Nat} {P : Program} {ops : Array Oper} {rest : List Oper} {op : Oper} {a : Act} {w : World} {Q : Exit → Act → World → Prop}
theorem wpListIn_load_midW (hF : Wide F) (hgd : op.guard = none) (ty : TypeId) (x : Operand) (ho : op.op = .load ty x) (b o : Nat) (hx : a.eval x = .pointer (some ⟨b, o, none⟩)) (cs : List Value) (d : TypeDesc) (hc : w.rangeAt b o cs)
    (hu : P.underlying ty = some d) (hd : d.isRow = true) (hi : (P.info? ty).map (·.size) = some cs.length) (h : wpListIn F n P ops Q rest (a.put op.dst (.agg cs.toArray)) w) : wpListIn F n P ops Q (op :: rest) a w :=
  wpListIn_plain hgd fun _ hK => wpIn_of_wp hF (by rw [ho]; intro c e; cases e) (wp_load_mid ty x ho b o hx cs d hc hu hd hi (hK _ _ h))
theorem wpListIn_store_blkW (hF : Wide F) (hgd : op.guard = none) (ty : TypeId) (x y : Operand) (ho : op.op = .store ty x y) (p : Nat) (c c' : Array Value) (t : TypeId) (hx : a.eval x = .pointer (some ⟨p, 0, none⟩)) (hy : a.eval y = .agg c') (hg : w.heap[p]? = some (.cells c t (0, 0)))
    (hi : (P.info? ty).map (·.size) = some c'.size) (hc : c.size = c'.size) (h1 : c'.all (·.oneCell') = true)
    (h : ∀ w', w'.heap[p]? = some (.cells c' t (0, 0)) → w.grownBy w' (some p) → w'.heap.size = w.heap.size → wpListIn F n P ops Q rest (a.put op.dst undef) w') : wpListIn F n P ops Q (op :: rest) a w :=
  wpListIn_plain hgd fun _ hK => wpIn_of_wp hF (by rw [ho]; intro c e; cases e) (oper_store_blk ty x y ho p c c' t hx hy hg hi hc h1 (fun w' h1 h2 h3 => hK _ _ (h w' h1 h2 h3)))
end
set_option maxHeartbeats 8000000 in
set_option maxRecDepth 100000 in
theorem evIter (m : Nat) (Wb : World) (p pL base0 : Nat) (day : Int) (a : Option Addr) (c : Nat) (xs : List LN) (henv : EvEnv Wb p pL base0 a c xs) (rec : LoopState → Option Code → Loop) (W1 : World) (h0 : RState Wb p ⟨[], [], []⟩ W1) (hl : LoopAt rec Wb.heap.size .ready none W1)
    (hY : ∀ s W, AtEv Wb p day xs s W → LoopAt rec Wb.heap.size .ready none W → YieldAt Fence.wide (m - 1) Tryz.prog (Wb.heap.size + 1) #[.agg (evA (evOf s.2))] W fun e W' =>
        e = .returned (.bool true) ∧ RState Wb p (regOf day ((xs.take (s.1 + 1)).map evOf)) W' ∧ LoopAt rec Wb.heap.size .ready none W') :
    CallsIn Fence.wide m Tryz.prog 223 #[.func (.yield (Wb.heap.size + 1)) #[] #[], .pointer (some ⟨pL, 0, none⟩)] W1 fun e W' =>
        (∃ v, e = .returned v) ∧ RState Wb p (regOf day (xs.map evOf)) W' ∧ LoopAt rec Wb.heap.size .ready none W' := by
  have I43 := Lib.hid (show ∀ (m : NoteV) (a : Option Addr) (c : Nat), (Tryz.prog.info? 47).map (·.size) = some (noteA m a c).size from fun m a c => by kernel_rfl)
  have IN : (Tryz.prog.info? 47).map (·.size) = some 19 := by kernel_rfl
  have HY := Lib.hid hY; clear hY
  have EN := Lib.hid henv; clear henv
  have hlc := cell_of (EN.out.lst_at h0) 0 (.slice a xs.length c) rfl
  have hn63 : xs.length ≤ 9223372036854775807 := (RdA.of_own EN.out.own).maxn
  have R0 := Lib.hid h0; clear h0
  have L0 := Lib.hid hl; clear hl
  refine callsIn_of_wp Tryz.func223 rfl trivial ?_
  simp only [Tryz.ntmps223, List.size_toArray, List.length_cons, List.length_nil, Nat.reduceAdd, Nat.reduceSub, Array.replicate_succ, Array.replicate_zero, List.push_toArray, List.append_toArray, List.nil_append, List.cons_append]
  gi_wp2
  clear hlc
  gi_loopw [7] (fun i wr => ∃ k : Nat, i = .int .i64 k ∧ k ≤ xs.length ∧ Hid (RState Wb p (regOf day ((xs.take k).map evOf)) wr) ∧ Hid (LoopAt rec Wb.heap.size .ready none wr)) (fun i _ => xs.length - (intOf i).toNat)
  case atStart => exact ⟨0, rfl, Nat.zero_le _, R0, L0⟩
  case round =>
    obtain ⟨k, rfl, hk, HR, HL⟩ := hrel
    by_cases hkn : k < xs.length
    · have t0 : decide ((k : Int) < (xs.length : Int)) = true := by simp; omega
      obtain ⟨b, off, rfl, hat⟩ := ln_at (RdA.of_own (EN.out.own_at HR.out)) (show 0 < xs.length by omega)
      obtain ⟨x, hx⟩ : ∃ x, xs[k]? = some x := ⟨xs[k]'hkn, List.getElem?_eq_getElem hkn⟩
      have HX := Lib.hid hx
      have HRA := Lib.hid (hat k x hx)
      obtain ⟨o, ho⟩ : ∃ o, Hid (off + k * 19 = o) := ⟨_, Lib.hid rfl⟩
      rw [ho.out] at HRA
      have hi := fun W => idx_off (W := W) (c := c) (b := b) Tryz.underlying24 IN hkn ho.out
      have hk64 : (k : Int) + 1 ≤ 9223372036854775807 := by omega
      clear hat hx
      have B1 := Lib.hid ((Below.refl wr.heap.size wr).alloc (Nat.le_refl _) (.cells (noteA zeroN none 0) 47))
      gi_wp2_with (first
        | (refine wpListIn_load_midW wide_wide rfl 47 _ rfl b o rfl (x.n.cells x.sa x.sc) _ HRA.out Tryz.underlying47 rfl IN ?_)
        | (refine wpListIn_store_blkW wide_wide rfl 47 _ _ rfl wr.heap.size (noteA zeroN none 0) (noteA x.n x.sa x.sc) 47 rfl rfl (heap_last wr _) (I43.out _ _ _) rfl (noteA_one x.n x.sa x.sc) ?_; intro w2 h21 h22 h23)
        | fail)
      have B2 : Hid (Below wr.heap.size wr w2) := Lib.hid (B1.out.grown h22 B1.out.size (fun q hq => by cases hq; exact Nat.le_refl _))
      have CT := Lib.hid h21
      clear h22 h23 h21 B1 hi
      obtain ⟨pX, hpX⟩ : ∃ pX, Hid (wr.heap.size = pX) := ⟨_, Lib.hid rfl⟩
      rw [hpX.out] at CT ⊢
      replace HR := Lib.hid (HR.out.below B2.out)
      replace HL := Lib.hid (HL.out.of_below B2.out)
      have bd := (Below.refl w2.heap.size w2).drew
      replace B2 := Lib.hid (B2.out.trans (bd.mono B2.out.size))
      replace HR := Lib.hid (HR.out.below bd)
      replace HL := Lib.hid (HL.out.of_below bd)
      replace CT := Lib.hid (below_blk bd CT.out)
      clear bd
      refine wpIn_region_any (by kernel_rfl) ?_
      change wpAnyIn _ _ _ _ _ _ _ _ _ w2.drew
      generalize w2.drew = V at *
      try simp only [Act.put, lq0, lq1, lq2, lq3, lq4, lq5]
      refine wpAnyIn_take (i := 0) (v := .func (.yield (Wb.heap.size + 1)) #[] #[]) rfl rfl (by kernel_rfl) (by kernel_rfl) (by kernel_rfl) (fun _ _ _ h => h) ⟨Or.inl ⟨by rfl, by intro W; go_simp⟩, fun _ => rfl⟩ ?_
      try simp only [Act.put, lq0, lq1, lq2, lq3, lq4, lq5]
      refine wpAnyIn_ready (rs := [1, 3]) (by kernel_rfl) (by simp) ?_
      refine AllReadyIn.cons rfl (fun K hK => ?_) ?_
      · rw [if_pos (by kernel_rfl)]
        refine wpIn_of_wp wide_wide (by intro c e; cases e) (wp_load_row 47 _ rfl pX rfl 47 (noteA x.n x.sa x.sc) (0, 0) _ CT.out Tryz.underlying47 rfl (I43.out _ _ _) (hK _ _ ?_))
        clear hK K
        try simp only [Act.put, lq0, lq1, lq2, lq3, lq4, lq5]
        refine wpAnyIn_ready (rs := [2, 3]) (by kernel_rfl) (by simp) ?_
        refine AllReadyIn.cons rfl (fun K hK => ?_) ?_
        · rw [if_pos (by kernel_rfl)]
          refine wpIn_of_wp wide_wide (by intro c e; cases e) ?_
          go_simp
          go_at_call 167
          refine (nameOf_any x.n x.sa x.sc _).mono ?_
          rintro e V2 ⟨rfl, b2⟩
          replace B2 := Lib.hid (B2.out.trans (b2.mono B2.out.size))
          replace HR := Lib.hid (HR.out.below b2)
          replace HL := Lib.hid (HL.out.of_below b2)
          replace CT := Lib.hid (below_blk b2 CT.out)
          clear b2
          dsimp only
          refine hK _ _ ?_
          clear hK K
          try simp only [Act.put, lq0, lq1, lq2, lq3, lq4, lq5]
          refine wpAnyIn_ready (rs := [3]) (by kernel_rfl) (by simp) ?_
          refine AllReadyIn.cons rfl (fun K hK => ?_) AllReadyIn.nil
          rw [if_pos (by kernel_rfl)]
          refine wpIn_of_wp wide_wide (by intro c e; cases e) (wp_load_row 47 _ rfl pX rfl 47 (noteA x.n x.sa x.sc) (0, 0) _ CT.out Tryz.underlying47 rfl (I43.out _ _ _) (hK _ _ ?_))
          clear hK K
          try simp only [Act.put, lq0, lq1, lq2, lq3, lq4, lq5]
          refine wpAnyIn_take (i := 4) (v := .agg (evA (evOf x))) rfl rfl (by kernel_rfl) (by kernel_rfl) (by kernel_rfl) (fun _ _ _ h => h) ⟨Or.inl ⟨by rfl, by intro W; kernel_rfl⟩, fun _ => rfl⟩ ?_
          try simp only [Act.put, lq0, lq1, lq2, lq3, lq4, lq5]
          refine wpAnyIn_ready (rs := [5]) (by kernel_rfl) (by simp) ?_
          refine AllReadyIn.cons rfl (fun K hK => ?_) AllReadyIn.nil
          rw [if_pos (by kernel_rfl)]
          obtain ⟨fn, tmps, assign, body, hy, hRo⟩ := HY.out (k, x) _ ⟨HX.out, HR.out⟩ HL.out
          refine ⟨fun _ _ => trivial, ?_⟩
          go_simp
          refine ⟨fun h => by simp [Fence.wide] at h, ?_⟩
          refine hRo.mono ?_
          rintro e W6 ⟨rfl, hR6, hL6⟩
          have HR6 := Lib.hid hR6
          have HL6 := Lib.hid hL6
          clear hRo hy hR6 hL6
          refine hK _ _ ?_
          clear hK K
          try simp only [Act.put, lq0, lq1, lq2, lq3, lq4, lq5]
          refine wpAnyIn_take (i := 6) (v := .bool false) rfl rfl (by kernel_rfl) (by kernel_rfl) (by kernel_rfl) (fun _ _ _ h => h) ⟨Or.inl ⟨by rfl, by intro W; go_simp⟩, fun _ => rfl⟩ ?_
          try simp only [Act.put, lq0, lq1, lq2, lq3, lq4, lq5]
          refine wpAnyIn_done (by kernel_rfl) ?_ _
          gi_wp2_with fail
          go_roundw
          case rel => exact ⟨k + 1, by simp, by omega, HR6, HL6⟩
          case measure => simp [intOf]; omega
        refine AllReadyIn.cons rfl (fun K hK => ?_) AllReadyIn.nil
        · rw [if_pos (by kernel_rfl)]
          refine wpIn_of_wp wide_wide (by intro c e; cases e) (wp_load_row 47 _ rfl pX rfl 47 (noteA x.n x.sa x.sc) (0, 0) _ CT.out Tryz.underlying47 rfl (I43.out _ _ _) (hK _ _ ?_))
          clear hK K
          try simp only [Act.put, lq0, lq1, lq2, lq3, lq4, lq5]
          refine wpAnyIn_ready (rs := [2]) (by kernel_rfl) (by simp) ?_
          refine AllReadyIn.cons rfl (fun K hK => ?_) AllReadyIn.nil
          rw [if_pos (by kernel_rfl)]
          refine wpIn_of_wp wide_wide (by intro c e; cases e) ?_
          go_simp
          go_at_call 167
          refine (nameOf_any x.n x.sa x.sc _).mono ?_
          rintro e V2 ⟨rfl, b2⟩
          replace B2 := Lib.hid (B2.out.trans (b2.mono B2.out.size))
          replace HR := Lib.hid (HR.out.below b2)
          replace HL := Lib.hid (HL.out.of_below b2)
          replace CT := Lib.hid (below_blk b2 CT.out)
          clear b2
          dsimp only
          refine hK _ _ ?_
          clear hK K
          try simp only [Act.put, lq0, lq1, lq2, lq3, lq4, lq5]
          refine wpAnyIn_take (i := 4) (v := .agg (evA (evOf x))) rfl rfl (by kernel_rfl) (by kernel_rfl) (by kernel_rfl) (fun _ _ _ h => h) ⟨Or.inl ⟨by rfl, by intro W; kernel_rfl⟩, fun _ => rfl⟩ ?_
          try simp only [Act.put, lq0, lq1, lq2, lq3, lq4, lq5]
          refine wpAnyIn_ready (rs := [5]) (by kernel_rfl) (by simp) ?_
          refine AllReadyIn.cons rfl (fun K hK => ?_) AllReadyIn.nil
          rw [if_pos (by kernel_rfl)]
          obtain ⟨fn, tmps, assign, body, hy, hRo⟩ := HY.out (k, x) _ ⟨HX.out, HR.out⟩ HL.out
          refine ⟨fun _ _ => trivial, ?_⟩
          go_simp
          refine ⟨fun h => by simp [Fence.wide] at h, ?_⟩
          refine hRo.mono ?_
          rintro e W6 ⟨rfl, hR6, hL6⟩
          have HR6 := Lib.hid hR6
          have HL6 := Lib.hid hL6
          clear hRo hy hR6 hL6
          refine hK _ _ ?_
          clear hK K
          try simp only [Act.put, lq0, lq1, lq2, lq3, lq4, lq5]
          refine wpAnyIn_take (i := 6) (v := .bool false) rfl rfl (by kernel_rfl) (by kernel_rfl) (by kernel_rfl) (fun _ _ _ h => h) ⟨Or.inl ⟨by rfl, by intro W; go_simp⟩, fun _ => rfl⟩ ?_
          try simp only [Act.put, lq0, lq1, lq2, lq3, lq4, lq5]
          refine wpAnyIn_done (by kernel_rfl) ?_ _
          gi_wp2_with fail
          go_roundw
          case rel => exact ⟨k + 1, by simp, by omega, HR6, HL6⟩
          case measure => simp [intOf]; omega
      refine AllReadyIn.cons rfl (fun K hK => ?_) AllReadyIn.nil
      · rw [if_pos (by kernel_rfl)]
        refine wpIn_of_wp wide_wide (by intro c e; cases e) (wp_load_row 47 _ rfl pX rfl 47 (noteA x.n x.sa x.sc) (0, 0) _ CT.out Tryz.underlying47 rfl (I43.out _ _ _) (hK _ _ ?_))
        clear hK K
        try simp only [Act.put, lq0, lq1, lq2, lq3, lq4, lq5]
        refine wpAnyIn_ready (rs := [1]) (by kernel_rfl) (by simp) ?_
        refine AllReadyIn.cons rfl (fun K hK => ?_) AllReadyIn.nil
        rw [if_pos (by kernel_rfl)]
        refine wpIn_of_wp wide_wide (by intro c e; cases e) (wp_load_row 47 _ rfl pX rfl 47 (noteA x.n x.sa x.sc) (0, 0) _ CT.out Tryz.underlying47 rfl (I43.out _ _ _) (hK _ _ ?_))
        clear hK K
        try simp only [Act.put, lq0, lq1, lq2, lq3, lq4, lq5]
        refine wpAnyIn_ready (rs := [2]) (by kernel_rfl) (by simp) ?_
        refine AllReadyIn.cons rfl (fun K hK => ?_) AllReadyIn.nil
        rw [if_pos (by kernel_rfl)]
        refine wpIn_of_wp wide_wide (by intro c e; cases e) ?_
        go_simp
        go_at_call 167
        refine (nameOf_any x.n x.sa x.sc _).mono ?_
        rintro e V2 ⟨rfl, b2⟩
        replace B2 := Lib.hid (B2.out.trans (b2.mono B2.out.size))
        replace HR := Lib.hid (HR.out.below b2)
        replace HL := Lib.hid (HL.out.of_below b2)
        replace CT := Lib.hid (below_blk b2 CT.out)
        clear b2
        dsimp only
        refine hK _ _ ?_
        clear hK K
        try simp only [Act.put, lq0, lq1, lq2, lq3, lq4, lq5]
        refine wpAnyIn_take (i := 4) (v := .agg (evA (evOf x))) rfl rfl (by kernel_rfl) (by kernel_rfl) (by kernel_rfl) (fun _ _ _ h => h) ⟨Or.inl ⟨by rfl, by intro W; kernel_rfl⟩, fun _ => rfl⟩ ?_
        try simp only [Act.put, lq0, lq1, lq2, lq3, lq4, lq5]
        refine wpAnyIn_ready (rs := [5]) (by kernel_rfl) (by simp) ?_
        refine AllReadyIn.cons rfl (fun K hK => ?_) AllReadyIn.nil
        rw [if_pos (by kernel_rfl)]
        obtain ⟨fn, tmps, assign, body, hy, hRo⟩ := HY.out (k, x) _ ⟨HX.out, HR.out⟩ HL.out
        refine ⟨fun _ _ => trivial, ?_⟩
        go_simp
        refine ⟨fun h => by simp [Fence.wide] at h, ?_⟩
        refine hRo.mono ?_
        rintro e W6 ⟨rfl, hR6, hL6⟩
        have HR6 := Lib.hid hR6
        have HL6 := Lib.hid hL6
        clear hRo hy hR6 hL6
        refine hK _ _ ?_
        clear hK K
        try simp only [Act.put, lq0, lq1, lq2, lq3, lq4, lq5]
        refine wpAnyIn_take (i := 6) (v := .bool false) rfl rfl (by kernel_rfl) (by kernel_rfl) (by kernel_rfl) (fun _ _ _ h => h) ⟨Or.inl ⟨by rfl, by intro W; go_simp⟩, fun _ => rfl⟩ ?_
        try simp only [Act.put, lq0, lq1, lq2, lq3, lq4, lq5]
        refine wpAnyIn_done (by kernel_rfl) ?_ _
        gi_wp2_with fail
        go_roundw
        case rel => exact ⟨k + 1, by simp, by omega, HR6, HL6⟩
        case measure => simp [intOf]; omega
    · have t0 : decide ((k : Int) < (xs.length : Int)) = false := by simp; omega
      have hke : k = xs.length := by omega
      have HR2 : Hid (RState Wb p (regOf day (xs.map evOf)) wr) := Lib.hid (by have := HR.out; rwa [hke, List.take_length] at this)
      gi_wp2_with fail
      go_end0
      exact ⟨⟨_, rfl⟩, HR2.out, HL.out⟩
end Go.Proofs.YtlnhppgfhkkidaaGreat
namespace Go.Proofs.YtlnhppgfhkkidaaGreat
set_option linter.unusedSimpArgs false
open Go.RowKit
attribute [local go_sem] Oper.semAt_some

theorem nmCells_append (l m : List Nm) : nmCells (l ++ m) = nmCells l ++ nmCells m := by simp [nmCells]
theorem RegAt.addC {base : Nat} {W W' : World} {p : Nat} {ha : Option Addr} {hc : Nat} {ea : Option Addr} {ec : Nat} {ca : Option Addr} {cc : Nat} {hs es : List EvV} {cs ns : List Nm} {a' : Option Addr} {c' : Nat} (h : RegAt base W p ha hc ea ec ca cc hs es cs)
    (ho : W'.ownsRow base 45 2 (.slice a' (cs.length + ns.length) c') (cs.length + ns.length) (nmCells cs ++ nmCells ns)) (hg : W.grownBy W' (Value.ownBlock (.slice ca cs.length cc))) :
    RegAt base (W'.setCell ⟨p, 2, none⟩ (.slice a' (cs.length + ns.length) c')) p ha hc ea ec a' c' hs es (cs ++ ns) ∧ Same (fun k => k = p ∨ Value.ownBlock (.slice ca cs.length cc) = some k) W (W'.setCell ⟨p, 2, none⟩ (.slice a' (cs.length + ns.length) c')) := by
  have hb2 := grown_blk hg h.blk (own_no h.cown h.blk (by intro cur; simp))
  have G := setCell_grown W' p 2 (.slice a' (cs.length + ns.length) c')
  refine ⟨⟨?_, ?_, ?_, ?_, ?_⟩, (Same.of_grown hg (fun k e => .inr e)).trans (Same.of_grown G (fun k e => by cases e; exact .inl rfl))⟩
  · rw [setCell_at hb2 2 (.slice a' (cs.length + ns.length) c'), List.length_append]; rfl
  · have h1 := h.hown.kept hg (own_apart h.hown h.cown (by decide))
    exact h1.kept G (.inr (own_no h1 hb2 (by intro cur; simp)).symm)
  · have h1 := h.eown.kept hg (own_apart h.eown h.cown (by decide))
    exact h1.kept G (.inr (own_no h1 hb2 (by intro cur; simp)).symm)
  · rw [nmCells_append, List.length_append]
    exact ho.kept G (.inr (own_no ho hb2 (by intro cur; simp)).symm)
  · exact h.dis

def nmRow (x : Nm) : List Value := [.int .i64 x.1, .int .i64 x.2]
theorem nmCells_eq (l : List Nm) : nmCells l = (l.map nmRow).flatten := by
  rw [nmCells, List.flatMap_def]
  rfl
def nmLt (x y : Nm) : Bool := decide (namesC x.1 x.2 y.1 y.2 < 0)
theorem nmLt_iff (x y : Nm) : nmLt x y = true ↔ x.1 < y.1 ∨ x.1 = y.1 ∧ x.2 < y.2 := by
  rw [nmLt, decide_eq_true_eq, namesC, orI_neg, cmpI_neg, cmpI_zero, cmpI_neg]
theorem ord_nm : Ord nmLt := by
  refine ⟨fun x y h => ?_, fun x y z h1 h2 => ?_⟩
  · rw [nmLt_iff] at h
    rw [← Bool.not_eq_true, nmLt_iff]
    omega
  · rw [← Bool.not_eq_true, nmLt_iff] at *
    omega
theorem nmCmp_fn (args : Array Value) (w : World) : (callFunc 124 args).run Tryz.prog w = .ok (.enter 124 args) w := by kernel_rfl
theorem nmCmp (x y : Nm) (w : World) : Calls Tryz.prog 124 #[.agg (nmRow x).toArray, .agg (nmRow y).toArray] w fun e w' => e = .returned (.int .i64 (namesC x.1 x.2 y.1 y.2)) ∧ Gro w.heap.size w w' :=
  compareNames_gro x.1 x.2 y.1 y.2 w

theorem RState.table {Wb W : World} {p bT q : Nat} {R : RegV} (h : RState Wb p R W) (ht : TableAt Wb bT q) (h1 : bT ≠ p) (h2 : q ≠ p) : TableAt W bT q :=
  ht.of_blocks (h.same.block q ht.lt.1 h2) (h.same.block bT ht.lt.2 h1)
theorem heapEff_fn (args : Array Value) (w : World) : (callFunc 217 args).run Tryz.prog w = .ok (.enter 217 args) w := by kernel_rfl
theorem passEff_fn (args : Array Value) (w : World) : (callFunc 218 args).run Tryz.prog w = .ok (.enter 218 args) w := by kernel_rfl
theorem wide_round (l : Nat) : Wide (Fence.wide.inRound l) := .inr ⟨l, rfl⟩
theorem table_call {e : EvV} {base p bT q : Nat} {R : RegV} {W : World} {ha : Option Addr} {hc : Nat} {ea : Option Addr} {ec : Nat} {ca : Option Addr} {cc : Nat} (ht : TableAt W bT q) (h : RegAt base W p ha hc ea ec ca cc R.hs R.es R.cs) (hbase : base ≤ W.heap.size) (h1 : R.hs.length ≤ 1000000) (h2 : R.es.length ≤ 1000000) (hk : 1 ≤ e.x.n.kind ∧ e.x.n.kind ≤ 4) :
    ∃ g lb, (Instr.lookup 245 (.map (some bT)) (.int .i64 e.x.n.kind) false).run Tryz.prog W = .ok (.func (.func g) #[] lb) W ∧ (∀ (args : Array Value) (w : World), (callFunc g args).run Tryz.prog w = .ok (.enter g args) w) ∧
      Calls Tryz.prog g (#[.pointer (some ⟨p, 0, none⟩), .agg (evA e)] ++ lb) W (EffEnd base W p ha hc ea ec R e) := by
  have hk' : e.x.n.kind = 1 ∨ e.x.n.kind = 2 ∨ e.x.n.kind = 3 ∨ e.x.n.kind = 4 := by omega
  have h0 : ∀ {g : Nat} {r : Ending → World → Prop}, Calls Tryz.prog g #[.pointer (some ⟨p, 0, none⟩), .agg (evA e)] W r → Calls Tryz.prog g (#[.pointer (some ⟨p, 0, none⟩), .agg (evA e)] ++ #[]) W r := fun h => by rw [Array.append_empty]; exact h
  rcases hk' with hk | hk | hk | hk
  · exact ⟨217, #[], by rw [hk]; exact ht.at1, heapEff_fn, h0 (effHeap h hbase h1 hk)⟩
  · exact ⟨218, #[.pointer (some ⟨q, 0, none⟩)], by rw [hk]; exact ht.at2, passEff_fn, effPass q h ht.1 hbase h2 hk⟩
  · exact ⟨216, #[], by rw [hk]; exact ht.at3, add_fn, h0 (effAdd h hbase h2 (by omega) (by omega))⟩
  · exact ⟨216, #[], by rw [hk]; exact ht.at4, add_fn, h0 (effAdd h hbase h2 (by omega) (by omega))⟩
def zeroEv : EvV := ⟨(0, 0), ⟨zeroN, none, 0⟩⟩
theorem run_alloc_ev (W : World) : (Instr.alloc 210 true (.tuple #[])).run Tryz.prog W = .ok (.pointer (some ⟨W.heap.size, 0, none⟩)) (W.alloc (.cells (evA zeroEv) 210)) := by kernel_rfl
theorem oper_alloc_ev {op : Oper} {a : Act} {w : World} {K : Act → World → Prop} {Q : Exit → Act → World → Prop} (ho : op.op = .alloc 210)
    (h : K (a.put op.dst (.pointer (some ⟨w.heap.size, 0, none⟩))) (w.alloc (.cells (evA zeroEv) 210))) : op.wp Tryz.prog a w K Q := by
  have e1 := run_alloc_ev w
  unfold Oper.wp execOp
  simp [ho, e1, Result.andThen]
  exact h
theorem wpList_alloc_ev {ops : Array Oper} {rest : List Oper} {op : Oper} {a : Act} {w : World} {Q : Exit → Act → World → Prop} (hgd : op.guard = none) (ho : op.op = .alloc 210)
    (h : wpList Tryz.prog ops Q rest (a.put op.dst (.pointer (some ⟨w.heap.size, 0, none⟩))) (w.alloc (.cells (evA zeroEv) 210))) : wpList Tryz.prog ops Q (op :: rest) a w :=
  wpList_plain hgd fun _ hK => oper_alloc_ev ho (hK _ _ h)
theorem evA_all (e : EvV) : (evA e).all (·.oneCell') = true := by
  rw [Array.all_eq_true]
  intro i hi
  exact evA_one e _ (by simp [evA])
theorem wpList_append_eq {P : Program} {ops : Array Oper} {rest : List Oper} {op : Oper} {a : Act} {w w' : World} {Q : Exit → Act → World → Prop} (hgd : op.guard = none) (s x : Operand) (t : TypeId) (ho : op.op = .call { callee := .builtin .append, args := #[s, x], argTypes := #[t, t] }) (v1 v2 v : Value)
    (hs : a.eval s = v1) (hx : a.eval x = v2) (hr : (Builtin.append_ #[t, t] op.type #[v1, v2]).run P w = .ok v w') (h : wpList P ops Q rest (a.put op.dst v) w') : wpList P ops Q (op :: rest) a w :=
  wpList_plain hgd fun _ hK => oper_append s x t ho v1 v2 v hs hx hr (hK _ _ h)
theorem wpList_store_blkP {P : Program} {ops : Array Oper} {rest : List Oper} {op : Oper} {a : Act} {w : World} {Q : Exit → Act → World → Prop} (hgd : op.guard = none) (ty : TypeId) (x y : Operand) (ho : op.op = .store ty x y) (p : Nat) (c c' : Array Value) (t : TypeId) (hx : a.eval x = .pointer (some ⟨p, 0, none⟩)) (hy : a.eval y = .agg c') (hg : w.heap[p]? = some (.cells c t (0, 0)))
    (hi : (P.info? ty).map (·.size) = some c'.size) (hc : c.size = c'.size) (h1 : c'.all (·.oneCell') = true)
    (h : ∀ w', w'.heap[p]? = some (.cells c' t (0, 0)) → w.grownBy w' (some p) → w'.heap.size = w.heap.size → wpList P ops Q rest (a.put op.dst undef) w') : wpList P ops Q (op :: rest) a w :=
  wpList_plain hgd fun _ hK => oper_store_blk ty x y ho p c c' t hx hy hg hi hc h1 (fun w' h1 h2 h3 => hK _ _ (h w' h1 h2 h3))
theorem nmCells_one (l : List Nm) : ∀ u ∈ nmCells l, u.oneCell' = true := by
  intro u hu
  rw [nmCells, List.mem_flatMap] at hu
  obtain ⟨a, _, h⟩ := hu
  simp only [List.mem_cons, List.not_mem_nil, or_false] at h
  rcases h with rfl | rfl <;> rfl
theorem regStep_true {day : Int} {R : RegV} {e : EvV} (h1 : e.x.n.day ≤ day) (h2 : effB R e = true) : regStep day R e = effR R e := by simp [regStep, h1, h2]
theorem regStep_false {day : Int} {R : RegV} {e : EvV} (h1 : e.x.n.day ≤ day) (h2 : effB R e = false) : regStep day R e = { R with cs := R.cs ++ [e.nm] } := by simp [regStep, h1, h2]
theorem effR_false {R : RegV} {e : EvV} (h2 : effB R e = false) : effR R e = R := by simp [effR, h2]
theorem regStep_late {day : Int} {R : RegV} {e : EvV} (h1 : ¬ e.x.n.day ≤ day) : regStep day R e = R := by simp [regStep, h1]

def RegEnd (w : World) (day : Int) (f J : Nm → Option LN) (vs : List Nm) (e : Ending) (w' : World) : Prop :=
  ∃ (R : RegV) (ha : Option Addr) (hc : Nat) (ea : Option Addr) (ec : Nat) (ca : Option Addr) (cc : Nat) (xs : List LN) (ks : List Nm), e = .returned (.agg #[.slice ha R.hs.length hc, .slice ea R.es.length ec, .slice ca R.cs.length cc]) ∧
    w'.ownsRow w.heap.size 210 21 (.slice ha R.hs.length hc) R.hs.length (evCells R.hs) ∧ w'.ownsRow w.heap.size 210 21 (.slice ea R.es.length ec) R.es.length (evCells R.es) ∧ w'.ownsRow w.heap.size 45 2 (.slice ca R.cs.length cc) R.cs.length (nmCells R.cs) ∧
    EvOwn w' w.heap.size xs ∧ ks.Nodup ∧ AllIn f ks ∧ (xs.map LN.n).Perm (ks.filterMap (evN f J)) ∧ xs.Pairwise (fun x y => whenLt y x = false) ∧
    R.hs = (regOf day (xs.map evOf)).hs ∧ R.es = (regOf day (xs.map evOf)).es ∧ R.cs.Perm ((regOf day (xs.map evOf)).cs ++ vs) ∧ R.cs.Pairwise (fun x y => nmLt y x = false)
set_option maxHeartbeats 8000000 in
set_option maxRecDepth 100000 in
theorem register_any (pB bS bJ n m : Nat) (va : Option Addr) (vc : Nat) (vs : List Nm) (f J : Nm → Option LN) (day : Int) (w : World)
    (hb : benchAt w pB bS bJ va vs.length vc) (hm : MapF LN.val w bS n f) (hj : MapF LN.val w bJ m J) (hfo : FOk f) (hjf : ∀ a x, J a = some x → ∃ k, f k = some x)
    (hrd : ∀ a x, f a = some x → x.ok w ∧ x.n.strokes.length ≤ 1000000) (hn : n ≤ 1000) (hv : RdA w 2 va vs.length vc (nmCells vs)) (hk : ∀ k y, evN f J k = some y → 1 ≤ y.kind ∧ y.kind ≤ 4)
    (hcnt : ∀ ks : List Nm, ks.Nodup → AllIn f ks → (ks.filterMap (evN f J)).length + vs.length ≤ 1000) :
    Calls Tryz.prog 152 #[.pointer (some ⟨pB, 0, none⟩), .int .i64 day] w fun e w' => RegEnd w day f J vs e w' ∧ Below w.heap.size w w' := by
  have HB := Lib.hid hb; clear hb
  have HM := Lib.hid hm; clear hm
  have HJ := Lib.hid hj; clear hj
  have FO := Lib.hid hfo; clear hfo
  have JF := Lib.hid hjf; clear hjf
  have RD := Lib.hid hrd; clear hrd
  have HV := Lib.hid hv; clear hv
  have HK := Lib.hid hk; clear hk
  have HC := Lib.hid hcnt; clear hcnt
  refine (callsIn_wide (n := 4)).1 ?_
  refine callsIn_of_wp_marks Tryz.func152 rfl trivial ?_
  simp only [Tryz.ntmps152, List.size_toArray, List.length_cons, List.length_nil, Nat.reduceAdd, Nat.reduceSub, Array.replicate_succ, Array.replicate_zero, List.push_toArray, List.append_toArray, List.nil_append, List.cons_append]
  refine wpIn_wide.2 ?_
  go_upto_region 2 with fail
  have B0 := Lib.hid (((((Below.refl w.heap.size w).alloc (Nat.le_refl _) (.cells #[.int .i64 day] 3)).alloc (by simp) (.cells #[.slice none 0 0, .slice none 0 0, .slice none 0 0] 77)).alloc (by simp; omega) (.cells #[.slice none 0 0, .slice none 0 0, .slice none 0 0] 77)))
  have D0 := Lib.hid (heap_before _ (.cells #[.slice none 0 0, .slice none 0 0, .slice none 0 0] 77) _ _ (heap_before _ (.cells #[.slice none 0 0, .slice none 0 0, .slice none 0 0] 77) _ _ (heap_last w (.cells #[.int .i64 day] 3))))
  have P0 := Lib.hid (heap_before _ (.cells #[.slice none 0 0, .slice none 0 0, .slice none 0 0] 77) _ _ (heap_at (w.alloc (.cells #[.int .i64 day] 3)) (.cells #[.slice none 0 0, .slice none 0 0, .slice none 0 0] 77) (w.heap.size + 1) (by simp)))
  have Q0 := Lib.hid (heap_at ((w.alloc (.cells #[.int .i64 day] 3)).alloc (.cells #[.slice none 0 0, .slice none 0 0, .slice none 0 0] 77)) (.cells #[.slice none 0 0, .slice none 0 0, .slice none 0 0] 77) (w.heap.size + 1 + 1) (by simp))
  obtain ⟨pD, hpD⟩ : ∃ pD, Hid (w.heap.size = pD) := ⟨_, Lib.hid rfl⟩
  obtain ⟨pR, hpR⟩ : ∃ pR, Hid (w.heap.size + 1 = pR) := ⟨_, Lib.hid rfl⟩
  obtain ⟨p, hp⟩ : ∃ p, Hid (w.heap.size + 1 + 1 = p) := ⟨_, Lib.hid rfl⟩
  rw [hp.out, hpR.out, hpD.out]
  rw [hpD.out] at D0
  rw [hpR.out] at P0
  rw [hp.out] at Q0
  generalize ((w.alloc (.cells #[.int .i64 day] 3)).alloc (.cells #[.slice none 0 0, .slice none 0 0, .slice none 0 0] 77)).alloc (.cells #[.slice none 0 0, .slice none 0 0, .slice none 0 0] 77) = w0 at *
  go_upto_region 3 with (first
    | (go_at_call 192
       refine (effects_any _).mono ?_
       rintro e w1 ⟨bT, q, rfl, hT, hb1, hq1, hq2⟩
       have HT := Lib.hid hT
       have HB1 := Lib.hid hb1
       have HQ := Lib.hid (And.intro hq1 hq2)
       clear hT hb1 hq1 hq2
       dsimp only)
    | fail)
  have B1 := Lib.hid (B0.out.trans (HB1.out.mono B0.out.size))
  have hal := (Below.refl w1.heap.size w1).alloc (Nat.le_refl _) (.cells #[.map (some bT)] 245)
  have T2 := Lib.hid (heap_last w1 (.cells #[.map (some bT)] 245))
  have B2 := Lib.hid (B1.out.trans (hal.mono B1.out.size))
  have HT2 := Lib.hid (HT.out.below hal)
  have D2 := Lib.hid (below_blk hal (below_blk HB1.out D0.out))
  have P2 := Lib.hid (below_blk hal (below_blk HB1.out P0.out))
  have Q2 := Lib.hid (below_blk hal (below_blk HB1.out Q0.out))
  clear hal HT B1 HB1 D0 P0 Q0 B0 HQ
  obtain ⟨pT, hpT⟩ : ∃ pT, Hid (w1.heap.size = pT) := ⟨_, Lib.hid rfl⟩
  rw [hpT.out] at T2 ⊢
  generalize w1.alloc (.cells #[.map (some bT)] 245) = w2 at *
  go_wp2_with (first
    | (go_at_call 193
       refine (events_any pB bS bJ n m va vs.length vc f J w2 (below_blk B2.out HB.out) (HM.out.below B2.out) (HJ.out.below B2.out) FO.out JF.out (fun a x h => ⟨(RD.out a x h).1.below B2.out, (RD.out a x h).2⟩) hn).mono ?_
       rintro e w3 ⟨⟨pL, a, c, xs, ks, rfl, h1, h2, h3, h4, h5, h6, h7, h8⟩, hb3⟩
       have HL := Lib.hid h1
       have HO := Lib.hid h2
       have HE := Lib.hid h3
       have HKS := Lib.hid (And.intro h4 (And.intro h5 (And.intro h6 h7)))
       have HPL := Lib.hid h8
       have B3 := Lib.hid hb3
       clear h1 h2 h3 h4 h5 h6 h7 h8 hb3
       dsimp only)
    | fail)
  have T3 := Lib.hid (below_blk B3.out T2.out)
  have D3 := Lib.hid (below_blk B3.out D2.out)
  have P3 := Lib.hid (below_blk B3.out P2.out)
  have Q3 := Lib.hid (below_blk B3.out Q2.out)
  have HT3 := Lib.hid (HT2.out.below B3.out)
  have B4 := Lib.hid (B2.out.trans (B3.out.mono B2.out.size))
  have HW2 : Hid (w.heap.size ≤ w2.heap.size) := Lib.hid B2.out.size
  have ENV : Hid (EvEnv w3 p pL w2.heap.size a c xs) := Lib.hid ⟨Q3.out, HL.out, HO.out⟩
  have NT : Hid (pT ≠ p) := Lib.hid (fun e => by have h1 := T3.out; rw [e, Q3.out] at h1; simp at h1)
  have ND : Hid (pD ≠ p) := Lib.hid (fun e => by have h1 := D3.out; rw [e, Q3.out] at h1; simp at h1)
  have NB : Hid (bT ≠ p) := Lib.hid (fun e => by obtain ⟨es, clock, h1, _⟩ := HT3.out.2; rw [e, Q3.out] at h1; simp at h1)
  have NQ : Hid (q ≠ p) := Lib.hid (fun e => by have h1 := HT3.out.1; rw [e, Q3.out] at h1; simp at h1)
  have NR : Hid (pR ≠ p) := Lib.hid (by have := hpR.out; have := hp.out; omega)
  have HKD : Hid (∀ x ∈ xs, 1 ≤ x.n.kind ∧ x.n.kind ≤ 4) := Lib.hid (fun x hx => by
    have h1 := HKS.out.2.2.1.subset (List.mem_map_of_mem (f := LN.n) hx)
    obtain ⟨k, _, h2⟩ := List.mem_filterMap.1 h1
    exact HK.out k x.n h2)
  have HLEN : Hid (xs.length + vs.length ≤ 1000) := Lib.hid (by
    have h1 := HC.out ks HKS.out.1 HKS.out.2.1
    have h2 := HKS.out.2.2.1.length_eq
    rw [List.length_map] at h2
    omega)
  clear T2 D2 P2 Q2 HT2 HL HO B3 HK HC
  refine (wpIn_wide (n := 4)).1 ?_
  refine wp_range_own2 (n := 3) (σ := Nat × LN) (w := w3) (gf := 223) (lb := #[.pointer (some ⟨pL, 0, none⟩)]) rfl (enters_of Tryz.func223 (by kernel_rfl) rfl)
    (fun s => #[.agg (evA (evOf s.2))]) (fun _ => rfl) (AtEv w3 p day xs) (fun s W => RState w3 p (regOf day ((xs.take (s.1 + 1)).map evOf)) W)
    (fun s a₁ W => ∃ pX, a₁ = { tmps := #[.pointer (some ⟨pB, 0, none⟩), .int .i64 day, undef, .pointer (some ⟨pD, 0, none⟩), .pointer (some ⟨pR, 0, none⟩), .pointer (some ⟨p, 0, none⟩), .pointer (some ⟨pT, 0, none⟩), .pointer (some ⟨pX, 0, none⟩), .map (some bT), .pointer (some ⟨pB, 0, none⟩), .func (.func 223) #[] #[.pointer (some ⟨pL, 0, none⟩)], .agg (evA (evOf s.2)), undef, undef, undef, undef, undef, undef, undef, undef, undef, undef, undef, undef, undef, undef, undef, undef, undef, undef, undef, undef, undef, undef, undef, undef, undef, undef, undef, undef, undef, undef, undef, undef, undef, undef], defers := [] } ∧ W.heap[pX]? = some (.cells (evA (evOf s.2)) 210 (0, 0)) ∧ xs[s.1]? = some s.2 ∧ RStateB w3 p (regOf day ((xs.take s.1).map evOf)) pX W)
    (fun W => RState w3 p (regOf day (xs.map evOf)) W) ?hA' ?hB ?hD ?assign ?body ?iter ?done
  case hA' =>
    rintro s a₁ W o ⟨pX, rfl, h1, h3, h4⟩ ⟨r, hr⟩
    refine ⟨pX, rfl, (World.putObj_heap_other (fun e => ?_)).trans h1, h3, h4.putObj o ⟨r, hr⟩⟩
    rw [e, hr] at h1
    simp at h1
  case hB =>
    intro s W o h hl
    exact h.putObj o hl
  case hD =>
    intro W o h hl
    exact h.putObj o hl
  case assign =>
    rintro ⟨k, x⟩ W ⟨h1, h2⟩
    have I21 := Lib.hid (show ∀ (x : EvV), (Tryz.prog.info? 210).map (·.size) = some (evA x).size from fun x => by kernel_rfl)
    have H1 := Lib.hid h1
    have H2 := Lib.hid h2
    clear h1 h2
    dsimp only
    have hb5 : Below W.heap.size W (W.alloc (.cells (evA (evOf x)) 210)) := (Below.refl W.heap.size W).alloc (Nat.le_refl _) _
    have HG := Lib.hid (show KeepsFrom w3.heap.size W (W.alloc (.cells (evA (evOf x)) 210)) ∧ (W.alloc (.cells (evA (evOf x)) 210)).heap[W.heap.size]? = some (.cells (evA (evOf x)) 210 (0, 0)) ∧ xs[k]? = some x ∧ RStateB w3 p (regOf day ((xs.take k).map evOf)) W.heap.size (W.alloc (.cells (evA (evOf x)) 210)) from
      ⟨(keeps_below hb5).from _, heap_last W _, H1.out, H2.out.bound hb5⟩)
    clear hb5 H1 H2
    have hf : ∀ t : Array Value, (#[11].zip #[Value.agg (evA (evOf x))]).foldl (fun t (p, v) => t.setIfInBounds p v) t = t.setIfInBounds 11 (.agg (evA (evOf x))) := fun t => by simp
    rw [hf]
    simp only [List.setIfInBounds_toArray, List.set_cons_succ, List.set_cons_zero]
    clear hf
    refine wpIn_region_plain (wide_round _) (not_lets (fun a w h => h)) ?hnd ?_
    case hnd => rfl
    refine wpList_alloc_ev rfl rfl ?_
    refine wpList_store_newp W rfl 210 _ _ rfl W.heap.size rfl (evA zeroEv) (evA (evOf x)) rfl rfl (I21.out _) rfl (evA_all _) ?_
    exact ⟨HG.out.1, W.heap.size, rfl, HG.out.2⟩
  case body =>
    rintro ⟨k, x⟩ a₁ W ⟨pX, rfl, hX, h1, h2⟩
    have I21 := Lib.hid (show ∀ (x : EvV), (Tryz.prog.info? 210).map (·.size) = some (evA x).size from fun x => by kernel_rfl)
    have HX := Lib.hid hX
    have H1 := Lib.hid (show xs[k]? = some x from h1)
    have H2 := Lib.hid (show RStateB w3 p (regOf day ((xs.take k).map evOf)) pX W from h2)
    clear hX h1 h2
    have HNX := Lib.hid (regOf_next day xs k x H1.out)
    have HL1 : Hid ((regOf day ((xs.take k).map evOf)).hs.length + (regOf day ((xs.take k).map evOf)).es.length + (regOf day ((xs.take k).map evOf)).cs.length ≤ 1000) := Lib.hid (by
      have h1 := regOf_len day ((xs.take k).map evOf)
      have h2 := HLEN.out
      rw [List.length_map, List.length_take] at h1
      omega)
    dsimp only
    rw [HNX.out]
    generalize regOf day ((xs.take k).map evOf) = R at *
    have hS := H2.out.same
    obtain ⟨ha, hc, ea, ec, ca, cc, hRA, htop⟩ := H2.out.reg
    have HRA := Lib.hid hRA
    have HTOP := Lib.hid htop
    clear hRA htop
    obtain ⟨g, lb, hlk, hfn, hcall⟩ := table_call (e := evOf x) (H2.out.st.table HT3.out NB.out NQ.out) HRA.out hS.size (by have := HL1.out; omega) (by have := HL1.out; omega) (HKD.out x (List.mem_of_getElem? H1.out))
    have c5 := cell_of HX.out 5 (.int .i64 x.n.day) rfl
    have c6 := cell_of HX.out 6 (.int .i64 x.n.kind) rfl
    have cT := cell_of (H2.out.st.blk T3.out NT.out) 0 (.map (some bT)) rfl
    have cD := cell_of (H2.out.st.blk D3.out ND.out) 0 (.int .i64 day) rfl
    have HCL := Lib.hid hcall
    have HSm := Lib.hid hS
    clear hcall hS
    replace hlk : (Instr.lookup 245 (.map (some bT)) (.int .i64 x.n.kind) false).run Tryz.prog W = .ok (.func (.func g) #[] lb) W := hlk
    apply wpIn_block
    apply wpIn_seq_k
    intro K1 hK1
    refine wpIn_region_plain (wide_round _) (not_lets (fun a w h => h)) ?hnd ?_
    case hnd => rfl
    by_cases hd : x.n.day ≤ day
    · have t0 : decide (x.n.day ≤ day) = true := by simp [hd]
      have HD := Lib.hid hd; clear hd
      go_wp2_with (first
        | (refine wpList_load_rowG ?hw 210 _ rfl pX rfl 210 (evA (evOf x)) (0, 0) _ HX.out Tryz.underlying210 rfl (I21.out _) ?_; case hw => rfl)
        | fail)
      refine HCL.out.mono ?_
      intro r W5 he
      have S5 := Lib.hid (RState.eff HSm.out HRA.out he)
      have KP := Lib.hid he.2.2.2
      have HX5 : Hid (W5.heap[pX]? = some (.cells (evA (evOf x)) 210 (0, 0))) := Lib.hid ((he.2.2.1.block pX (Array.getElem?_eq_some_iff.1 HX.out).1 (fun e => absurd (HTOP.out pX e) (Nat.lt_irrefl _))).trans HX.out)
      obtain ⟨rfl, -, -, -⟩ := he
      clear HCL hlk hfn c5 c6 cT cD t0
      obtain ⟨bv, hbv⟩ : ∃ bv, effB R (evOf x) = bv := ⟨_, rfl⟩
      have HBV := Lib.hid hbv
      rw [hbv]
      clear hbv
      dsimp only
      cases bv with
      | true =>
        go_wp2_with fail
        gi_wp2_with fail
        exact ⟨KP.out.from _, by show RState _ _ (regStep day R (evOf x)) _; rw [regStep_true HD.out HBV.out]; exact S5.out⟩
      | false =>
        have S6 := Lib.hid (show RState w3 p R W5 by have := S5.out; rwa [effR_false HBV.out] at this)
        clear S5 HRA HTOP
        obtain ⟨ha, hc, ea, ec, ca, cc, hRA⟩ := S6.out.reg
        have HRA := Lib.hid hRA
        clear hRA
        go_wp2_with fail
        refine wpIn_cond (t := true) rfl ?_
        rw [if_pos rfl]
        refine wpIn_region_plain (wide_round _) (not_lets (fun a w h => h)) ?hnd ?_
        case hnd => rfl
        have bn : Below W5.heap.size W5 (W5.alloc (.cells #[.int .i64 x.n.house, .int .i64 x.n.num] 45)) := (Below.refl _ _).alloc (Nat.le_refl _) _
        have hRB := HRA.out.below bn
        obtain ⟨a', c', v9, hrun, ho, hg⟩ := run_app_nm (W5.alloc (.cells #[.int .i64 x.n.house, .int .i64 x.n.num] 45)) w3.heap.size ca R.cs.length cc _ hRB.cown _ 1 1 _ (lit_rd W5 (.int .i64 x.n.house) (.int .i64 x.n.num)) (by simp [Value.oneCell']) (by have := HL1.out; omega) (Nat.le_trans S6.out.size bn.size)
        have hN := hRB.addC (ns := [(evOf x).nm]) ho hg
        have CL3 := grown_blk hg hRB.blk (own_no hRB.cown hRB.blk (by intro cur; simp))
        have hcl3 := cell_of CL3 2 (.slice ca R.cs.length cc) rfl
        have hfz := frozen_of CL3 2
        have HFIN : Hid (KeepsFrom w3.heap.size W (v9.setCell ⟨p, 2, none⟩ (.slice a' (R.cs.length + 1) c')) ∧ RState w3 p (regStep day R (evOf x)) (v9.setCell ⟨p, 2, none⟩ (.slice a' (R.cs.length + 1) c'))) := Lib.hid (by
          refine ⟨((KP.out.trans (keeps_below bn)).trans (keeps_reg hRB.blk hRB.cown hN.2)).from _, ?_⟩
          rw [regStep_false HD.out HBV.out]
          exact ⟨⟨ha, hc, ea, ec, a', c', hN.1⟩, (S6.out.same.trans (Same.of_below bn)).reg (hN.2.weaken (fun k hk => hk.imp id (fun h => (hRB.cown.lt k h).1)))⟩)
        have hcl := cell_of HRA.out.blk 2 (.slice ca R.cs.length cc) rfl
        have e0 := cell_of HX5.out 0 (.int .i64 x.n.house) rfl
        have e1 := cell_of HX5.out 1 (.int .i64 x.n.num) rfl
        clear bn hRB ho hg hN CL3
        go_wp2_with (first
          | (refine wpList_append_eq rfl _ _ _ rfl _ _ _ rfl rfl hrun ?_)
          | fail)
        exact HFIN.out
    · have t0 : decide (x.n.day ≤ day) = false := by simp [hd]
      have HD := Lib.hid hd; clear hd
      clear hlk hfn
      go_wp2_with fail
      gi_wp2_with fail
      exact ⟨KeepsFrom.refl _ _, by show RState _ _ (regStep day R (evOf x)) _; rw [regStep_late (by have := HD.out; show ¬ x.n.day ≤ day; omega)]; exact H2.out.st⟩
  case iter =>
    intro rec hlr hY
    have hbb := ((Below.refl w3.heap.size w3).alloc (Nat.le_refl _) (.deferred (some []))).alloc (by simp) (.loop (rec .ready none))
    refine evIter 3 w3 p pL w2.heap.size day a c xs ENV.out rec _ ⟨⟨none, 0, none, 0, none, 0, below_blk hbb Q3.out, World.ownsRow_nil _ _ _ _, World.ownsRow_nil _ _ _ _, World.ownsRow_nil _ _ _ _, .inl rfl⟩, Same.of_below hbb⟩ hlr hY
  case done =>
    intro W hW hD0
    dsimp only
    have HW := Lib.hid hW
    have HD0 := Lib.hid hD0
    clear hW hD0
    go_upto_region 7 with fail
    obtain ⟨R, hR⟩ : ∃ R, Hid (regOf day (xs.map evOf) = R) := ⟨_, Lib.hid rfl⟩
    have HCN : Hid (R.cs.length + vs.length ≤ 1000) := Lib.hid (by
      have h1 := regOf_len day (xs.map evOf)
      have h2 := HLEN.out
      rw [List.length_map, hR.out] at h1
      omega)
    rw [hR.out] at HW
    have NPB : Hid (pB ≠ p) := Lib.hid (fun e => by have h1 := below_blk B4.out HB.out; rw [e, Q3.out] at h1; simp at h1)
    have HBW := Lib.hid (HW.out.blk (below_blk B4.out HB.out) NPB.out)
    have HPR := Lib.hid (HW.out.blk P3.out NR.out)
    have BW : Hid (Below w.heap.size w W) := Lib.hid (HW.out.same.below B4.out B4.out.size (fun k hk => by have := hp.out; omega))
    obtain ⟨ha, hc, ea, ec, ca, cc, hRA⟩ := HW.out.reg
    have HRA := Lib.hid hRA
    clear hRA
    refine wp_region_noPanic ?_
    refine wp_region_held_drew (S := fun w' => w'.heap[pB]? = some (.cells #[.map (some bS), .map (some bJ), .slice va vs.length vc] 243 (0, 0))) (by kernel_rfl) (show W.drew.heap[pB]? = _ from HBW.out) (fun hHeld => ?_)
    have bd := (Below.refl W.heap.size W).drew
    have KV := Lib.hid (keeps_below bd)
    have SV := Lib.hid (HW.out.same.trans (Same.of_below bd))
    have RA := Lib.hid (HRA.out.below bd)
    have BV := Lib.hid (BW.out.trans (bd.mono BW.out.size))
    replace HBW := Lib.hid (below_blk bd HBW.out)
    have PRV := Lib.hid (below_blk bd HPR.out)
    clear bd HRA HPR
    generalize W.drew = V at *
    have RV := Lib.hid (HV.out.below BV.out)
    refine wpAnyH_take (i := 0) (v := .pointer (some ⟨p, 2, none⟩)) rfl (by kernel_rfl) (by kernel_rfl) (by kernel_rfl) (fun _ _ _ h => h) (Or.inl ⟨by kernel_rfl, by intro W _; go_simp⟩) (by assumption) ?_
    try simp only [Act.put, lq0, lq1, lq2, lq3, lq4, lq5]
    refine wpAnyH_take (i := 2) (v := .pointer (some ⟨pB, 0, none⟩)) rfl (by kernel_rfl) (by kernel_rfl) (by kernel_rfl) (fun _ _ _ h => h) (Or.inl ⟨by kernel_rfl, by intro W _; go_simp⟩) (by assumption) ?_
    try simp only [Act.put, lq0, lq1, lq2, lq3, lq4, lq5]
    refine wpAnyH_take (i := 3) (v := .pointer (some ⟨pB, 0, none⟩)) rfl (by kernel_rfl) (by kernel_rfl) (by kernel_rfl) (fun _ _ _ h => h) (Or.inl ⟨by kernel_rfl, by intro W _; go_simp⟩) (by assumption) ?_
    try simp only [Act.put, lq0, lq1, lq2, lq3, lq4, lq5]
    refine wpAnyH_take (i := 4) (v := .pointer (some ⟨pB, 2, none⟩)) rfl (by kernel_rfl) (by kernel_rfl) (by kernel_rfl) (fun _ _ _ h => h) (Or.inl ⟨by kernel_rfl, by intro W _; go_simp⟩) (by assumption) ?_
    try simp only [Act.put, lq0, lq1, lq2, lq3, lq4, lq5]
    refine wpAnyH_take (i := 5) (v := .slice va vs.length vc) rfl (by kernel_rfl) (by kernel_rfl) (by kernel_rfl) (fun _ _ _ h => h) (Or.inl ⟨by kernel_rfl, by intro W h; have hc := cell_of h 2 (.slice va vs.length vc) rfl; go_simp⟩) (by assumption) ?_
    try simp only [Act.put, lq0, lq1, lq2, lq3, lq4, lq5]
    refine wpAnyH_ready (rs := [1]) (by kernel_rfl) (by simp) ?_
    refine AllReadyH.cons rfl (fun K hK => ?_) AllReadyH.nil
    have hcl := cell_of RA.out.blk 2 (.slice ca R.cs.length cc) rfl
    go_simp
    clear hcl
    refine hK.out _ _ HBW.out (fun hHeld => ?_)
    clear hK K
    try simp only [Act.put, lq0, lq1, lq2, lq3, lq4, lq5]
    refine wpAnyH_ready (rs := [6]) (by kernel_rfl) (by simp) ?_
    refine AllReadyH.cons rfl (fun K hK => ?_) AllReadyH.nil
    obtain ⟨a', c', v9, hrun, ho, hg⟩ := run_app_nm _ w3.heap.size ca R.cs.length cc _ RA.out.cown va vs.length vc _ RV.out (nmCells_one vs) (by have := HCN.out; omega) SV.out.size
    have HN := Lib.hid (RA.out.addC (ns := vs) ho hg)
    have CL3 := Lib.hid (grown_blk hg RA.out.blk (own_no RA.out.cown RA.out.blk (by intro cur; simp)))
    replace HBW : Hid (v9.heap[pB]? = some (.cells #[.map (some bS), .map (some bJ), .slice va vs.length vc] 243 (0, 0))) := Lib.hid (grown_blk hg HBW.out (own_no RA.out.cown HBW.out (by intro cur; simp)))
    clear ho hg
    rw [if_pos (by kernel_rfl)]
    refine oper_append _ _ _ rfl _ _ _ rfl rfl hrun ?_
    clear hrun
    refine hK.out _ _ HBW.out (fun hHeld => ?_)
    clear hK K
    try simp only [Act.put, lq0, lq1, lq2, lq3, lq4, lq5]
    refine wpAnyH_take (i := 7) (v := .pointer (some ⟨p, 2, none⟩)) rfl (by kernel_rfl) (by kernel_rfl) (by kernel_rfl) (fun _ _ _ h => h) (Or.inl ⟨by kernel_rfl, by intro W _; go_simp⟩) (by assumption) ?_
    try simp only [Act.put, lq0, lq1, lq2, lq3, lq4, lq5]
    refine wpAnyH_ready (rs := [8]) (by kernel_rfl) (by simp) ?_
    refine AllReadyH.cons rfl (fun K hK => ?_) AllReadyH.nil
    have hcl := cell_of CL3.out 2 (.slice ca R.cs.length cc) rfl
    have hfz := frozen_of CL3.out 2
    have h5 : some pB ≠ some p := fun e2 => by
      have h1 := HBW.out
      rw [Option.some.inj e2, CL3.out] at h1
      simp at h1
    replace HBW := Lib.hid (grown_blk (setCell_grown v9 p 2 (.slice a' (R.cs.length + vs.length) c')) HBW.out h5)
    go_simp
    refine hK.out _ _ HBW.out (fun hHeld => ?_)
    clear hK K
    try simp only [Act.put, lq0, lq1, lq2, lq3, lq4, lq5]
    refine wpAnyH_done (by kernel_rfl) ?_ _
    refine NoPanic.normal ?_
    clear hcl hfz h5 CL3 RV
    generalize v9.setCell ⟨p, 2, none⟩ (.slice a' (R.cs.length + vs.length) c') = V9 at *
    have HP9 : Hid (V9.heap[p]? = some (.cells #[.slice ha R.hs.length hc, .slice ea R.es.length ec, .slice a' (R.cs.length + vs.length) c'] 77 (0, 0))) := Lib.hid (by have := HN.out.1.blk; rwa [List.length_append] at this)
    have HC9 : Hid (V9.ownsRow w3.heap.size 45 2 (.slice a' (R.cs.length + vs.length) c') (R.cs.length + vs.length) (((R.cs ++ vs).map nmRow).flatten)) := Lib.hid (by have := HN.out.1.cown; rwa [List.length_append, nmCells_eq] at this)
    have HPR9 := Lib.hid ((HN.out.2.block pR (blk_lt PRV.out) (fun e => e.elim (fun e => NR.out e) (fun e => own_no RA.out.cown PRV.out (by intro cur; simp) e.symm))).trans PRV.out)
    have c92 := cell_of HP9.out 2 (.slice a' (R.cs.length + vs.length) c') rfl
    go_wp2_with (first
      | (go_at_call 170
         refine (sortName_all (V := Nm) ord_nm nmRow (fun _ => rfl) (fun x v hv => by simp only [nmRow, List.mem_cons, List.not_mem_nil, or_false] at hv; rcases hv with rfl | rfl <;> rfl) (fun x y => namesC x.1 x.2 y.1 y.2) (fun _ _ => rfl) 124 nmCmp_fn nmCmp w3.heap.size (R.cs.length + vs.length) c' a' (R.cs ++ vs) _ HC9.out (by simp) (by have := HCN.out; omega)).mono ?_
         rintro e w10 ⟨rfl, zs, hz1, hz2, hz3, hz4⟩
         have Z1 := Lib.hid hz1
         have Z2 := Lib.hid hz2
         have Z3 := Lib.hid hz3
         have Z4 := Lib.hid hz4
         have HP10 : Hid (w10.heap[p]? = some (.cells #[.slice ha R.hs.length hc, .slice ea R.es.length ec, .slice a' (R.cs.length + vs.length) c'] 77 (0, 0))) := Lib.hid ((hz4.block p (blk_lt HP9.out) (fun e => own_no HC9.out HP9.out (by intro cur; simp) e.symm)).trans HP9.out)
         have HPRX := Lib.hid ((hz4.block pR (blk_lt HPR9.out) (fun e => own_no HC9.out HPR9.out (by intro cur; simp) e.symm)).trans HPR9.out)
         clear hz1 hz2 hz3 hz4 c92
         dsimp only)
      | (refine wpList_load_row rfl 77 _ rfl p rfl 77 #[.slice ha R.hs.length hc, .slice ea R.es.length ec, .slice a' (R.cs.length + vs.length) c'] (0, 0) _ HP10.out Tryz.underlying77 rfl (by kernel_rfl) ?_)
      | (refine wpList_store_blkP rfl 77 _ _ rfl pR #[.slice none 0 0, .slice none 0 0, .slice none 0 0] #[.slice ha R.hs.length hc, .slice ea R.es.length ec, .slice a' (R.cs.length + vs.length) c'] 77 rfl rfl HPRX.out (by kernel_rfl) rfl (by simp [Value.oneCell']) ?_; intro w11 hr1 hr2 hr3)
      | fail)
    have H11 := Lib.hid hr1
    have KS : KeepsOthers V9 w10 := ⟨Z4.out.size, fun k o hk ho => (Z4.out.block k (Array.getElem?_eq_some_iff.1 hk).1 (fun e => by have := own_cells HC9.out e hk; rw [this] at ho; cases ho)).trans hk⟩
    have HD10 := (((KV.out.trans (keeps_reg RA.out.blk RA.out.cown HN.out.2)).trans KS).same _ _ HD0.out rfl)
    have HD11 := Lib.hid (grown_blk hr2 HD10 (fun e => by rw [Option.some.inj e, HPRX.out] at HD10; simp at HD10))
    clear KS HD10
    have KEEP : ∀ {b e k n : Nat} {v : Value} {ys : List Value}, e ≠ 45 → e ≠ 77 → V.ownsRow b e k v n ys → (w11.putObj w3.heap.size (.deferred none)).ownsRow b e k v n ys := by
      intro b e k n v ys hn1 hn2 h
      have h1 := own_keep h HN.out.2 (fun j hj hs => hs.elim (fun e2 => own_no h RA.out.blk (fun cur hh => hn2 (by injection hh with _ h4 _; exact h4.symm)) (hj.trans (congrArg some e2)).symm) (fun h2 => (own_apart h RA.out.cown hn1).elim (fun h3 => by rw [h3] at hj; cases hj) (fun h3 => h3 (hj.trans h2.symm))))
      have h2 := own_keep h1 Z4.out (fun j hj hs => (own_apart h1 HC9.out hn1).elim (fun h3 => by rw [h3] at hj; cases hj) (fun h3 => h3 (hj.trans hs.symm)))
      have h3 := h2.kept hr2 (.inr (own_no h2 HPRX.out (fun cur hh => hn2 (by injection hh with _ h4 _; exact h4.symm))).symm)
      exact ownsRow_putObj h3 _ HD11.out rfl
    have hzl : zs.length = R.cs.length + vs.length := by rw [Z2.out.length_eq, List.length_append]
    have hcs : (w11.putObj w3.heap.size (.deferred none)).ownsRow w3.heap.size 45 2 (.slice a' zs.length c') zs.length (nmCells zs) := by
      rw [hzl, nmCells_eq]
      exact ownsRow_putObj (Z1.out.kept hr2 (.inr (own_no Z1.out HPRX.out (by intro cur; simp)).symm)) _ HD11.out rfl
    have hpD := hpD.out
    have hb9 := HN.out.2.below BV.out BV.out.size (fun k hk => hk.elim (fun e => by have := hp.out; omega) (fun h => Nat.le_trans B4.out.size (RA.out.cown.lt k h).1))
    have hb10 := Z4.out.below hb9 hb9.size (fun k hk => Nat.le_trans B4.out.size (HC9.out.lt k hk).1)
    have hb11 := hb10.grown hr2 hb10.size (fun k e => by cases e; have := hpR.out; omega)
    have hbz : Below w.heap.size w (w11.putObj w3.heap.size (.deferred none)) := hb11.grown (grownBy_putObj' w11 _ _) hb11.size (fun k e => by cases e; exact B4.out.size)
    have hprz : (w11.putObj w3.heap.size (.deferred none)).heap[pR]? = some (.cells #[.slice ha R.hs.length hc, .slice ea R.es.length ec, .slice a' zs.length c'] 77 (0, 0)) := by
      rw [hzl]
      exact (World.putObj_heap_other (fun e => by have h1 := HD11.out; rw [← e, H11.out] at h1; simp at h1)).trans H11.out
    have hle := B4.out.size
    have h32 := HW2.out
    have FIN := Lib.hid (show RegEnd w day f J vs (.returned (.agg #[.slice ha R.hs.length hc, .slice ea R.es.length ec, .slice a' zs.length c'])) (w11.putObj w3.heap.size (.deferred none)) from
      ⟨⟨R.hs, R.es, zs⟩, ha, hc, ea, ec, a', c', xs, ks, rfl, own_mono (KEEP (by decide) (by decide) RA.out.hown) hle, own_mono (KEEP (by decide) (by decide) RA.out.eown) hle, own_mono hcs hle,
        fun x hx => own_mono (KEEP (by decide) (by decide) (own_keep (HE.out x hx) SV.out (fun j hj e2 => own_no (HE.out x hx) Q3.out (by intro cur; simp) (hj.trans (congrArg some e2)).symm))) h32,
        HKS.out.1, HKS.out.2.1, HKS.out.2.2.1, HKS.out.2.2.2, by rw [hR.out], by rw [hR.out], by rw [hR.out]; exact Z2.out, Z3.out⟩)
    refine ⟨by simp, .inl ⟨_, _, rfl, run_takeDeferred HD11.out, ?_⟩⟩
    refine ⟨.agg #[.slice ha R.hs.length hc, .slice ea R.es.length ec, .slice a' zs.length c'], results_cell_row rfl _ _ pR 77 _ (0, 0) _ rfl hprz Tryz.underlying77 rfl (by kernel_rfl), FIN.out, hbz⟩
end Go.Proofs.YtlnhppgfhkkidaaGreat
namespace Go.Proofs.YtlnhppgfhkkidaaGreat
set_option linter.unusedSimpArgs false
open Go.RowKit

theorem setGo_foldl {k : Nm} {x : LN} : ∀ (xs : List LN) (g : Nm → Option LN), (xs.foldl (fun f x => updF f x.nm x) g) k = some x → (x ∈ xs ∧ x.nm = k) ∨ g k = some x
  | [], _, h => .inr h
  | y :: xs, g, h => by
    rcases setGo_foldl xs _ h with ⟨h1, h2⟩ | h1
    · exact .inl ⟨List.mem_cons_of_mem _ h1, h2⟩
    · simp only [updF] at h1
      split at h1
      · rename_i hk
        cases h1
        exact .inl ⟨List.mem_cons_self .., hk.symm⟩
      · exact .inr h1
theorem setF_some {xs : List LN} {k : Nm} {x : LN} (h : setF xs k = some x) : x ∈ xs ∧ x.nm = k := by
  rcases setGo_foldl xs _ h with h | h
  · exact h
  · cases h
theorem nodup_le {α : Type} [DecidableEq α] : ∀ (l m : List α), l.Nodup → (∀ a ∈ l, a ∈ m) → l.length ≤ m.length
  | [], _, _, _ => Nat.zero_le _
  | a :: l, m, hn, hs => by
    have ha := hs a (List.mem_cons_self ..)
    rw [List.nodup_cons] at hn
    have h1 := nodup_le l (m.erase a) hn.2 (fun b hb => (List.mem_erase_of_ne (fun e => hn.1 (by rw [← e]; exact hb))).2 (hs b (List.mem_cons_of_mem _ hb)))
    have h2 := List.length_erase_of_mem ha
    have h3 : 0 < m.length := List.length_pos_of_mem ha
    simp only [List.length_cons]
    omega
theorem filter_le {xs : List LN} {ks : List Nm} (hn : ks.Nodup) (p : Nm → Bool) (hp : ∀ k, p k = true → (setF xs k).isSome = true) : (ks.filter p).length ≤ xs.length := by
  have h := nodup_le (ks.filter p) (xs.map LN.nm) (hn.sublist List.filter_sublist) (fun a ha => by
    have h1 := hp a (List.mem_filter.1 ha).2
    obtain ⟨x, hx⟩ := Option.isSome_iff_exists.1 h1
    obtain ⟨h2, h3⟩ := setF_some hx
    rw [← h3]
    exact List.mem_map_of_mem h2)
  rwa [List.length_map] at h
theorem vacs_le {xs : List LN} {ks : List Nm} (hn : ks.Nodup) : (vacs (setF xs) ks).length ≤ xs.length := by
  refine filter_le hn _ (fun k hk => ?_)
  cases h : setF xs k with
  | none => simp [h] at hk
  | some x => rfl
theorem filterMap_len {α β : Type} (g : α → Option β) : ∀ l : List α, (l.filterMap g).length = (l.filter (fun a => (g a).isSome)).length
  | [] => rfl
  | a :: l => by
    have := filterMap_len g l
    cases h : g a <;> simp [List.filterMap_cons, List.filter_cons, h, this]
theorem evs_le {xs : List LN} {ks : List Nm} {J : Nm → Option LN} (hn : ks.Nodup) : (ks.filterMap (evN (setF xs) J)).length ≤ xs.length := by
  rw [filterMap_len]
  refine filter_le hn _ (fun k hk => ?_)
  unfold evN at hk
  cases h : setF xs k with
  | none => simp [h] at hk
  | some x => rfl
theorem evN_kind {xs : List LN} {ks : List Nm} {J : Nm → Option LN} (hJ : JudgeOk (setF xs) ks J) (hk : ∀ x ∈ xs, doneB x.n = false → x.n.kind = 6 ∨ (1 ≤ x.n.fix ∧ x.n.fix ≤ 4)) (k : Nm) (y : NoteV) (h : evN (setF xs) J k = some y) : 1 ≤ y.kind ∧ y.kind ≤ 4 := by
  unfold evN at h
  cases h1 : setF xs k with
  | none => simp [h1] at h
  | some x =>
    simp only [h1] at h
    split at h
    · rename_i hd
      cases h2 : J k with
      | none =>
        simp only [h2] at h
        cases h
        simpa [doneB, inB] using hd
      | some j =>
        simp only [h2] at h
        split at h
        · cases h
        · rename_i h6
          cases h
          obtain ⟨⟨k', _, h3⟩, h4, _⟩ := (hJ k).2 j h2
          have hd : doneB j.n = false := by simp only [candB, Bool.and_eq_true] at h4; simpa using h4.1.1
          rcases hk j (setF_some h3).1 hd with h5 | h5
          · exact absurd h5 h6
          · exact h5
    · cases h
theorem RegEnd.mono {w w1 w' : World} {day : Int} {f J : Nm → Option LN} {vs : List Nm} {e : Ending} (h : RegEnd w1 day f J vs e w') (hw : w.heap.size ≤ w1.heap.size) : RegEnd w day f J vs e w' := by
  obtain ⟨R, ha, hc, ea, ec, ca, cc, xs, ks, h1, h2, h3, h4, h5, h6⟩ := h
  exact ⟨R, ha, hc, ea, ec, ca, cc, xs, ks, h1, own_mono h2 hw, own_mono h3 hw, own_mono h4 hw, fun x hx => own_mono (h5 x hx) hw, h6⟩
theorem RegEnd.kept {w w1 w' : World} {day : Int} {f J : Nm → Option LN} {vs : List Nm} {e : Ending} {p : Nat} {A : Array Value} (h : RegEnd w day f J vs e w1) (hp : w1.heap[p]? = some (.cells A 77 (0, 0))) (hg : w1.grownBy w' (some p)) : RegEnd w day f J vs e w' := by
  obtain ⟨R, ha, hc, ea, ec, ca, cc, xs, ks, h1, h2, h3, h4, h5, h6⟩ := h
  exact ⟨R, ha, hc, ea, ec, ca, cc, xs, ks, h1, h2.kept hg (.inr (own_no h2 hp (by intro cur; simp)).symm), h3.kept hg (.inr (own_no h3 hp (by intro cur; simp)).symm), h4.kept hg (.inr (own_no h4 hp (by intro cur; simp)).symm),
    fun x hx => (h5 x hx).kept hg (.inr (own_no (h5 x hx) hp (by intro cur; simp)).symm), h6⟩
theorem ok_grown {W W' : World} {x : LN} {b : Nat} {es : Array MapEntry} {clock : Nat} (h : x.ok W) (hg : W.grownBy W' (some b)) (hb : W.heap[b]? = some (.map es clock)) : x.ok W' := by
  refine ⟨h.1, h.2.1, h.2.2.1, h.2.2.2.imp id ?_⟩
  rintro ⟨b', off, h1, h2⟩
  refine ⟨b', off, h1, fun i v hv => ?_⟩
  have h3 := h2 i v hv
  by_cases he : b' = b
  · subst he
    simp [World.cell?, hb] at h3
  · rw [← h3]
    have hlt : b' < W.heap.size := World.block_lt_of_cell? W _ h3
    simp only [World.cell?, hg.block b' hlt (fun e => he (Option.some.inj e))]
def AsEnd (l : List NoteV) (day : Int) (w : World) (e : Ending) (w' : World) : Prop :=
  ∃ v xs ks J, e = .returned (.tuple #[v, .int .i64 0]) ∧ xs.map LN.n = l ∧ ks.Nodup ∧ AllIn (setF xs) ks ∧ JudgeOk (setF xs) ks J ∧ RegEnd w day (setF xs) J (vacs (setF xs) ks) (.returned v) w'
end Go.Proofs.YtlnhppgfhkkidaaGreat
namespace Go.Proofs.YtlnhppgfhkkidaaGreat
set_option linter.unusedSimpArgs false
set_option linter.unusedVariables false

def nmOf (n : NoteV) : Nm := (n.house, n.num)
def refOf (n : NoteV) : Nm := (n.refH, n.refN)
theorem ln_nm (x : LN) : x.nm = nmOf x.n := rfl
def candP (r x : NoteV) : Bool := !doneB x && (decide (refOf x = nmOf r) && (doneB r && judgesB x r))
def betterP (r : NoteV) (b : Option NoteV) (x : NoteV) : Option NoteV := if candP r x = true then (match b with | none => some x | some y => if knownC y x < 0 then some x else some y) else b
def judgeP (l : List NoteV) (r : NoteV) : Option NoteV := l.foldl (betterP r) none
def countP (l : List NoteV) (r : NoteV) : Option NoteV := if doneB r = true then (match judgeP l r with | none => some r | some j => if j.kind = 6 then none else some (countN r j)) else none
def insP (n : NoteV) : List NoteV → List NoteV
  | [] => [n]
  | y :: ys => if whenC y n < 0 then y :: insP n ys else n :: y :: ys
def sortP (l : List NoteV) : List NoteV := l.foldl (fun out n => insP n out) []
def eventsP (l : List NoteV) : List NoteV := sortP (l.filterMap (countP l))

/-! ### Sets -/
theorem setGo_ok {f : FrV} {l : List NoteV} : ∀ (n k : Nat), (setGo f l n k).1 = 0 → ∀ i, k ≤ i → i < k + n → setAt f l i = none
  | 0, k, _, i, h1, h2 => by omega
  | n + 1, k, h, i, h1, h2 => by
    rw [setGo] at h
    cases he : setAt f l k with
    | some e =>
      rw [he] at h
      simp only at h
      subst h
      exfalso
      unfold setAt at he
      split at he
      · cases he
      · split at he
        · cases he
        · split at he
          · cases he
          · split at he
            · cases he
            · split at he <;> cases he
    | none =>
      rw [he] at h
      rcases Nat.eq_or_lt_of_le h1 with h3 | h3
      · rw [← h3]; exact he
      · exact setGo_ok n (k + 1) h i h3 (by omega)
theorem adj_pairwise {l : List NoteV} (h : ∀ i x y, l[i]? = some x → l[i + 1]? = some y → nmLt (nmOf x) (nmOf y) = true) : l.Pairwise (fun x y => nmLt (nmOf x) (nmOf y) = true) := by
  induction l with
  | nil => exact List.Pairwise.nil
  | cons a l ih =>
    have ih' := ih (fun i x y h1 h2 => h (i + 1) x y h1 h2)
    refine List.pairwise_cons.2 ⟨fun y hy => ?_, ih'⟩
    cases l with
    | nil => cases hy
    | cons b l =>
      have hab := h 0 a b rfl rfl
      rcases List.mem_cons.1 hy with rfl | hy
      · exact hab
      · have hby := (List.pairwise_cons.1 ih').1 y hy
        rw [nmLt_iff] at *
        omega
theorem set_ok {f : FrV} {l : List NoteV} (h : (checkSetP f l).1 = 0) : f.valid = true ∧ l.length ≤ 400 ∧ (∀ x ∈ l, formedB f x = true) ∧ l.Pairwise (fun x y => nmLt (nmOf x) (nmOf y) = true) := by
  unfold checkSetP at h
  split at h
  · cases h
  · rename_i hv
    split at h
    · cases h
    · rename_i hl
      have hg := setGo_ok l.length 0 h
      refine ⟨by simpa using hv, by omega, fun x hx => ?_, adj_pairwise (fun i x y hx hy => ?_)⟩
      · obtain ⟨i, hi⟩ := List.getElem?_of_mem hx
        have h1 := hg i (Nat.zero_le _) (by have := (List.getElem?_eq_some_iff.1 hi).1; omega)
        unfold setAt at h1
        rw [hi] at h1
        simp only at h1
        split at h1
        · cases h1
        · rename_i h2; simpa using h2
      · have h1 := hg (i + 1) (Nat.zero_le _) (by have := (List.getElem?_eq_some_iff.1 hy).1; omega)
        unfold setAt at h1
        rw [hy] at h1
        simp only [Nat.add_sub_cancel, hx] at h1
        split at h1
        · cases h1
        · rw [if_neg (by omega)] at h1
          simp only at h1
          split at h1
          · cases h1
          · rename_i h0
            split at h1
            · cases h1
            · rw [nmLt, decide_eq_true_eq]
              show namesC x.house x.num y.house y.num < 0
              omega
theorem set_nodup {l : List NoteV} (h : l.Pairwise (fun x y => nmLt (nmOf x) (nmOf y) = true)) : (l.map nmOf).Nodup := by
  rw [List.Nodup, List.pairwise_map]
  refine h.imp (fun {x y} hxy e => ?_)
  rw [e] at hxy
  have := (nmLt_iff (nmOf y) (nmOf y)).1 hxy
  omega
theorem nodup_inj {l : List NoteV} (h : (l.map nmOf).Nodup) {x y : NoteV} (hx : x ∈ l) (hy : y ∈ l) (e : nmOf x = nmOf y) : x = y := by
  induction l with
  | nil => cases hx
  | cons a l ih =>
    rw [List.map_cons, List.nodup_cons] at h
    rcases List.mem_cons.1 hx with h1 | h1
    · rcases List.mem_cons.1 hy with h2 | h2
      · rw [h1, h2]
      · exact absurd (by rw [← h1, e]; exact List.mem_map_of_mem h2) h.1
    · rcases List.mem_cons.1 hy with h2 | h2
      · exact absurd (by rw [← h2, ← e]; exact List.mem_map_of_mem h1) h.1
      · exact ih h.2 h1 h2

/-! ### Judges -/
theorem betterP_spec (r : NoteV) : ∀ (l : List NoteV) (b : Option NoteV),
    (l.foldl (betterP r) b = none ↔ b = none ∧ ∀ x ∈ l, candP r x = false) ∧
    ∀ y, l.foldl (betterP r) b = some y → (b = some y ∨ (y ∈ l ∧ candP r y = true)) ∧ (∀ z, b = some z → ¬ knownC y z < 0) ∧ ∀ x ∈ l, candP r x = true → ¬ knownC y x < 0
  | [], b => by
    refine ⟨by simp, fun y hy => ⟨.inl hy, fun z hz => ?_, fun x hx => by cases hx⟩⟩
    rw [List.foldl_nil] at hy
    rw [hy] at hz
    cases hz
    exact knownC_self y
  | x :: l, b => by
    have ih := betterP_spec r l (betterP r b x)
    rw [List.foldl_cons]
    refine ⟨?_, fun y hy => ?_⟩
    · rw [ih.1]
      constructor
      · rintro ⟨h1, h2⟩
        unfold betterP at h1
        split at h1
        · split at h1
          · cases h1
          · split at h1 <;> cases h1
        · rename_i hc
          exact ⟨h1, fun z hz => by rcases List.mem_cons.1 hz with rfl | hz; simpa using hc; exact h2 z hz⟩
      · rintro ⟨rfl, h2⟩
        have hc := h2 x (List.mem_cons_self ..)
        exact ⟨by simp [betterP, hc], fun z hz => h2 z (List.mem_cons_of_mem _ hz)⟩
    · obtain ⟨h1, h2, h3⟩ := ih.2 y hy
      by_cases hc : candP r x = true
      · cases hb : b with
        | none =>
          have e : betterP r b x = some x := by simp [betterP, hc, hb]
          rw [e] at h1 h2
          refine ⟨.inr ?_, (fun z hz => by cases hz), fun z hz hcz => ?_⟩
          · rcases h1 with h1 | h1
            · cases h1; exact ⟨List.mem_cons_self .., hc⟩
            · exact ⟨List.mem_cons_of_mem _ h1.1, h1.2⟩
          · rcases List.mem_cons.1 hz with rfl | hz
            · exact h2 _ rfl
            · exact h3 z hz hcz
        | some u =>
          by_cases hk : knownC u x < 0
          · have e : betterP r b x = some x := by simp [betterP, hc, hb, hk]
            rw [e] at h1 h2
            have hyx := h2 x rfl
            refine ⟨.inr ?_, fun z hz => ?_, fun z hz hcz => ?_⟩
            · rcases h1 with h1 | h1
              · cases h1; exact ⟨List.mem_cons_self .., hc⟩
              · exact ⟨List.mem_cons_of_mem _ h1.1, h1.2⟩
            · cases hz
              rw [knownC_neg] at *
              omega
            · rcases List.mem_cons.1 hz with rfl | hz
              · exact hyx
              · exact h3 z hz hcz
          · have e : betterP r b x = some u := by simp [betterP, hc, hb, hk]
            rw [e] at h1 h2
            have hyu := h2 u rfl
            refine ⟨?_, (fun z hz => by cases hz; exact hyu), fun z hz hcz => ?_⟩
            · rcases h1 with h1 | h1
              · exact .inl h1
              · exact .inr ⟨List.mem_cons_of_mem _ h1.1, h1.2⟩
            · rcases List.mem_cons.1 hz with rfl | hz
              · rw [knownC_neg] at *
                omega
              · exact h3 z hz hcz
      · have e : betterP r b x = b := by simp [betterP, hc]
        rw [e] at h1 h2
        refine ⟨?_, h2, fun z hz hcz => ?_⟩
        · rcases h1 with h1 | h1
          · exact .inl h1
          · exact .inr ⟨List.mem_cons_of_mem _ h1.1, h1.2⟩
        · rcases List.mem_cons.1 hz with rfl | hz
          · exact absurd hcz hc
          · exact h3 z hz hcz
theorem setF_mem {xs : List LN} (hd : ((xs.map LN.n).map nmOf).Nodup) {x : LN} (hx : x ∈ xs) : setF xs x.nm = some x := by
  have h : ∀ (xs : List LN) (g : Nm → Option LN), ((xs.map LN.n).map nmOf).Nodup → x ∈ xs → (xs.foldl (fun f x => updF f x.nm x) g) x.nm = some x := by
    intro xs
    induction xs with
    | nil => intro g _ h; cases h
    | cons a xs ih =>
      intro g hd hx
      rw [List.map_cons, List.map_cons, List.nodup_cons] at hd
      rw [List.foldl_cons]
      rcases List.mem_cons.1 hx with rfl | hx
      · have hk : ∀ (ys : List LN) (g : Nm → Option LN), nmOf x.n ∉ (ys.map LN.n).map nmOf → (ys.foldl (fun f x => updF f x.nm x) g) x.nm = g x.nm := by
          intro ys
          induction ys with
          | nil => intro g _; rfl
          | cons b ys ihy =>
            intro g hn
            rw [List.map_cons, List.map_cons, List.mem_cons, not_or] at hn
            rw [List.foldl_cons, ihy _ hn.2]
            simp [updF, ln_nm, hn.1]
        rw [hk xs _ hd.1]
        simp [updF]
      · exact ih _ hd.2 hx
  exact h xs _ hd hx
theorem setF_iff {xs : List LN} (hd : ((xs.map LN.n).map nmOf).Nodup) (k : Nm) (x : LN) : setF xs k = some x ↔ x ∈ xs ∧ x.nm = k := by
  constructor
  · exact setF_some
  · rintro ⟨h1, rfl⟩; exact setF_mem hd h1
theorem xs_inj {xs : List LN} (hd : ((xs.map LN.n).map nmOf).Nodup) {x y : LN} (hx : x ∈ xs) (hy : y ∈ xs) (e : x.nm = y.nm) : x = y := by
  have h1 := setF_mem hd hx
  rw [e, setF_mem hd hy] at h1
  exact (Option.some.inj h1).symm
theorem xs_nodup {xs : List LN} (hd : ((xs.map LN.n).map nmOf).Nodup) : xs.Nodup := by
  rw [List.map_map] at hd
  have h2 : (xs.map (nmOf ∘ LN.n)).Pairwise (· ≠ ·) := hd
  rw [List.pairwise_map] at h2
  exact h2.imp (fun {x y} h e => h (by rw [e]))
theorem keys_perm {xs : List LN} {ks : List Nm} (hd : ((xs.map LN.n).map nmOf).Nodup) (hk : ks.Nodup) (ha : AllIn (setF xs) ks) : (ks.filterMap (setF xs)).Perm xs := by
  have hn : (ks.filterMap (setF xs)).Nodup := by
    clear ha
    induction ks with
    | nil => exact List.nodup_nil
    | cons k ks ih =>
      rw [List.nodup_cons] at hk
      cases h : setF xs k with
      | none => rw [List.filterMap_cons_none h]; exact ih hk.2
      | some x =>
        rw [List.filterMap_cons_some h, List.nodup_cons]
        refine ⟨fun hx => ?_, ih hk.2⟩
        obtain ⟨k', hk', h'⟩ := List.mem_filterMap.1 hx
        have e1 := (setF_some h).2
        have e2 := (setF_some h').2
        exact hk.1 (by rw [← e1, e2]; exact hk')
  rw [List.perm_ext_iff_of_nodup hn (xs_nodup hd)]
  intro x
  rw [List.mem_filterMap]
  constructor
  · rintro ⟨k, _, h⟩; exact (setF_some h).1
  · intro hx
    have h := setF_mem hd hx
    exact ⟨x.nm, ha _ (by rw [h]; rfl), h⟩
theorem cand_eq {xs : List LN} (hd : ((xs.map LN.n).map nmOf).Nodup) {r : LN} (hr : r ∈ xs) (x : LN) : candB (setF xs) r.nm x = candP r.n x.n := by
  simp only [candB, setF_mem hd hr, candP]
  rw [show refN x = refOf x.n from rfl, ln_nm, Bool.and_assoc]
theorem judge_eq {xs : List LN} {ks : List Nm} {J : Nm → Option LN} (hd : ((xs.map LN.n).map nmOf).Nodup) (ha : AllIn (setF xs) ks) (hJ : JudgeOk (setF xs) ks J) {r : LN} (hr : r ∈ xs) : (J r.nm).map LN.n = judgeP (xs.map LN.n) r.n := by
  obtain ⟨h1, h2⟩ := hJ r.nm
  obtain ⟨s1, s2⟩ := betterP_spec r.n (xs.map LN.n) none
  have hall : ∀ x ∈ xs, ∃ k ∈ ks, setF xs k = some x := fun x hx => ⟨x.nm, ha _ (by rw [setF_mem hd hx]; rfl), setF_mem hd hx⟩
  cases hj : J r.nm with
  | none =>
    symm
    rw [Option.map_none]
    refine s1.2 ⟨rfl, fun n hn => ?_⟩
    obtain ⟨x, hx, rfl⟩ := List.mem_map.1 hn
    obtain ⟨k, hk, hkx⟩ := hall x hx
    rw [← cand_eq hd hr]
    exact h1 hj k hk x hkx
  | some y =>
    obtain ⟨⟨k, hk, hky⟩, hc, hmax⟩ := h2 y hj
    have hy := (setF_some hky).1
    have hcy : candP r.n y.n = true := by rw [← cand_eq hd hr]; exact hc
    cases hp : judgeP (xs.map LN.n) r.n with
    | none =>
      have := (s1.1 hp).2 y.n (List.mem_map_of_mem hy)
      rw [hcy] at this
      cases this
    | some m =>
      obtain ⟨t1, _, t3⟩ := s2 m hp
      rcases t1 with t1 | ⟨tm, tc⟩
      · cases t1
      · obtain ⟨z, hz, rfl⟩ := List.mem_map.1 tm
        obtain ⟨k', hk', hkz⟩ := hall z hz
        have u1 := hmax k' hk' z hkz (by rw [cand_eq hd hr]; exact tc)
        have u2 := t3 y.n (List.mem_map_of_mem hy) hcy
        have e : y = z := by
          refine xs_inj hd hy hz ?_
          rw [knownC_neg] at u1 u2
          show (y.n.house, y.n.num) = (z.n.house, z.n.num)
          rw [Prod.mk.injEq]
          omega
        rw [Option.map_some, e]
theorem filterMap_perm {α β : Type} (g : α → Option β) {l m : List α} (h : l.Perm m) : (l.filterMap g).Perm (m.filterMap g) := h.filterMap g
theorem evs_eq {xs : List LN} {ks ks2 : List Nm} {J : Nm → Option LN} (hd : ((xs.map LN.n).map nmOf).Nodup) (ha : AllIn (setF xs) ks) (hJ : JudgeOk (setF xs) ks J) (hk2 : ks2.Nodup) (ha2 : AllIn (setF xs) ks2) :
    (ks2.filterMap (evN (setF xs) J)).Perm ((xs.map LN.n).filterMap (countP (xs.map LN.n))) := by
  have h1 : ∀ k, evN (setF xs) J k = (setF xs k).bind (fun x => countP (xs.map LN.n) x.n) := by
    intro k
    unfold evN
    cases h : setF xs k with
    | none => rfl
    | some x =>
      obtain ⟨hx, rfl⟩ := setF_some h
      have hj := judge_eq hd ha hJ hx
      simp only [Option.bind_some, countP]
      split
      · cases hJx : J x.nm with
        | none => rw [hJx] at hj; simp only [Option.map_none] at hj; rw [← hj]
        | some j => rw [hJx] at hj; simp only [Option.map_some] at hj; rw [← hj]
      · rfl
  have h2 : ks2.filterMap (evN (setF xs) J) = (ks2.filterMap (setF xs)).filterMap (fun x => countP (xs.map LN.n) x.n) := by
    rw [List.filterMap_filterMap]
    exact congrArg (fun g => ks2.filterMap g) (funext h1)
  rw [h2, List.filterMap_map]
  exact filterMap_perm _ (keys_perm hd hk2 ha2)
end Go.Proofs.YtlnhppgfhkkidaaGreat
namespace Go.Proofs.YtlnhppgfhkkidaaGreat
set_option linter.unusedSimpArgs false
set_option linter.unusedVariables false

theorem whenC_trans {a b c : NoteV} (h1 : ¬ whenC b a < 0) (h2 : ¬ whenC c b < 0) : ¬ whenC c a < 0 := by
  rw [whenC_neg] at *
  omega
theorem whenC_asymm {a b : NoteV} (h1 : whenC a b < 0) : ¬ whenC b a < 0 := by
  rw [whenC_neg] at *
  omega
theorem whenC_eq {a b : NoteV} (h1 : ¬ whenC a b < 0) (h2 : ¬ whenC b a < 0) : nmOf a = nmOf b := by
  rw [whenC_neg] at *
  show (a.house, a.num) = (b.house, b.num)
  rw [Prod.mk.injEq]
  omega
theorem insP_perm (n : NoteV) : ∀ l : List NoteV, (insP n l).Perm (n :: l)
  | [] => List.Perm.refl _
  | y :: ys => by
    unfold insP
    split
    · exact ((insP_perm n ys).cons y).trans (List.Perm.swap ..)
    · exact List.Perm.refl _
theorem insP_sorted {n : NoteV} : ∀ {l : List NoteV}, l.Pairwise (fun x y => ¬ whenC y x < 0) → (insP n l).Pairwise (fun x y => ¬ whenC y x < 0)
  | [], _ => by simp [insP]
  | y :: ys, h => by
    rw [List.pairwise_cons] at h
    unfold insP
    split
    · rename_i hy
      refine List.pairwise_cons.2 ⟨fun z hz => ?_, insP_sorted h.2⟩
      rcases List.mem_cons.1 ((insP_perm n ys).subset hz) with rfl | hz
      · exact whenC_asymm hy
      · exact h.1 z hz
    · rename_i hy
      refine List.pairwise_cons.2 ⟨fun z hz => ?_, List.pairwise_cons.2 h⟩
      rcases List.mem_cons.1 hz with rfl | hz
      · exact hy
      · exact whenC_trans hy (h.1 z hz)
theorem sortGo (l : List NoteV) : ∀ out : List NoteV, (l.foldl (fun out n => insP n out) out).Perm (out ++ l) ∧ (out.Pairwise (fun x y => ¬ whenC y x < 0) → (l.foldl (fun out n => insP n out) out).Pairwise (fun x y => ¬ whenC y x < 0)) := by
  induction l with
  | nil => intro out; exact ⟨by simp, fun h => h⟩
  | cons n l ih =>
    intro out
    rw [List.foldl_cons]
    refine ⟨(ih (insP n out)).1.trans ?_, fun h => (ih (insP n out)).2 (insP_sorted h)⟩
    refine ((insP_perm n out).append_right l).trans ?_
    rw [List.cons_append]
    exact List.perm_middle.symm
theorem sortP_perm (l : List NoteV) : (sortP l).Perm l := (sortGo l []).1
theorem sortP_sorted (l : List NoteV) : (sortP l).Pairwise (fun x y => ¬ whenC y x < 0) := (sortGo l []).2 List.Pairwise.nil
theorem countP_nm {l : List NoteV} {r e : NoteV} (h : countP l r = some e) : nmOf e = nmOf r := by
  unfold countP at h
  split at h
  · split at h
    · cases h; rfl
    · split at h
      · cases h
      · cases h; rfl
  · cases h
theorem count_nodup (l0 : List NoteV) : ∀ l : List NoteV, (l.map nmOf).Nodup → ((l.filterMap (countP l0)).map nmOf).Nodup
  | [], _ => by simp
  | r :: l, h => by
    rw [List.map_cons, List.nodup_cons] at h
    cases hc : countP l0 r with
    | none => rw [List.filterMap_cons_none hc]; exact count_nodup l0 l h.2
    | some e =>
      rw [List.filterMap_cons_some hc, List.map_cons, List.nodup_cons]
      refine ⟨fun hm => ?_, count_nodup l0 l h.2⟩
      obtain ⟨e', he', h2⟩ := List.mem_map.1 hm
      obtain ⟨r', hr', h3⟩ := List.mem_filterMap.1 he'
      refine h.1 ?_
      rw [← countP_nm hc, ← h2, countP_nm h3]
      exact List.mem_map_of_mem hr'
theorem events_eq {l zs : List NoteV} (hd : (l.map nmOf).Nodup) (hp : zs.Perm (l.filterMap (countP l))) (hs : zs.Pairwise (fun x y => ¬ whenC y x < 0)) : zs = eventsP l := by
  refine sorted_unique (lt := fun x y => decide (whenC x y < 0)) (fun x hx y hy h1 h2 => ?_) (hp.trans (sortP_perm _).symm) (hs.imp (by simp)) ((sortP_sorted _).imp (by simp))
  have hn := (hp.map nmOf).nodup_iff.2 (count_nodup l l hd)
  exact nodup_inj hn hx hy (whenC_eq (by simpa using h1) (by simpa using h2))

/-! ### The register -/
structure RegN where
  hs : List NoteV
  es : List NoteV
  cs : List Nm
def effN (R : RegN) (n : NoteV) : Bool := if n.kind = 1 then decide (R.hs.length ≠ 8) else if n.kind = 2 then R.hs.any (fun h => decide (nmOf h = refOf n)) else true
def stepN (day : Int) (R : RegN) (n : NoteV) : RegN := if n.day ≤ day then (if effN R n = true then (if n.kind = 1 then { R with hs := R.hs ++ [n] } else { R with es := R.es ++ [n] }) else { R with cs := R.cs ++ [nmOf n] }) else R
def regN (day : Int) (l : List NoteV) : RegN := (eventsP l).foldl (stepN day) ⟨[], [], []⟩
def idleP (l : List NoteV) (n : NoteV) : Bool := !doneB n && !l.any (fun r => candP r n)
def csN (day : Int) (l : List NoteV) : List Nm := (l.filter (fun n => decide (nmOf n ∈ (regN day l).cs) || idleP l n)).map nmOf
structure RegLike (R : RegV) (N : RegN) : Prop where
  hs : R.hs.map (fun e => e.x.n) = N.hs
  es : R.es.map (fun e => e.x.n) = N.es
  cs : R.cs = N.cs
  nh : ∀ e ∈ R.hs, e.nm = nmOf e.x.n
  ne : ∀ e ∈ R.es, e.nm = nmOf e.x.n
theorem idxI_neg (hs : List EvV) (p : EvV → Bool) : idxI hs p < 0 ↔ hs.any p = false := by
  rw [idxI]
  cases h : hs.findIdx? p with
  | none =>
    rw [List.findIdx?_eq_none_iff] at h
    refine ⟨fun _ => ?_, fun _ => by decide⟩
    rw [List.any_eq_false]
    intro x hx
    rw [h x hx]; simp
  | some i =>
    obtain ⟨h2, h3, _⟩ := List.findIdx?_eq_some_iff_getElem.1 h
    refine ⟨fun h4 => by simp only at h4; omega, fun h4 => ?_⟩
    rw [List.any_eq_false] at h4
    exact absurd h3 (by simpa using h4 _ (List.getElem_mem h2))
theorem any_isNm {hs : List EvV} (h : ∀ e ∈ hs, e.nm = nmOf e.x.n) (a b : Int) : hs.any (isNm a b) = (hs.map (fun e => e.x.n)).any (fun n => decide (nmOf n = (a, b))) := by
  rw [List.any_map]
  induction hs with
  | nil => rfl
  | cons e hs ih =>
    rw [List.any_cons, List.any_cons, ih (fun x hx => h x (List.mem_cons_of_mem _ hx))]
    congr 1
    have he := h e (List.mem_cons_self ..)
    simp only [isNm, Function.comp]
    rw [← he, decide_eq_decide, Prod.ext_iff]
theorem effB_eq {R : RegV} {N : RegN} (h : RegLike R N) (e : EvV) : effB R e = effN N e.x.n := by
  unfold effB effN
  have hl : R.hs.length = N.hs.length := by rw [← h.hs, List.length_map]
  rw [hl]
  split
  · rfl
  · split
    · rw [← h.hs, show refOf e.x.n = (e.x.n.refH, e.x.n.refN) from rfl, ← any_isNm h.nh]
      have := idxI_neg R.hs (isNm e.x.n.refH e.x.n.refN)
      cases hq : R.hs.any (isNm e.x.n.refH e.x.n.refN) with
      | true => rw [hq] at this; simp at this; simp; exact this
      | false => rw [hq] at this; simp at this; simp; exact this
    · rfl
theorem regStep_like {day : Int} {R : RegV} {N : RegN} (h : RegLike R N) (x : LN) : RegLike (regStep day R (evOf x)) (stepN day N x.n) := by
  have he := effB_eq h (evOf x)
  have e1 : (evOf x).x = x := rfl
  rw [e1] at he
  unfold regStep stepN effR
  rw [e1, he]
  split
  · split
    · split
      · exact ⟨by rw [List.map_append, h.hs]; rfl, h.es, h.cs, fun e hm => by
          rcases List.mem_append.1 hm with hm | hm
          · exact h.nh e hm
          · rw [List.mem_singleton] at hm; subst hm; rfl, h.ne⟩
      · exact ⟨h.hs, by rw [List.map_append, h.es]; rfl, h.cs, h.nh, fun e hm => by
          rcases List.mem_append.1 hm with hm | hm
          · exact h.ne e hm
          · rw [List.mem_singleton] at hm; subst hm; rfl⟩
    · exact ⟨h.hs, h.es, by rw [h.cs]; rfl, h.nh, h.ne⟩
  · exact h
theorem regOf_like (day : Int) (xs : List LN) : RegLike (regOf day (xs.map evOf)) ((xs.map LN.n).foldl (stepN day) ⟨[], [], []⟩) := by
  have h : ∀ (xs : List LN) (R : RegV) (N : RegN), RegLike R N → RegLike ((xs.map evOf).foldl (regStep day) R) ((xs.map LN.n).foldl (stepN day) N) := by
    intro xs
    induction xs with
    | nil => intro R N h; exact h
    | cons x xs ih => intro R N h; exact ih _ _ (regStep_like h x)
  exact h xs _ _ ⟨rfl, rfl, rfl, fun e h => (by cases h), fun e h => (by cases h)⟩
theorem mem_regOf {day : Int} {l : List EvV} {e : EvV} (h : e ∈ (regOf day l).hs ++ (regOf day l).es) : e ∈ l := by
  have hg : ∀ (l : List EvV) (R : RegV), e ∈ (l.foldl (regStep day) R).hs ++ (l.foldl (regStep day) R).es → e ∈ l ∨ e ∈ R.hs ++ R.es := by
    intro l
    induction l with
    | nil => intro R h; exact .inr h
    | cons x l ih =>
      intro R h
      rcases ih _ h with h1 | h1
      · exact .inl (List.mem_cons_of_mem _ h1)
      · unfold regStep effR at h1
        split at h1
        · split at h1
          · split at h1
            · rw [List.append_assoc, List.mem_append, List.mem_append, List.mem_singleton] at h1
              rw [List.mem_cons, List.mem_append]
              rcases h1 with h1 | rfl | h1
              · exact .inr (.inl h1)
              · exact .inl (.inl rfl)
              · exact .inr (.inr h1)
            · rw [← List.append_assoc, List.mem_append, List.mem_singleton] at h1
              rcases h1 with h1 | rfl
              · exact .inr h1
              · exact .inl (List.mem_cons_self ..)
          · exact .inr h1
        · exact .inr h1
  rcases hg l _ h with h | h
  · exact h
  · simp at h
/-! ### Conflicts -/
theorem regN_cs_sub (day : Int) : ∀ (l : List NoteV) (N : RegN), ∀ a ∈ (l.foldl (stepN day) N).cs, a ∈ N.cs ∨ a ∈ l.map nmOf
  | [], N, a, h => .inl h
  | n :: l, N, a, h => by
    rw [List.foldl_cons] at h
    rcases regN_cs_sub day l _ a h with h | h
    · unfold stepN at h
      split at h
      · split at h
        · split at h <;> exact .inl h
        · simp only at h
          rw [List.mem_append, List.mem_singleton] at h
          rcases h with h | rfl
          · exact .inl h
          · exact .inr (List.mem_cons_self ..)
      · exact .inl h
    · exact .inr (List.mem_cons_of_mem _ h)
theorem regN_cs_nodup (day : Int) : ∀ (l : List NoteV) (N : RegN), (l.map nmOf).Nodup → N.cs.Nodup → (∀ a ∈ N.cs, a ∉ l.map nmOf) → (l.foldl (stepN day) N).cs.Nodup
  | [], N, _, h, _ => h
  | n :: l, N, hd, h, hx => by
    rw [List.map_cons, List.nodup_cons] at hd
    rw [List.foldl_cons]
    refine regN_cs_nodup day l _ hd.2 ?_ ?_
    · unfold stepN
      split
      · split
        · split <;> exact h
        · simp only
          rw [List.nodup_append]
          refine ⟨h, by simp, fun a ha b hb e => ?_⟩
          rw [List.mem_singleton] at hb
          exact hx a ha (by rw [e, hb]; exact List.mem_cons_self ..)
      · exact h
    · intro a ha hm
      unfold stepN at ha
      have h2 : ∀ a ∈ N.cs, a ∉ l.map nmOf := fun a h1 h3 => hx a h1 (List.mem_cons_of_mem _ h3)
      split at ha
      · split at ha
        · split at ha <;> exact h2 a ha hm
        · simp only at ha
          rw [List.mem_append, List.mem_singleton] at ha
          rcases ha with ha | rfl
          · exact h2 a ha hm
          · exact hd.1 hm
      · exact h2 a ha hm
theorem events_nm {l : List NoteV} {e : NoteV} (h : e ∈ eventsP l) : ∃ r ∈ l, doneB r = true ∧ nmOf e = nmOf r := by
  obtain ⟨r, hr, hc⟩ := List.mem_filterMap.1 ((sortP_perm _).subset h)
  refine ⟨r, hr, ?_, countP_nm hc⟩
  unfold countP at hc
  split at hc
  · assumption
  · cases hc
theorem vac_eq {xs : List LN} (hd : ((xs.map LN.n).map nmOf).Nodup) {x : LN} (hx : x ∈ xs) : vacB (setF xs) x = idleP (xs.map LN.n) x.n := by
  unfold vacB idleP
  cases hdn : doneB x.n with
  | true => rfl
  | false =>
    simp only [Bool.not_false, Bool.true_and]
    rw [List.any_map]
    cases hf : setF xs (refN x) with
    | none =>
      symm
      rw [Bool.not_eq_true', List.any_eq_false]
      intro r hr hc
      simp only [Function.comp, candP, Bool.and_eq_true, decide_eq_true_eq] at hc
      have h1 := setF_mem hd hr
      have h2 : refN x = r.nm := hc.2.1
      rw [h2, h1] at hf
      cases hf
    | some r =>
      obtain ⟨hr, hrn⟩ := setF_some hf
      simp only
      congr 1
      cases hq : (doneB r.n && judgesB x.n r.n) with
      | true =>
        symm
        rw [List.any_eq_true]
        exact ⟨r, hr, by simp only [Function.comp, candP, hdn, hq]; simp; exact hrn.symm⟩
      | false =>
        symm
        rw [List.any_eq_false]
        intro r' hr' hc
        simp only [Function.comp, candP, Bool.and_eq_true, decide_eq_true_eq] at hc
        have e : r' = r := xs_inj hd hr' hr (by rw [hrn]; exact hc.2.1.symm)
        rw [e] at hc
        rw [hc.2.2.1, hc.2.2.2] at hq
        cases hq
theorem vacs_mem {xs : List LN} {ks : List Nm} (hd : ((xs.map LN.n).map nmOf).Nodup) (ha : AllIn (setF xs) ks) (a : Nm) : a ∈ vacs (setF xs) ks ↔ ∃ n ∈ xs.map LN.n, idleP (xs.map LN.n) n = true ∧ nmOf n = a := by
  unfold vacs
  rw [List.mem_filter]
  constructor
  · rintro ⟨_, h⟩
    cases hf : setF xs a with
    | none => rw [hf] at h; cases h
    | some x =>
      rw [hf] at h
      obtain ⟨hx, hn⟩ := setF_some hf
      exact ⟨x.n, List.mem_map_of_mem hx, by rw [← vac_eq hd hx]; exact h, hn⟩
  · rintro ⟨n, hn, hi, rfl⟩
    obtain ⟨x, hx, rfl⟩ := List.mem_map.1 hn
    have hf := setF_mem hd hx
    exact ⟨ha _ (by rw [← ln_nm, hf]; rfl), by rw [← ln_nm, hf]; simp only; rw [vac_eq hd hx]; exact hi⟩
theorem nm_total {x y : Nm} (h1 : nmLt x y = false) (h2 : nmLt y x = false) : x = y := by
  rw [← Bool.not_eq_true, nmLt_iff] at h1 h2
  rw [Prod.ext_iff]
  omega
theorem cs_eq {xs : List LN} {ks cs : List Nm} {day : Int} (hp : (xs.map LN.n).Pairwise (fun x y => nmLt (nmOf x) (nmOf y) = true)) (hk : ks.Nodup) (ha : AllIn (setF xs) ks)
    (hc : cs.Perm ((regN day (xs.map LN.n)).cs ++ vacs (setF xs) ks)) (hs : cs.Pairwise (fun x y => nmLt y x = false)) : cs = csN day (xs.map LN.n) := by
  have hd := set_nodup hp
  generalize hl : xs.map LN.n = l at *
  have hcsub : ∀ a ∈ (regN day l).cs, ∃ r ∈ l, doneB r = true ∧ nmOf r = a := fun a h => by
    rcases regN_cs_sub day _ _ a h with h | h
    · cases h
    · obtain ⟨e, he, rfl⟩ := List.mem_map.1 h
      obtain ⟨r, hr, hd, hn⟩ := events_nm he
      exact ⟨r, hr, hd, hn.symm⟩
  have hvm : ∀ a, a ∈ vacs (setF xs) ks ↔ ∃ n ∈ l, idleP l n = true ∧ nmOf n = a := fun a => by rw [← hl]; exact vacs_mem (by rw [hl]; exact hd) ha a
  have hn1 : ((regN day l).cs ++ vacs (setF xs) ks).Nodup := by
    rw [List.nodup_append]
    refine ⟨regN_cs_nodup day _ _ ?_ List.nodup_nil (fun a h => by cases h), hk.sublist List.filter_sublist, fun a h1 b h2 e => ?_⟩
    · exact ((sortP_perm _).map nmOf).nodup_iff.2 (count_nodup l l hd)
    · subst e
      obtain ⟨r, hr, hdn, hn⟩ := hcsub a h1
      obtain ⟨n, hnl, hi, hna⟩ := (hvm a).1 h2
      have e := nodup_inj hd hr hnl (hn.trans hna.symm)
      rw [e] at hdn
      unfold idleP at hi
      rw [hdn] at hi
      cases hi
  have hn2 : (csN day l).Nodup := (hd.sublist (List.Sublist.map _ List.filter_sublist))
  refine sorted_unique (lt := nmLt) (fun x _ y _ h1 h2 => nm_total h1 h2) (hc.trans ?_) hs ?_
  · rw [List.perm_ext_iff_of_nodup hn1 hn2]
    intro a
    rw [List.mem_append, hvm]
    unfold csN
    rw [List.mem_map]
    constructor
    · rintro (h | ⟨n, hn, hi, rfl⟩)
      · obtain ⟨r, hr, _, rfl⟩ := hcsub a h
        exact ⟨r, List.mem_filter.2 ⟨hr, by simp [h]⟩, rfl⟩
      · exact ⟨n, List.mem_filter.2 ⟨hn, by simp [hi]⟩, rfl⟩
    · rintro ⟨n, hn, rfl⟩
      obtain ⟨hnl, h⟩ := List.mem_filter.1 hn
      rw [Bool.or_eq_true, decide_eq_true_eq] at h
      rcases h with h | h
      · exact .inl h
      · exact .inr ⟨n, hnl, h, rfl⟩
  · unfold csN
    rw [List.pairwise_map]
    refine (hp.sublist List.filter_sublist).imp (fun {x y} h => ?_)
    exact ord_nm.1 _ _ h
def RegMem (w0 w' : World) (v : Value) (R : RegV) : Prop :=
  ∃ (ha : Option Addr) (hc : Nat) (ea : Option Addr) (ec : Nat) (ca : Option Addr) (cc : Nat), v = .agg #[.slice ha R.hs.length hc, .slice ea R.es.length ec, .slice ca R.cs.length cc] ∧
    w'.ownsRow w0.heap.size 210 21 (.slice ha R.hs.length hc) R.hs.length (evCells R.hs) ∧ w'.ownsRow w0.heap.size 210 21 (.slice ea R.es.length ec) R.es.length (evCells R.es) ∧ w'.ownsRow w0.heap.size 45 2 (.slice ca R.cs.length cc) R.cs.length (nmCells R.cs) ∧
    ∀ e ∈ R.hs ++ R.es, w'.ownsRow w0.heap.size 3 1 (.slice e.x.sa e.x.n.strokes.length e.x.sc) e.x.n.strokes.length (e.x.n.strokes.map intV)
theorem asEnd_reg {l : List NoteV} {day : Int} {w w' : World} {e : Ending} (h : AsEnd l day w e w') (hp : l.Pairwise (fun x y => nmLt (nmOf x) (nmOf y) = true)) :
    ∃ v R, e = .returned (.tuple #[v, .int .i64 0]) ∧ RegMem w w' v R ∧ R.hs.map (fun e => e.x.n) = (regN day l).hs ∧ R.es.map (fun e => e.x.n) = (regN day l).es ∧ R.cs = csN day l ∧ ∀ e ∈ R.hs ++ R.es, e.nm = nmOf e.x.n := by
  obtain ⟨v, xs, ks, J, rfl, rfl, hk, ha, hJ, R, hha, hc, ea, ec, ca, cc, ys, ks2, hv, o1, o2, o3, ho, hk2, ha2, hpm, hpw, e1, e2, e3, e4⟩ := h
  have hd := set_nodup hp
  have hys : ys.map LN.n = eventsP (xs.map LN.n) := events_eq hd (hpm.trans (evs_eq hd ha hJ hk2 ha2)) (by
    rw [List.pairwise_map]
    exact hpw.imp (fun {x y} h => by simpa [whenLt] using h))
  have hlk := regOf_like day ys
  rw [hys] at hlk
  have hlk : RegLike (regOf day (ys.map evOf)) (regN day (xs.map LN.n)) := hlk
  refine ⟨v, R, rfl, ⟨hha, hc, ea, ec, ca, cc, by injection hv, o1, o2, o3, fun x hx => ?_⟩, by rw [e1]; exact hlk.hs, by rw [e2]; exact hlk.es, cs_eq hp hk ha (by rw [← hlk.cs]; exact e3) e4, fun x hx => ?_⟩
  · rw [e1, e2] at hx
    obtain ⟨y, hy, rfl⟩ := List.mem_map.1 (mem_regOf hx)
    exact ho y hy
  · rw [e1, e2] at hx
    rcases List.mem_append.1 hx with hx | hx
    · exact hlk.nh x hx
    · exact hlk.ne x hx
end Go.Proofs.YtlnhppgfhkkidaaGreat
namespace Go.Proofs.YtlnhppgfhkkidaaGreat
set_option linter.unusedSimpArgs false
open Go.RowKit

theorem formed_kind {f : FrV} {x : NoteV} (h : formedB f x = true) (hd : doneB x = false) : x.kind = 6 ∨ (1 ≤ x.fix ∧ x.fix ≤ 4) := by
  unfold formedB at h
  rw [Bool.and_eq_true] at h
  have h := h.1
  unfold okB at h
  have hd : ¬ (1 ≤ x.kind ∧ x.kind ≤ 4) := by
    intro h1
    have : doneB x = true := inB_true.2 h1
    rw [hd] at this
    cases this
  split at h
  · exact absurd ⟨by omega, by omega⟩ hd
  · split at h
    · rw [Bool.and_eq_true, Bool.and_eq_true] at h
      exact .inr (inB_true.1 h.2.2)
    · rename_i h2 h5
      left
      unfold saidB at h
      grind
theorem formed_len {f : FrV} {n : NoteV} (hv : f.valid = true) (hf : formedB f n = true) : n.strokes.length ≤ 200 := by
  have hst : n.strokes = [] ∨ strokesB (f.sectors - f.wide) n.strokes = true := by
    rw [formed_well hv] at hf
    simp only [wellB, zero14, bareR, bare0, rightB] at hf
    grind
  rcases hst with e | e
  · rw [e]; simp
  · simp only [strokesB, strokesP, Bool.and_eq_true, decide_eq_true_eq, inB_true] at e
    omega
def upTo (clock : Int) (l : List NoteV) : List NoteV := l.filter (fun x => !decide (clock < x.clock))
theorem upTo_map (clock : Int) (xs : List LN) : (xs.filter (fun x => !decide (clock < x.n.clock))).map LN.n = upTo clock (xs.map LN.n) := by
  unfold upTo
  rw [List.filter_map]
  rfl
theorem upTo_all {clock : Int} {l : List NoteV} (h : ∀ x ∈ l, x.clock ≤ clock) : upTo clock l = l := by
  unfold upTo
  rw [List.filter_eq_self]
  intro x hx
  have := h x hx
  simp
  omega
theorem upTo_sub (clock : Int) (l : List NoteV) : (upTo clock l).Sublist l := List.filter_sublist
theorem setF_filter {xs : List LN} (hd : ((xs.map LN.n).map nmOf).Nodup) (p : LN → Bool) : (fun a => Option.filter p (setF xs a)) = setF (xs.filter p) := by
  funext k
  have hd2 : (((xs.filter p).map LN.n).map nmOf).Nodup := hd.sublist ((List.filter_sublist.map _).map _)
  refine Option.ext fun x => ?_
  rw [setF_iff hd2, List.mem_filter, Option.filter_eq_some_iff, setF_iff hd]
  constructor
  · rintro ⟨⟨h1, h2⟩, h3⟩; exact ⟨⟨h1, h3⟩, h2⟩
  · rintro ⟨⟨h1, h3⟩, h2⟩; exact ⟨⟨h1, h2⟩, h3⟩
def AsAny (f : FrV) (l : List NoteV) (day clock : Int) (w : World) (e : Ending) (w' : World) : Prop :=
  ((checkSetP f l).1 ≠ 0 ∧ e = .returned (.tuple #[.agg #[.slice none 0 0, .slice none 0 0, .slice none 0 0], .int .i64 1])) ∨ ((checkSetP f l).1 = 0 ∧ AsEnd (upTo clock l) day w e w')

set_option maxHeartbeats 8000000 in
set_option maxRecDepth 100000 in
theorem asOf_any (f : FrV) (a : Option Addr) (n c : Nat) (l : List NoteV) (day clock : Int) (w : World) (hr : RdNs w a n c l) (hok : ∀ x ∈ l, x.Ok) :
    Calls Tryz.prog 95 #[f.val, .slice a n c, .int .i64 day, .int .i64 clock] w fun e w' => AsAny f l day clock w e w' ∧ Below w.heap.size w w' := by
  have HR := Lib.hid hr; clear hr
  have HOK := Lib.hid hok; clear hok
  have I3 : ∀ (x y z : Value), (Tryz.prog.info? 77).map (·.size) = some (#[x, y, z] : Array Value).size := fun x y z => by kernel_rfl
  have hmf : ∀ (fn : Fn) (first cap : Array Value) (w : World), (Instr.makeFunc fn first cap).run Tryz.prog w = .ok (.func fn first cap) w := fun _ _ _ _ => rfl
  have B0 := Lib.hid (((((Below.refl w.heap.size w).alloc (Nat.le_refl _) (.cells #[.int .i64 f.rings, .int .i64 f.sectors, .int .i64 f.wide] 23)).alloc (by simp) (.cells #[.int .i64 clock] 3)).alloc (by simp; omega) (.cells #[.slice none 0 0, .slice none 0 0, .slice none 0 0] 77)))
  have F0 := Lib.hid (heap_before _ (.cells #[.slice none 0 0, .slice none 0 0, .slice none 0 0] 77) _ _ (heap_before _ (.cells #[.int .i64 clock] 3) _ _ (heap_last w (.cells #[.int .i64 f.rings, .int .i64 f.sectors, .int .i64 f.wide] 23))))
  have C0 := Lib.hid (heap_before _ (.cells #[.slice none 0 0, .slice none 0 0, .slice none 0 0] 77) _ _ (heap_at (w.alloc (.cells #[.int .i64 f.rings, .int .i64 f.sectors, .int .i64 f.wide] 23)) (.cells #[.int .i64 clock] 3) (w.heap.size + 1) (by simp)))
  have P0 := Lib.hid (heap_at ((w.alloc (.cells #[.int .i64 f.rings, .int .i64 f.sectors, .int .i64 f.wide] 23)).alloc (.cells #[.int .i64 clock] 3)) (.cells #[.slice none 0 0, .slice none 0 0, .slice none 0 0] 77) (w.heap.size + 1 + 1) (by simp))
  unfold FrV.val
  go_enter Tryz.func95, Tryz.ntmps95
  go_upto_region 1 with fail
  obtain ⟨pF, hpF⟩ : ∃ pF, Hid (w.heap.size = pF) := ⟨_, Lib.hid rfl⟩
  obtain ⟨pC, hpC⟩ : ∃ pC, Hid (w.heap.size + 1 = pC) := ⟨_, Lib.hid rfl⟩
  obtain ⟨p, hp⟩ : ∃ p, Hid (w.heap.size + 1 + 1 = p) := ⟨_, Lib.hid rfl⟩
  rw [hp.out, hpC.out, hpF.out]
  rw [hpF.out] at F0
  rw [hpC.out] at C0
  rw [hp.out] at P0
  generalize ((w.alloc (.cells #[.int .i64 f.rings, .int .i64 f.sectors, .int .i64 f.wide] 23)).alloc (.cells #[.int .i64 clock] 3)).alloc (.cells #[.slice none 0 0, .slice none 0 0, .slice none 0 0] 77) = w0 at *
  have f0 := cell_of F0.out 0 (.int .i64 f.rings) rfl
  have f1 := cell_of F0.out 1 (.int .i64 f.sectors) rfl
  have f2 := cell_of F0.out 2 (.int .i64 f.wide) rfl
  go_wp2_with fail
  refine (setOf_any f a n c l w0 (HR.out.below B0.out) HOK.out).mono ?_
  rintro e w1 ⟨h1 | h1, hb1⟩
  · obtain ⟨hbad, rfl⟩ := h1
    have HBAD := Lib.hid hbad; clear hbad
    have P1 := Lib.hid (below_blk hb1 P0.out)
    have B1 := Lib.hid (B0.out.trans (hb1.mono B0.out.size))
    clear hb1
    go_wp2_with (first
      | (refine wpList_store_blkP rfl 77 _ _ rfl p #[.slice none 0 0, .slice none 0 0, .slice none 0 0] #[.slice none 0 0, .slice none 0 0, .slice none 0 0] 77 rfl rfl P1.out (by kernel_rfl) rfl (by simp [Value.oneCell']) ?_; intro w5 hr1 hr2 hr3)
      | fail)
    have B5 : Hid (Below w.heap.size w w5) := Lib.hid (B1.out.grown hr2 B1.out.size (fun k e => by cases e; have := hp.out; omega))
    refine bodyPost_ret (results_cell_row_tmp rfl _ w5 p 77 _ (0, 0) _ rfl hr1 Tryz.underlying77 rfl (by kernel_rfl)) rfl ?_
    exact ⟨.inl ⟨HBAD.out, rfl⟩, B5.out⟩
  obtain ⟨hset, xs0, b, rfl, h2, h3, h4, h5⟩ := h1
  have HSET := Lib.hid hset; clear hset
  have HXS0 := Lib.hid h2
  have HXO := Lib.hid h3
  have HM := Lib.hid h4
  have HBB := Lib.hid h5
  have HB1 := Lib.hid hb1
  clear h2 h3 h4 h5 hb1
  go_wp2_with (first
    | (go_at_call 149
       refine (delete_any b l.length (setF xs0) pC clock w1 HM.out (below_blk HB1.out C0.out)).mono ?_
       rintro e w2 ⟨rfl, h2, h3⟩
       have HM2 := Lib.hid h2
       have HG2 := Lib.hid h3
       clear h2 h3
       dsimp only)
    | fail)
  have ND0 : Hid (((xs0.map LN.n).map nmOf).Nodup) := Lib.hid (by rw [HXS0.out]; exact set_nodup (set_ok HSET.out).2.2.2)
  obtain ⟨xs, hxs⟩ : ∃ xs, Hid (xs0.filter (fun x => !decide (clock < x.n.clock)) = xs) := ⟨_, Lib.hid rfl⟩
  rw [setF_filter ND0.out, hxs.out] at HM2
  have HXS : Hid (xs.map LN.n = upTo clock l) := Lib.hid (by rw [← hxs.out, upTo_map, HXS0.out])
  have HSUB : Hid (∀ x ∈ xs, x ∈ xs0) := Lib.hid (fun x hx => by rw [← hxs.out] at hx; exact (List.mem_filter.1 hx).1)
  have HSL : Hid (∀ x ∈ xs, x.n ∈ l) := Lib.hid (fun x hx => by rw [← HXS0.out]; exact List.mem_map_of_mem (HSUB.out x hx))
  clear hmf f0 f1 f2
  have HLN : Hid (l.length ≤ 400) := Lib.hid (set_ok HSET.out).2.1
  have HXN : Hid (xs.length ≤ 400) := Lib.hid (by have h1 := congrArg List.length HXS.out; rw [List.length_map] at h1; rw [h1]; exact Nat.le_trans (upTo_sub clock l).length_le HLN.out)
  have FO : Hid (FOk (setF xs)) := Lib.hid (fun k x h => ⟨HOK.out x.n (HSL.out x (setF_some h).1), (setF_some h).2⟩)
  obtain ⟨es, ck, hbm⟩ := HM.out.blk
  have HXO2 : Hid (∀ x ∈ xs, x.ok w2) := Lib.hid (fun x hx => ok_grown (HXO.out x (HSUB.out x hx)) HG2.out hbm)
  have B2 : Hid (Below w.heap.size w w2) := Lib.hid ((B0.out.trans (HB1.out.mono B0.out.size)).grown HG2.out (Nat.le_trans B0.out.size HB1.out.size) (fun k e => by cases e; exact Nat.le_trans B0.out.size HBB.out))
  have P2 : Hid (w2.heap[p]? = some (.cells #[.slice none 0 0, .slice none 0 0, .slice none 0 0] 77 (0, 0))) := Lib.hid (grown_blk HG2.out (below_blk HB1.out P0.out) (fun e => by have h1 := below_blk HB1.out P0.out; rw [Option.some.inj e, hbm] at h1; simp at h1))
  clear hbm HM HXO HG2 HB1 HBB F0 C0 P0 B0
  refine (sit_any b l.length (setF xs) w2 HM2.out FO.out (by have := HLN.out; omega)).mono ?_
  rintro e w3 ⟨⟨pB, bJ, va, vn, vc, ks, J, rfl, h2, h3, h4, h5, h6, h7, h8, h9, h10⟩, hb3⟩
  have hvn : vn = (vacs (setF xs) ks).length := by have := h8.1; rw [nmCells_len] at this; omega
  subst hvn
  have HBN := Lib.hid h2
  have HND := Lib.hid h3
  have HAL := Lib.hid h4
  have HMJ := Lib.hid h5
  have HJO := Lib.hid h7
  have HVA := Lib.hid (RdA.of_own h8)
  have HB3 := Lib.hid hb3
  clear h2 h3 h4 h5 h6 h7 h8 h9 h10 hb3
  have P3 := Lib.hid (below_blk HB3.out P2.out)
  have B3 := Lib.hid (B2.out.trans (HB3.out.mono B2.out.size))
  dsimp only
  go_wp2_with (first
    | (go_at_call 152
       refine (register_any pB b bJ l.length ks.length va vc (vacs (setF xs) ks) (setF xs) J day w3 HBN.out (HM2.out.below HB3.out) HMJ.out FO.out (fun a x h => by obtain ⟨⟨k, _, h1⟩, _⟩ := (HJO.out a).2 x h; exact ⟨k, h1⟩)
         (fun a x h => ⟨(HXO2.out x (setF_some h).1).below HB3.out, Nat.le_trans (formed_len (set_ok HSET.out).1 ((set_ok HSET.out).2.2.1 x.n (HSL.out x (setF_some h).1))) (by decide)⟩) (by have := HLN.out; omega) HVA.out
         (evN_kind HJO.out (fun x hx => formed_kind ((set_ok HSET.out).2.2.1 x.n (HSL.out x hx))))
         (fun ks' hn' _ => by have h1 := evs_le (xs := xs) (J := J) hn'; have h2 := vacs_le (xs := xs) HND.out; have h3 := HXN.out; omega)).mono ?_
       rintro e w4 ⟨hE, hb4⟩
       have HE := Lib.hid hE
       obtain ⟨R, ha, hc, ea, ec, ca, cc, ys, ks2, rfl, -⟩ := hE
       have P4 := Lib.hid (below_blk hb4 P3.out)
       have B4 := Lib.hid (B3.out.trans (hb4.mono B3.out.size))
       clear hb4
       dsimp only)
    | (refine wpList_store_blkP rfl 77 _ _ rfl p #[.slice none 0 0, .slice none 0 0, .slice none 0 0] #[.slice ha R.hs.length hc, .slice ea R.es.length ec, .slice ca R.cs.length cc] 77 rfl rfl P4.out (by kernel_rfl) rfl (by simp [Value.oneCell']) ?_; intro w5 hr1 hr2 hr3)
    | fail)
  have B5 : Hid (Below w.heap.size w w5) := Lib.hid (B4.out.grown hr2 B4.out.size (fun k e => by cases e; have := hp.out; omega))
  have HE5 := Lib.hid ((HE.out.kept P4.out hr2).mono B3.out.size)
  refine bodyPost_ret (results_cell_row_tmp rfl _ w5 p 77 _ (0, 0) _ rfl hr1 Tryz.underlying77 rfl (by kernel_rfl)) rfl ?_
  exact ⟨.inr ⟨HSET.out, _, xs, ks, J, rfl, HXS.out, HND.out, HAL.out, HJO.out, HE5.out⟩, B5.out⟩
end Go.Proofs.YtlnhppgfhkkidaaGreat
namespace Go.Proofs.YtlnhppgfhkkidaaGreat
set_option linter.unusedSimpArgs false
open Go.RowKit

theorem formed_clock {f : FrV} {x : NoteV} (h : formedB f x = true) : 1 ≤ x.clock ∧ x.clock ≤ 1099511627776 := by
  unfold formedB at h
  simp only [Bool.and_eq_true] at h
  exact inB_true.1 h.2.2.1
def FoldAny (f : FrV) (l : List NoteV) (w : World) (e : Ending) (w' : World) : Prop :=
  ((checkSetP f l).1 ≠ 0 ∧ e = .returned (.tuple #[.agg #[.slice none 0 0, .slice none 0 0, .slice none 0 0], .int .i64 1])) ∨ ((checkSetP f l).1 = 0 ∧ AsEnd l 99999 w e w')
theorem FoldAny.ok {f : FrV} {l : List NoteV} {w w' : World} {e : Ending} (h : FoldAny f l w e w') (hs : (checkSetP f l).1 = 0) : AsEnd l 99999 w e w' := by
  rcases h with ⟨h, _⟩ | ⟨_, h⟩
  · exact absurd hs h
  · exact h

set_option maxHeartbeats 8000000 in
set_option maxRecDepth 100000 in
theorem fold_any (f : FrV) (a : Option Addr) (n c : Nat) (l : List NoteV) (w : World) (hr : RdNs w a n c l) (hok : ∀ x ∈ l, x.Ok) :
    Calls Tryz.prog 34 #[f.val, .slice a n c] w fun e w' => FoldAny f l w e w' ∧ Below w.heap.size w w' := by
  have HR := Lib.hid hr; clear hr
  have B0 := Lib.hid ((((Below.refl w.heap.size w).alloc (Nat.le_refl _) (.cells #[.int .i64 f.rings, .int .i64 f.sectors, .int .i64 f.wide] 23)).alloc (by simp) (.cells #[.slice none 0 0, .slice none 0 0, .slice none 0 0] 77)))
  have F0 := Lib.hid (heap_before _ (.cells #[.slice none 0 0, .slice none 0 0, .slice none 0 0] 77) _ _ (heap_last w (.cells #[.int .i64 f.rings, .int .i64 f.sectors, .int .i64 f.wide] 23)))
  have P0 := Lib.hid (heap_at (w.alloc (.cells #[.int .i64 f.rings, .int .i64 f.sectors, .int .i64 f.wide] 23)) (.cells #[.slice none 0 0, .slice none 0 0, .slice none 0 0] 77) (w.heap.size + 1) (by simp))
  have HA := Lib.hid (fun W hb => asOf_any f a n c l 99999 1099511627776 W (HR.out.below (show Below w.heap.size w W from hb)) hok)
  clear hok
  have hvl : f.val = .agg #[.int .i64 f.rings, .int .i64 f.sectors, .int .i64 f.wide] := rfl
  rw [hvl] at HA ⊢
  go_enter Tryz.func34, Tryz.ntmps34
  go_upto_region 1 with fail
  obtain ⟨pF, hpF⟩ : ∃ pF, Hid (w.heap.size = pF) := ⟨_, Lib.hid rfl⟩
  obtain ⟨p, hp⟩ : ∃ p, Hid (w.heap.size + 1 = p) := ⟨_, Lib.hid rfl⟩
  rw [hp.out, hpF.out]
  rw [hpF.out] at F0
  rw [hp.out] at P0
  generalize (w.alloc (.cells #[.int .i64 f.rings, .int .i64 f.sectors, .int .i64 f.wide] 23)).alloc (.cells #[.slice none 0 0, .slice none 0 0, .slice none 0 0] 77) = w0 at *
  have f0 := cell_of F0.out 0 (.int .i64 f.rings) rfl
  have f1 := cell_of F0.out 1 (.int .i64 f.sectors) rfl
  have f2 := cell_of F0.out 2 (.int .i64 f.wide) rfl
  go_wp2_with fail
  refine (HA.out w0 B0.out).mono ?_
  rintro e w4 ⟨h1 | h1, hb4⟩
  · obtain ⟨hbad, rfl⟩ := h1
    have HBAD := Lib.hid hbad; clear hbad
    have P4 := Lib.hid (below_blk hb4 P0.out)
    have B4 := Lib.hid (B0.out.trans (hb4.mono B0.out.size))
    clear hb4
    go_wp2_with (first
      | (refine wpList_store_blkP rfl 77 _ _ rfl p #[.slice none 0 0, .slice none 0 0, .slice none 0 0] #[.slice none 0 0, .slice none 0 0, .slice none 0 0] 77 rfl rfl P4.out (by kernel_rfl) rfl (by simp [Value.oneCell']) ?_; intro w5 hr1 hr2 hr3)
      | fail)
    have B5 : Hid (Below w.heap.size w w5) := Lib.hid (B4.out.grown hr2 B4.out.size (fun k e => by cases e; have := hp.out; omega))
    refine bodyPost_ret (results_cell_row_tmp rfl _ w5 p 77 _ (0, 0) _ rfl hr1 Tryz.underlying77 rfl (by kernel_rfl)) rfl ?_
    exact ⟨.inl ⟨HBAD.out, rfl⟩, B5.out⟩
  obtain ⟨hset, hE⟩ := h1
  rw [upTo_all (fun x hx => (formed_clock ((set_ok hset).2.2.1 x hx)).2)] at hE
  have HSET := Lib.hid hset; clear hset
  obtain ⟨v, xs, ks, J, rfl, hxs, hnd, hal, hjo, hE⟩ := hE
  have HE := Lib.hid hE
  have HX := Lib.hid (And.intro hxs (And.intro hnd (And.intro hal hjo)))
  obtain ⟨R, ha, hc, ea, ec, ca, cc, ys, ks2, hv, -⟩ := hE
  obtain rfl : v = _ := by injection hv
  have P4 := Lib.hid (below_blk hb4 P0.out)
  have B4 := Lib.hid (B0.out.trans (hb4.mono B0.out.size))
  clear hb4 hxs hnd hal hjo
  dsimp only
  go_wp2_with (first
    | (refine wpList_store_blkP rfl 77 _ _ rfl p #[.slice none 0 0, .slice none 0 0, .slice none 0 0] #[.slice ha R.hs.length hc, .slice ea R.es.length ec, .slice ca R.cs.length cc] 77 rfl rfl P4.out (by kernel_rfl) rfl (by simp [Value.oneCell']) ?_; intro w5 hr1 hr2 hr3)
    | fail)
  have B5 : Hid (Below w.heap.size w w5) := Lib.hid (B4.out.grown hr2 B4.out.size (fun k e => by cases e; have := hp.out; omega))
  have HE5 := Lib.hid ((HE.out.kept P4.out hr2).mono B0.out.size)
  refine bodyPost_ret (results_cell_row_tmp rfl _ w5 p 77 _ (0, 0) _ rfl hr1 Tryz.underlying77 rfl (by kernel_rfl)) rfl ?_
  exact ⟨.inr ⟨HSET.out, _, xs, ks, J, rfl, HX.out.1, HX.out.2.1, HX.out.2.2.1, HX.out.2.2.2, HE5.out⟩, B5.out⟩
end Go.Proofs.YtlnhppgfhkkidaaGreat
