/- Parts of the proof, in this order: The program's sit: who judges which note, and which corrections are vacant; SRows of several cells in a block, what is sorted: loads, stores; and the plain law of an order. -/
import Derived.Test.YtlnhppgfhkkidaaGreatKPpw6
set_option linter.unusedSimpArgs false
set_option linter.unusedVariables false
open List renaming getElem_toArray → lq0, getElem_cons_succ → lq1, getElem_cons_zero → lq2, setIfInBounds_toArray → lq3, set_cons_zero → lq4, set_cons_succ → lq5
namespace Go.Proofs.YtlnhppgfhkkidaaGreat
set_option linter.unusedSimpArgs false
open Go.RowKit

def refN (x : LN) : Nm := (x.n.refH, x.n.refN)
def FOk (f : Nm → Option LN) : Prop := ∀ a x, f a = some x → x.n.Ok ∧ x.nm = a
def candB (f : Nm → Option LN) (a : Nm) (x : LN) : Bool := !doneB x.n && decide (refN x = a) && (match f a with | none => false | some r => doneB r.n && judgesB x.n r.n)
def vacB (f : Nm → Option LN) (x : LN) : Bool := !doneB x.n && (match f (refN x) with | none => true | some r => !(doneB r.n && judgesB x.n r.n))
def vacs (f : Nm → Option LN) (ks : List Nm) : List Nm := ks.filter (fun k => match f k with | some x => vacB f x | none => false)
def JudgeOk (f : Nm → Option LN) (ks : List Nm) (J : Nm → Option LN) : Prop := ∀ a,
  (J a = none → ∀ k ∈ ks, ∀ x, f k = some x → candB f a x = false) ∧
  (∀ y, J a = some y → (∃ k ∈ ks, f k = some y) ∧ candB f a y = true ∧ ∀ k ∈ ks, ∀ x, f k = some x → candB f a x = true → ¬ knownC y.n x.n < 0)
theorem JudgeOk.nil (f : Nm → Option LN) : JudgeOk f [] (fun _ => none) := fun a => ⟨fun _ k hk => by simp at hk, fun y hy => by cases hy⟩
theorem cmpI_neg (x y : Int) : cmpI x y < 0 ↔ x < y := by unfold cmpI; split <;> (try split) <;> omega
theorem cmpI_zero (x y : Int) : cmpI x y = 0 ↔ x = y := by unfold cmpI; split <;> (try split) <;> omega
theorem orI_neg (x y : Int) : orI x y < 0 ↔ x < 0 ∨ x = 0 ∧ y < 0 := by unfold orI; split <;> omega
theorem knownC_neg (a b : NoteV) : knownC a b < 0 ↔ a.clock < b.clock ∨ a.clock = b.clock ∧ (a.house < b.house ∨ a.house = b.house ∧ a.num < b.num) := by
  rw [knownC, namesC, orI_neg, orI_neg, cmpI_neg, cmpI_neg, cmpI_neg, cmpI_zero, cmpI_zero]
theorem knownC_trans (a b c : NoteV) (h1 : knownC a b < 0) (h2 : ¬ knownC a c < 0) : ¬ knownC b c < 0 := by
  rw [knownC_neg] at *
  omega
theorem knownC_self (a : NoteV) : ¬ knownC a a < 0 := by
  rw [knownC_neg]
  omega
section
variable {f : Nm → Option LN} {ks : List Nm} {J : Nm → Option LN} {k : Nm} {x : LN}
theorem JudgeOk.skip (h : JudgeOk f ks J) (hk : f k = some x) (hc : ∀ a, candB f a x = false) : JudgeOk f (ks ++ [k]) J := fun a => by
  obtain ⟨h1, h2⟩ := h a
  refine ⟨fun hJ k' hk' x' hx' => ?_, fun y hy => ?_⟩
  · rcases List.mem_append.1 hk' with h3 | h3
    · exact h1 hJ k' h3 x' hx'
    · rw [List.mem_singleton.1 h3, hk] at hx'
      cases hx'; exact hc a
  · obtain ⟨⟨k1, h3, h4⟩, h5, h6⟩ := h2 y hy
    refine ⟨⟨k1, List.mem_append_left _ h3, h4⟩, h5, fun k' hk' x' hx' hcx => ?_⟩
    rcases List.mem_append.1 hk' with h7 | h7
    · exact h6 k' h7 x' hx' hcx
    · rw [List.mem_singleton.1 h7, hk] at hx'
      cases hx'
      rw [hc a] at hcx; cases hcx
theorem JudgeOk.stay {y : LN} (h : JudgeOk f ks J) (hk : f k = some x) (hJ : J (refN x) = some y) (hn : ¬ knownC y.n x.n < 0) : JudgeOk f (ks ++ [k]) J := fun a => by
  obtain ⟨h1, h2⟩ := h a
  refine ⟨fun hJa k' hk' x' hx' => ?_, fun z hz => ?_⟩
  · rcases List.mem_append.1 hk' with h3 | h3
    · exact h1 hJa k' h3 x' hx'
    · rw [List.mem_singleton.1 h3, hk] at hx'
      cases hx'
      by_cases e : refN x = a
      · rw [e, hJa] at hJ; cases hJ
      · simp [candB, e]
  · obtain ⟨⟨k1, h3, h4⟩, h5, h6⟩ := h2 z hz
    refine ⟨⟨k1, List.mem_append_left _ h3, h4⟩, h5, fun k' hk' x' hx' hcx => ?_⟩
    rcases List.mem_append.1 hk' with h7 | h7
    · exact h6 k' h7 x' hx' hcx
    · rw [List.mem_singleton.1 h7, hk] at hx'
      cases hx'
      have e : refN x = a := by
        simp [candB] at hcx; exact hcx.1.2
      rw [e, hz] at hJ
      cases hJ; exact hn
theorem JudgeOk.put (h : JudgeOk f ks J) (hk : f k = some x) (hc : candB f (refN x) x = true) (hn : ∀ y, J (refN x) = some y → knownC y.n x.n < 0) : JudgeOk f (ks ++ [k]) (updF J (refN x) x) := fun a => by
  obtain ⟨h1, h2⟩ := h a
  by_cases e : a = refN x
  · subst e
    refine ⟨fun hJ => by simp [updF] at hJ, fun z hz => ?_⟩
    have hz' : some x = some z := by rw [← hz]; simp [updF]
    cases hz'
    refine ⟨⟨k, by simp, hk⟩, hc, fun k' hk' x' hx' hcx => ?_⟩
    rcases List.mem_append.1 hk' with h7 | h7
    · cases hJ : J (refN x) with
      | none => rw [h1 hJ k' h7 x' hx'] at hcx; cases hcx
      | some y => exact knownC_trans _ _ _ (hn y hJ) ((h2 y hJ).2.2 k' h7 x' hx' hcx)
    · rw [List.mem_singleton.1 h7, hk] at hx'
      cases hx'; exact knownC_self _
  · have hno : candB f a x = false := by
      have : ¬ refN x = a := fun e' => e e'.symm
      simp [candB, this]
    have hJe : updF J (refN x) x a = J a := by simp [updF, e]
    rw [hJe]
    refine ⟨fun hJ k' hk' x' hx' => ?_, fun y hy => ?_⟩
    · rcases List.mem_append.1 hk' with h3 | h3
      · exact h1 hJ k' h3 x' hx'
      · rw [List.mem_singleton.1 h3, hk] at hx'
        cases hx'; exact hno
    · obtain ⟨⟨k1, h3, h4⟩, h5, h6⟩ := h2 y hy
      refine ⟨⟨k1, List.mem_append_left _ h3, h4⟩, h5, fun k' hk' x' hx' hcx => ?_⟩
      rcases List.mem_append.1 hk' with h7 | h7
      · exact h6 k' h7 x' hx' hcx
      · rw [List.mem_singleton.1 h7, hk] at hx'
        cases hx'
        rw [hno] at hcx; cases hcx
theorem vacs_snoc (f : Nm → Option LN) (ks : List Nm) (hk : f k = some x) : vacs f (ks ++ [k]) = if vacB f x = true then vacs f ks ++ [k] else vacs f ks := by
  unfold vacs
  rw [List.filter_append]
  by_cases h : vacB f x = true
  · simp [List.filter, hk, h]
  · simp [List.filter, hk, h]
theorem cand_done (hd : doneB x.n = true) (a : Nm) : candB f a x = false := by simp [candB, hd]
theorem vac_done (hd : doneB x.n = true) : vacB f x = false := by simp [vacB, hd]
theorem cand_vac (hd : vacB f x = true) (a : Nm) : candB f a x = false := by
  by_cases e : refN x = a
  · subst e
    unfold vacB at hd
    unfold candB
    cases hf : f (refN x) with
    | none => simp
    | some r => rw [hf] at hd; simp at hd ⊢; intro _ h1; rcases hd.2 with h2 | h2 <;> simp_all
  · simp [candB, e]
theorem cand_not_vac (hd : doneB x.n = false) (hv : vacB f x = false) : candB f (refN x) x = true := by
  unfold vacB at hv
  unfold candB
  cases hf : f (refN x) with
  | none => rw [hf] at hv; simp [hd] at hv
  | some r => rw [hf] at hv; simp [hd] at hv; simp [hd, hv]
end
def nmCells (l : List Nm) : List Value := l.flatMap fun a => [.int .i64 a.1, .int .i64 a.2]
theorem nmCells_snoc (l : List Nm) (a : Nm) : nmCells (l ++ [a]) = nmCells l ++ [.int .i64 a.1, .int .i64 a.2] := by simp [nmCells]
theorem nmCells_len (l : List Nm) : (nmCells l).length = l.length * 2 := by
  induction l with
  | nil => rfl
  | cons a l ih =>
    have : nmCells (a :: l) = [.int .i64 a.1, .int .i64 a.2] ++ nmCells l := rfl
    rw [this, List.length_append, ih]; simp; omega
def benchAt (w : World) (p bS bJ : Nat) (va : Option Addr) (vn vc : Nat) : Prop := w.heap[p]? = some (.cells #[.map (some bS), .map (some bJ), .slice va vn vc] 243 (0, 0))
structure SitAt (w wr : World) (bS pB bJ r n : Nat) (f : Nm → Option LN) (kr ks : List Nm) (cnt : Nat) (va : Option Addr) (vn vc : Nat) (J : Nm → Option LN) : Prop where
  rng : RangeF LN.val wr bS r n f kr cnt
  bel : Below w.heap.size w wr
  blk : benchAt wr pB bS bJ va vn vc
  jm : MapF LN.val wr bJ ks.length J
  jok : JudgeOk f ks J
  own : wr.ownsRow w.heap.size 45 2 (.slice va vn vc) vn (nmCells (vacs f ks))
  bJ_ge : w.heap.size ≤ bJ
  pB_ge : w.heap.size ≤ pB
  r_ge : w.heap.size ≤ r
  bS_lt : bS < w.heap.size
theorem own_no {w : World} {base : Nat} {e : TypeId} {size : Nat} {v : Value} {n : Nat} {xs : List Value} {p : Nat} {o : Obj} (h : w.ownsRow base e size v n xs) (hp : w.heap[p]? = some o) (ho : ∀ cur, o ≠ .cells cur e (0, 0)) : some p ≠ v.ownBlock := by
  rcases h.2 with ⟨rfl, _⟩ | ⟨g, cap, cur, rfl, _, hg, _⟩
  · simp [Value.ownBlock]
  · intro e1
    have e2 : p = g := Option.some.inj e1
    subst e2
    rw [hp] at hg
    exact ho cur (Option.some.inj hg)
theorem MapF.blk {α : Type} {enc : α → Value} {w : World} {b n : Nat} {f : Nm → Option α} (h : MapF enc w b n f) : ∃ es clock, w.heap[b]? = some (.map es clock) := by
  obtain ⟨D, ⟨es, clock, h1, _⟩, _⟩ := h
  exact ⟨es, clock, h1⟩
theorem RangeF.blk {α : Type} {enc : α → Value} {w : World} {b r n : Nat} {f : Nm → Option α} {ks : List Nm} {cnt : Nat} (h : RangeF enc w b r n f ks cnt) : ∃ bb since seen c0, w.heap[r]? = some (.mapIter bb since seen c0) := by
  obtain ⟨D, left, ⟨es, clock, since, seen, c0, _, _, _, _, h1, _⟩, _⟩ := h
  exact ⟨_, _, _, _, h1⟩
theorem setCell_at {w : World} {p : Nat} {c : Array Value} {t : TypeId} {fr : Nat × Nat} (h : w.heap[p]? = some (.cells c t fr)) (j : Nat) (v : Value) : (w.setCell ⟨p, j, none⟩ v).heap[p]? = some (.cells (c.setIfInBounds j v) t fr) := by
  simp only [World.setCell, Array.getElem?_modify, h]
  simp
theorem setCell_grown (w : World) (p j : Nat) (v : Value) : w.grownBy (w.setCell ⟨p, j, none⟩ v) (some p) :=
  ⟨rfl, rfl, rfl, by simp [World.setCell], fun k _ hk => Below.heap_setCell _ _ _ _ (fun e => hk (by rw [e]))⟩
section
variable {w wr W' : World} {bS pB bJ r n : Nat} {f : Nm → Option LN} {kr ks : List Nm} {cnt : Nat} {va : Option Addr} {vn vc : Nat} {J : Nm → Option LN}
theorem SitAt.below (h : SitAt w wr bS pB bJ r n f kr ks cnt va vn vc J) (hb : Below wr.heap.size wr W') : SitAt w W' bS pB bJ r n f kr ks cnt va vn vc J :=
  ⟨h.rng.below hb, h.bel.trans (hb.mono h.bel.size), below_blk hb h.blk, h.jm.below hb, h.jok, own_below h.own hb, h.bJ_ge, h.pB_ge, h.r_ge, h.bS_lt⟩
theorem SitAt.came (h : SitAt w wr bS pB bJ r n f kr ks cnt va vn vc J) {kh km : Int} {y : LN} {cnt' : Nat} (hN : NextF LN.val wr bS r n cnt f kr kh km y W' cnt') : SitAt w W' bS pB bJ r n f (kr ++ [(kh, km)]) ks cnt' va vn vc J := by
  obtain ⟨bb, since, seen, c0, hr⟩ := h.rng.blk
  have hb1 := h.blk
  obtain ⟨es, clock, hj⟩ := h.jm.blk
  refine ⟨hN.range, h.bel.grown hN.grown h.bel.size (fun q hq => by cases hq; exact h.r_ge), grown_blk hN.grown hb1 ?_, h.jm.kept hN.grown ?_, h.jok, h.own.kept hN.grown (.inr (own_no h.own hr (by simp)).symm), h.bJ_ge, h.pB_ge, h.r_ge, h.bS_lt⟩
  · intro e
    have e := Option.some.inj e
    subst e
    unfold benchAt at hb1
    rw [hr] at hb1; cases hb1
  · intro e
    have e := Option.some.inj e
    subst e
    rw [hr] at hj; cases hj
theorem SitAt.settled {k : Nm} {x : LN} (h : SitAt w wr bS pB bJ r n f (ks ++ [k]) ks cnt va vn vc J) (hk : f k = some x) (hv : vacB f x = false) (hj : JudgeOk f (ks ++ [k]) J) : SitAt w wr bS pB bJ r n f (ks ++ [k]) (ks ++ [k]) cnt va vn vc J :=
  ⟨h.rng, h.bel, h.blk, h.jm.mono (by simp), hj, by rw [vacs_snoc f ks hk, if_neg (by rw [hv]; decide)]; exact h.own, h.bJ_ge, h.pB_ge, h.r_ge, h.bS_lt⟩
theorem SitAt.judged {k : Nm} {x : LN} (h : SitAt w wr bS pB bJ r n f (ks ++ [k]) ks cnt va vn vc J) (hk : f k = some x) (hv : vacB f x = false) (hj : JudgeOk f (ks ++ [k]) (updF J (refN x) x)) (hm : MapF LN.val W' bJ (ks.length + 1) (updF J (refN x) x)) (ht : wr.mapTurned W' bJ) :
    SitAt w W' bS pB bJ r n f (ks ++ [k]) (ks ++ [k]) cnt va vn vc (updF J (refN x) x) := by
  obtain ⟨es, clock, hjb⟩ := h.jm.blk
  obtain ⟨bb, since, seen, c0, hr⟩ := h.rng.blk
  have hb1 := h.blk
  have hlt := h.bS_lt
  have hge := h.bJ_ge
  refine ⟨h.rng.of_blocks (ht.grown.block _ h.rng.map.lt (fun e => ?_)) (ht.grown.block _ h.rng.lt (fun e => ?_)), h.bel.grown ht.grown h.bel.size (fun q hq => by cases hq; exact hge), grown_blk ht.grown hb1 (fun e => ?_), by simpa using hm, hj, by rw [vacs_snoc f ks hk, if_neg (by rw [hv]; decide)]; exact h.own.kept ht.grown (.inr (own_no h.own hjb (by simp)).symm), hge, h.pB_ge, h.r_ge, hlt⟩
  · have e := Option.some.inj e
    omega
  · have e := Option.some.inj e
    subst e
    rw [hr] at hjb; cases hjb
  · have e := Option.some.inj e
    subst e
    unfold benchAt at hb1
    rw [hjb] at hb1; cases hb1
theorem SitAt.vacant {k : Nm} {x : LN} {a' : Option Addr} {c' : Nat} (h : SitAt w wr bS pB bJ r n f (ks ++ [k]) ks cnt va vn vc J) (hk : f k = some x) (hx : x.nm = k) (hv : vacB f x = true)
    (ho : W'.ownsRow w.heap.size 45 2 (.slice a' (vn + 1) c') (vn + 1) (nmCells (vacs f ks) ++ [.int .i64 x.n.house, .int .i64 x.n.num])) (hg : wr.grownBy W' (Value.ownBlock (.slice va vn vc))) :
    SitAt w (W'.setCell ⟨pB, 2, none⟩ (.slice a' (vn + 1) c')) bS pB bJ r n f (ks ++ [k]) (ks ++ [k]) cnt a' (vn + 1) c' J := by
  obtain ⟨es, clock, hjb⟩ := h.jm.blk
  obtain ⟨es2, clock2, hsb⟩ := h.rng.map.blk
  obtain ⟨bb, since, seen, c0, hr⟩ := h.rng.blk
  have hb1 : wr.heap[pB]? = _ := h.blk
  have hb2 := grown_blk hg hb1 (own_no h.own hb1 (by intro cur; simp))
  have hr2 := grown_blk hg hr (own_no h.own hr (by simp))
  have hj2 := grown_blk hg hjb (own_no h.own hjb (by simp))
  have hs2 := grown_blk hg hsb (own_no h.own hsb (by simp))
  have G := setCell_grown W' pB 2 (.slice a' (vn + 1) c')
  have nr : some r ≠ some pB := fun e => by rw [Option.some.inj e, hb2] at hr2; cases hr2
  have nj : some bJ ≠ some pB := fun e => by rw [Option.some.inj e, hb2] at hj2; cases hj2
  have ns : some bS ≠ some pB := fun e => by rw [Option.some.inj e, hb2] at hs2; cases hs2
  have B1 := h.bel.grown hg h.bel.size (fun q hq => (h.own.lt q hq).1)
  refine ⟨h.rng.of_blocks ((grown_blk G hs2 ns).trans hsb.symm) ((grown_blk G hr2 nr).trans hr.symm), B1.grown G B1.size (fun q hq => by cases hq; exact h.pB_ge), ?_, (h.jm.of_block ((grown_blk G hj2 nj).trans hjb.symm)).mono (by simp), h.jok.skip hk (cand_vac hv), ?_, h.bJ_ge, h.pB_ge, h.r_ge, h.bS_lt⟩
  · have := setCell_at hb2 2 (.slice a' (vn + 1) c')
    unfold benchAt
    rw [this]; rfl
  · rw [vacs_snoc f ks hk, if_pos hv, nmCells_snoc, ← hx]
    exact ho.kept G (.inr (own_no ho hb2 (by intro cur; simp)).symm)
end
theorem infoNm : (Tryz.prog.info? 45).map (fun i => (i.zero, i.size, i.bytes)) = some (some (.agg #[.int .i64 0, .int .i64 0]), 2, 16) := by kernel_rfl
theorem run_app_nm (w : World) (base : Nat) (sa : Option Addr) (sn sc : Nat) (xs : List Value) (hown : w.ownsRow base 45 2 (.slice sa sn sc) sn xs) (xa : Option Addr) (m xc : Nat) (ys : List Value) (hrd : RdA w 2 xa m xc ys) (h1 : ∀ u ∈ ys, u.oneCell' = true)
    (hbytes : (sn + m) * 16 ≤ 140737488355328) (hbase : base ≤ w.heap.size) :
    ∃ a' c' w', (Builtin.append_ #[75, 75] 75 #[.slice sa sn sc, .slice xa m xc]).run Tryz.prog w = .ok (.slice a' (sn + m) c') w' ∧ w'.ownsRow base 45 2 (.slice a' (sn + m) c') (sn + m) (xs ++ ys) ∧ w.grownBy w' (Value.ownBlock (.slice sa sn sc)) := by
  obtain ⟨i, hi, hz0, hz1, hz2⟩ := info_parts infoNm
  exact run_append_rd w base 75 75 45 i _ 2 16 Tryz.underlying75 hi hz0 hz1 hz2 rfl (by decide) sa sn sc xs hown xa m xc ys hrd h1 (by unfold maxLen; omega) hbytes hbase
theorem lit_rd (W : World) (x y : Value) : RdA (W.alloc (.cells #[x, y] 45)) 2 (some ⟨W.heap.size, 0, none⟩) 1 1 [x, y] :=
  RdA.of_own (World.ownsRow_lit (base := W.heap.size) (e := 45) (size := 2) W #[x, y] 1 (Nat.le_refl _) (by unfold maxLen; omega) rfl)
theorem oper_append {P : Program} {op : Oper} {a : Act} {w w' : World} {K : Act → World → Prop} {Q : Exit → Act → World → Prop} (s x : Operand) (t : TypeId) (ho : op.op = .call { callee := .builtin .append, args := #[s, x], argTypes := #[t, t] }) (v1 v2 v : Value)
    (hs : a.eval s = v1) (hx : a.eval x = v2) (hr : (Builtin.append_ #[t, t] op.type #[v1, v2]).run P w = .ok v w') (h : K (a.put op.dst v) w') : op.wp P a w K Q := by
  unfold Oper.wp
  simp [execOp, ho, resolve, invoke, builtin, hs, hx, hr, Result.andThen]
  exact h
theorem oper_store_blk {P : Program} {op : Oper} {a : Act} {w : World} {K : Act → World → Prop} {Q : Exit → Act → World → Prop} (ty : TypeId) (x y : Operand) (ho : op.op = .store ty x y) (p : Nat)
    (c c' : Array Value) (t : TypeId) (hx : a.eval x = .pointer (some ⟨p, 0, none⟩)) (hy : a.eval y = .agg c') (hg : w.heap[p]? = some (.cells c t (0, 0))) (hi : (P.info? ty).map (·.size) = some c'.size) (hc : c.size = c'.size) (h1 : c'.all (·.oneCell') = true)
    (h : ∀ w', w'.heap[p]? = some (.cells c' t (0, 0)) → w.grownBy w' (some p) → w'.heap.size = w.heap.size → K (a.put op.dst undef) w') : op.wp P a w K Q := by
  unfold Oper.wp execOp
  simp only [ho, hx, hy, Instr.storeAt, Instr.sureAddr, Sem.run_bind, Sem.run_pure, Result.andThen_ok, run_storeVar_row w p t ty c c' hg hi hc h1]
  exact h _ (setRow_at w p c c' t _ hg) (setRow_grown w p c') (by simp [World.setRow])
def SitEnd (w : World) (bS n : Nat) (f : Nm → Option LN) (e : Ending) (w' : World) : Prop :=
  ∃ p bJ va vn vc ks J, e = .returned (.pointer (some ⟨p, 0, none⟩)) ∧ benchAt w' p bS bJ va vn vc ∧ ks.Nodup ∧ AllIn f ks ∧ MapF LN.val w' bJ ks.length J ∧ ks.length ≤ n ∧ JudgeOk f ks J ∧ w'.ownsRow w.heap.size 45 2 (.slice va vn vc) vn (nmCells (vacs f ks)) ∧ w.heap.size ≤ p ∧ w.heap.size ≤ bJ
theorem zero_note (w : World) : (zeroValue 47).run Tryz.prog w = .ok (.agg (noteA zeroN none 0)) w := by kernel_rfl
section
attribute [local go_sem] noteA_0 noteA_1 noteA_16 noteA_17
set_option maxHeartbeats 8000000 in
set_option maxRecDepth 100000 in
theorem sit_any (bS n : Nat) (f : Nm → Option LN) (w : World) (hm : MapF LN.val w bS n f) (hf : FOk f) (hn : n ≤ 1000000) :
    Calls Tryz.prog 151 #[.map (some bS)] w fun e w' => SitEnd w bS n f e w' ∧ Below w.heap.size w w' := by
  have I43 := Lib.hid (show ∀ (m : NoteV) (a : Option Addr) (c : Nat), (Tryz.prog.info? 47).map (·.size) = some (noteA m a c).size from fun m a c => by kernel_rfl)
  have hmm := @run_makeMap Tryz.prog
  have FO := Lib.hid hf; clear hf
  have HNn := Lib.hid hn; clear hn
  go_enter Tryz.func151, Tryz.ntmps151
  have B1 := ((Below.refl w.heap.size w).alloc (Nat.le_refl _) (.map #[] 0)).alloc (by simp) (.cells #[.map (some bS), .map (some w.heap.size), .slice none 0 0] 243)
  have M1 := hm.below B1
  go_wp2_with (first
    | (at_range; refine wpList_range_nm _ rfl _ 119 47 rfl Tryz.underlying119 bS n rfl M1 ?_; intro w0 cnt0 hrg0 hg0 hs0)
    | fail)
  go_frame
  clear hmm
  obtain ⟨bJ, hbJ⟩ : ∃ bJ, Hid (w.heap.size = bJ) := ⟨_, Lib.hid rfl⟩
  obtain ⟨pB, hpB⟩ : ∃ pB, Hid (w.heap.size + 1 = pB) := ⟨_, Lib.hid rfl⟩
  obtain ⟨r, hr⟩ : ∃ r, Hid (((w.alloc (.map #[] 0)).alloc (.cells #[.map (some bS), .map (some w.heap.size), .slice none 0 0] 243)).heap.size = r) := ⟨_, Lib.hid rfl⟩
  have e0 := heap_at (w.alloc (.map #[] 0)) (.cells #[.map (some bS), .map (some w.heap.size), .slice none 0 0] 243) (w.heap.size + 1) (by simp)
  have m0 := (MapF.made (enc := LN.val) w).below ((Below.refl (w.alloc (.map #[] 0)).heap.size (w.alloc (.map #[] 0))).alloc (Nat.le_refl _) (.cells #[.map (some bS), .map (some w.heap.size), .slice none 0 0] 243))
  have hbS : bS < w.heap.size := hm.lt
  have S0 := Lib.hid (show SitAt w w0 bS pB bJ r n f [] [] cnt0 none 0 0 (fun _ => none) from
    ⟨by rw [← hr.out]; exact hrg0, B1.grown hg0 (by simp; omega) (fun q hq => by cases hq), by unfold benchAt; rw [← hpB.out, ← hbJ.out]; exact grown_blk hg0 e0 (by simp), by rw [← hbJ.out]; exact m0.kept hg0 (by simp), JudgeOk.nil f, World.ownsRow_nil _ _ _ _,
      by rw [← hbJ.out]; exact Nat.le_refl _, by rw [← hpB.out]; omega, by rw [← hr.out]; simp; omega, hbS⟩)
  rw [show ((w.alloc (.map #[] 0)).alloc (.cells #[.map (some bS), .map (some w.heap.size), .slice none 0 0] 243)).heap.size = r from hr.out]
  try rw [show (w.alloc (.map #[] 0)).heap.size = pB by rw [← hpB.out]; simp]
  try rw [hpB.out]
  try rw [hbJ.out]
  clear hrg0 hg0 hs0 e0 m0 hm B1 M1 hbS
  go_loopw [16] (fun _ wr => ∃ (ks : List Nm) (cnt : Nat) (va : Option Addr) (vn vc : Nat) (J : Nm → Option LN), Hid (SitAt w wr bS pB bJ r n f ks ks cnt va vn vc J)) (fun _ wr => wr.rangeLeft bS r)
  case atStart => exact ⟨_, _, _, _, _, _, S0⟩
  case round =>
    clear S0
    obtain ⟨ks, cnt, va, vn, vc, J, HS⟩ := hrel
    go_upto_region 4 with (first
      | (at_next; refine wpList_next_nm wr rfl _ rfl bS r n cnt ks rfl HS.out.rng ?_ ?_)
      | fail)
    · intro hall
      have HALL := Lib.hid hall; clear hall
      go_wp2_with fail
      go_ret
      exact ⟨⟨pB, bJ, va, vn, vc, ks, J, rfl, HS.out.blk, HS.out.rng.nodup, HALL.out, HS.out.jm, by have := HS.out.rng.count; omega, HS.out.jok, HS.out.own, HS.out.pB_ge, HS.out.bJ_ge⟩, HS.out.bel⟩
    · intro kh km y w1 cnt1 HN hen
      have HF := Lib.hid HN.out.at_
      have HOk := Lib.hid (FO.out _ _ HN.out.at_)
      have S1 := Lib.hid (HS.out.came HN.out)
      have HM := Lib.hid (show wr.rangeLeft bS r = cnt from HS.out.rng.left_eq)
      have HLT := Lib.hid HN.out.lt
      have HRok := Lib.hid (show nmOk (y.n.refH, y.n.refN) from ⟨HOk.out.1.refH, HOk.out.1.refN⟩)
      clear HS HN
      unfold LN.val at hen
      go_upto_region 5 with (first
        | (refine wpList_store_newp w1 rfl 47 _ _ rfl w1.heap.size rfl _ (noteA y.n y.sa y.sc) rfl rfl (I43.out _ _ _) rfl (noteA_one y.n y.sa y.sc) ?_))
      clear hen
      have hbt : Below w1.heap.size w1 (w1.alloc (.cells (noteA y.n y.sa y.sc) 47)) := (Below.refl _ _).alloc (Nat.le_refl _) _
      have CS := Lib.hid (S1.out.below hbt)
      have CT := Lib.hid (heap_last w1 (.cells (noteA y.n y.sa y.sc) 47))
      obtain ⟨p5, hp5⟩ : ∃ p5, Hid (w1.heap.size = p5) := ⟨_, Lib.hid rfl⟩
      rw [hp5.out] at CT ⊢
      generalize w1.alloc (.cells (noteA y.n y.sa y.sc) 47) = wt at *
      clear hbt S1
      go_wp2_with (first
        | (refine wpList_load_row rfl 47 _ rfl p5 rfl 47 (noteA y.n y.sa y.sc) (0, 0) _ CT.out Tryz.underlying47 rfl (I43.out _ _ _) ?_))
      refine (done_any y.n y.sa y.sc _).mono ?_
      rintro e w2 ⟨rfl, b2⟩
      replace CS := Lib.hid (CS.out.below b2)
      replace CT := Lib.hid (below_blk b2 CT.out)
      clear b2
      cases hd : doneB y.n
      · have HD := Lib.hid hd; clear hd
        have c16 := cell_of CT.out 16 (.int .i64 y.n.refH) rfl
        have c17 := cell_of CT.out 17 (.int .i64 y.n.refN) rfl
        cases hfr : f (y.n.refH, y.n.refN) with
        | none =>
          have HV := Lib.hid (show vacB f y = true by simp [vacB, HD.out, refN, hfr])
          have hget : (Instr.lookup 119 (.map (some bS)) (.agg #[.int .i64 y.n.refH, .int .i64 y.n.refN]) true).run Tryz.prog w2 = .ok (.tuple #[.agg (noteA zeroN none 0), .bool false]) w2 := by
            have := run_get_nm (t := 119) CS.out.rng.map Tryz.underlying119 (zero_note w2) y.n.refH y.n.refN HRok.out
            rw [hfr] at this; exact this
          clear hfr
          go_upto_region 8 with (first
            | (refine wpList_store_newp w2 rfl 47 _ _ rfl w2.heap.size rfl _ (noteA zeroN none 0) rfl rfl (I43.out _ _ _) rfl (noteA_one zeroN none 0) ?_))
          have hbt : Below w2.heap.size w2 (w2.alloc (.cells (noteA zeroN none 0) 47)) := (Below.refl _ _).alloc (Nat.le_refl _) _
          replace CS := Lib.hid (CS.out.below hbt)
          replace CT := Lib.hid (below_blk hbt CT.out)
          obtain ⟨p6, hp6⟩ : ∃ p6, Hid (w2.heap.size = p6) := ⟨_, Lib.hid rfl⟩
          rw [hp6.out]
          generalize w2.alloc (.cells (noteA zeroN none 0) 47) = wz at *
          clear hbt hget c16 c17
          refine wp_region_noPanic ?_
          refine wp_region_held_drew (S := fun w' => w'.heap[p5]? = some (.cells (noteA y.n y.sa y.sc) 47 (0, 0))) (by kernel_rfl) (show wz.drew.heap[p5]? = _ from CT.out) (fun hHeld => ?_)
          replace CS := Lib.hid (CS.out.below ((Below.refl wz.heap.size wz).drew))
          replace CT := Lib.hid (show wz.drew.heap[p5]? = _ from CT.out)
          refine wpAnyH_take (i := 0) (v := .pointer (some ⟨pB, 0, none⟩)) rfl (by kernel_rfl) (by kernel_rfl) (by kernel_rfl) (fun _ _ _ h => h) (Or.inl ⟨by kernel_rfl, by intro W _; go_simp⟩) (by assumption) ?_
          try simp only [Act.put, lq0, lq1, lq2, lq3, lq4, lq5]
          refine wpAnyH_take (i := 1) (v := .pointer (some ⟨pB, 0, none⟩)) rfl (by kernel_rfl) (by kernel_rfl) (by kernel_rfl) (fun _ _ _ h => h) (Or.inl ⟨by kernel_rfl, by intro W _; go_simp⟩) (by assumption) ?_
          try simp only [Act.put, lq0, lq1, lq2, lq3, lq4, lq5]
          refine wpAnyH_take (i := 2) (v := .pointer (some ⟨pB, 0, none⟩)) rfl (by kernel_rfl) (by kernel_rfl) (by kernel_rfl) (fun _ _ _ h => h) (Or.inl ⟨by kernel_rfl, by intro W _; go_simp⟩) (by assumption) ?_
          try simp only [Act.put, lq0, lq1, lq2, lq3, lq4, lq5]
          refine wpAnyH_take (i := 3) (v := .pointer (some ⟨pB, 2, none⟩)) rfl (by kernel_rfl) (by kernel_rfl) (by kernel_rfl) (fun _ _ _ h => h) (Or.inl ⟨by kernel_rfl, by intro W _; go_simp⟩) (by assumption) ?_
          try simp only [Act.put, lq0, lq1, lq2, lq3, lq4, lq5]
          refine wpAnyH_take (i := 5) (v := .agg (noteA y.n y.sa y.sc)) rfl (by kernel_rfl) (by kernel_rfl) (by kernel_rfl) (fun _ _ _ h => h) (yields_row (by kernel_rfl) 47 _ rfl p5 rfl _ 47 (0, 0) _ (fun W h => h) Tryz.underlying47 rfl (I43.out _ _ _)) (by assumption) ?_
          try simp only [Act.put, lq0, lq1, lq2, lq3, lq4, lq5]
          refine wpAnyH_ready (rs := [4, 6]) (by kernel_rfl) (by simp) ?_
          refine AllReadyH.cons rfl (fun K hK => ?_) ?_
          · have hc := cell_of CS.out.blk 2 (.slice va vn vc) rfl
            go_simp
            clear hc
            refine hK.out _ _ CT.out (fun hHeld => ?_)
            clear hK K
            try simp only [Act.put, lq0, lq1, lq2, lq3, lq4, lq5]
            refine wpAnyH_ready (rs := [6]) (by kernel_rfl) (by simp) ?_
            refine AllReadyH.cons rfl (fun K hK => ?_) AllReadyH.nil
            go_simp
            go_at_call 167
            refine (nameOf_any y.n y.sa y.sc _).mono ?_
            rintro e v1 ⟨rfl, b1⟩
            replace CS := Lib.hid (CS.out.below b1)
            replace CT := Lib.hid (below_blk b1 CT.out)
            clear b1
            dsimp only
            refine hK.out _ _ CT.out (fun hHeld => ?_)
            clear hK K
            try simp only [Act.put, lq0, lq1, lq2, lq3, lq4, lq5]
            refine wpAnyH_ready (rs := [7]) (by kernel_rfl) (by simp) ?_
            refine AllReadyH.cons rfl (fun K hK => ?_) AllReadyH.nil
            go_simp
            have CR := Lib.hid (lit_rd v1 (.int .i64 y.n.house) (.int .i64 y.n.num))
            replace CS := Lib.hid (CS.out.below ((Below.refl v1.heap.size v1).alloc (Nat.le_refl _) (.cells #[.int .i64 y.n.house, .int .i64 y.n.num] 45)))
            replace CT := Lib.hid (heap_before v1 (.cells #[.int .i64 y.n.house, .int .i64 y.n.num] 45) _ _ CT.out)
            refine hK.out _ _ CT.out (fun hHeld => ?_)
            clear hK K
            try simp only [Act.put, lq0, lq1, lq2, lq3, lq4, lq5]
            refine wpAnyH_ready (rs := [8]) (by kernel_rfl) (by simp) ?_
            refine AllReadyH.cons rfl (fun K hK => ?_) AllReadyH.nil
            obtain ⟨a', c', v3, hrun, ho, hg⟩ := run_app_nm _ w.heap.size va vn vc _ CS.out.own _ 1 1 _ CR.out (by simp [Value.oneCell']) (by have h1 := CS.out.own.1; have h2 := CS.out.rng.count; have h3 := HNn.out; have h4 : (vacs f ks).length ≤ ks.length := List.length_filter_le _ _; rw [nmCells_len] at h1; simp at h2; omega) CS.out.bel.size
            have HO3 := Lib.hid ho
            have HG3 := Lib.hid hg
            have h5 := own_no CS.out.own CT.out (by intro cur; simp)
            have hb1 : _ = some _ := CS.out.blk
            have CB3 := Lib.hid (grown_blk hg hb1 (own_no CS.out.own hb1 (by intro cur; simp)))
            replace CT := Lib.hid (grown_blk hg CT.out h5)
            clear ho hg h5 hb1
            rw [if_pos (by kernel_rfl)]
            refine oper_append _ _ _ rfl _ _ _ rfl rfl hrun ?_
            clear hrun
            refine hK.out _ _ CT.out (fun hHeld => ?_)
            clear hK K
            try simp only [Act.put, lq0, lq1, lq2, lq3, lq4, lq5]
            refine wpAnyH_take (i := 9) (v := .pointer (some ⟨pB, 0, none⟩)) rfl (by kernel_rfl) (by kernel_rfl) (by kernel_rfl) (fun _ _ _ h => h) (Or.inl ⟨by kernel_rfl, by intro W _; go_simp⟩) (by assumption) ?_
            try simp only [Act.put, lq0, lq1, lq2, lq3, lq4, lq5]
            refine wpAnyH_take (i := 10) (v := .pointer (some ⟨pB, 2, none⟩)) rfl (by kernel_rfl) (by kernel_rfl) (by kernel_rfl) (fun _ _ _ h => h) (Or.inl ⟨by kernel_rfl, by intro W _; go_simp⟩) (by assumption) ?_
            try simp only [Act.put, lq0, lq1, lq2, lq3, lq4, lq5]
            refine wpAnyH_ready (rs := [11]) (by kernel_rfl) (by simp) ?_
            refine AllReadyH.cons rfl (fun K hK => ?_) AllReadyH.nil
            have hc := cell_of CB3.out 2 (.slice va vn vc) rfl
            have hfz := frozen_of CB3.out 2
            have S9 := Lib.hid (CS.out.vacant HF.out HOk.out.2 HV.out HO3.out HG3.out)
            have h5 : some p5 ≠ some pB := fun e => by
              have h1 := CT.out
              rw [Option.some.inj e, CB3.out] at h1
              cases h1
            replace CT := Lib.hid (grown_blk (setCell_grown v3 pB 2 (.slice a' (vn + 1) c')) CT.out h5)
            go_simp
            refine hK.out _ _ CT.out (fun hHeld => ?_)
            clear hK K
            try simp only [Act.put, lq0, lq1, lq2, lq3, lq4, lq5]
            refine wpAnyH_done (by kernel_rfl) ?_ _
            refine NoPanic.normal ?_
            go_wp2_with fail
            go_roundw
            case rel => exact ⟨_, _, _, _, _, _, S9⟩
            case measure => rw [S9.out.rng.left_eq, HM.out]; exact HLT.out
          refine AllReadyH.cons rfl (fun K hK => ?_) AllReadyH.nil
          go_simp
          go_at_call 167
          refine (nameOf_any y.n y.sa y.sc _).mono ?_
          rintro e v1 ⟨rfl, b1⟩
          replace CS := Lib.hid (CS.out.below b1)
          replace CT := Lib.hid (below_blk b1 CT.out)
          clear b1
          dsimp only
          refine hK.out _ _ CT.out (fun hHeld => ?_)
          clear hK K
          try simp only [Act.put, lq0, lq1, lq2, lq3, lq4, lq5]
          refine wpAnyH_ready (rs := [4, 7]) (by kernel_rfl) (by simp) ?_
          refine AllReadyH.cons rfl (fun K hK => ?_) ?_
          · have hc := cell_of CS.out.blk 2 (.slice va vn vc) rfl
            go_simp
            clear hc
            refine hK.out _ _ CT.out (fun hHeld => ?_)
            clear hK K
            try simp only [Act.put, lq0, lq1, lq2, lq3, lq4, lq5]
            refine wpAnyH_ready (rs := [7]) (by kernel_rfl) (by simp) ?_
            refine AllReadyH.cons rfl (fun K hK => ?_) AllReadyH.nil
            go_simp
            have CR := Lib.hid (lit_rd v1 (.int .i64 y.n.house) (.int .i64 y.n.num))
            replace CS := Lib.hid (CS.out.below ((Below.refl v1.heap.size v1).alloc (Nat.le_refl _) (.cells #[.int .i64 y.n.house, .int .i64 y.n.num] 45)))
            replace CT := Lib.hid (heap_before v1 (.cells #[.int .i64 y.n.house, .int .i64 y.n.num] 45) _ _ CT.out)
            refine hK.out _ _ CT.out (fun hHeld => ?_)
            clear hK K
            try simp only [Act.put, lq0, lq1, lq2, lq3, lq4, lq5]
            refine wpAnyH_ready (rs := [8]) (by kernel_rfl) (by simp) ?_
            refine AllReadyH.cons rfl (fun K hK => ?_) AllReadyH.nil
            obtain ⟨a', c', v3, hrun, ho, hg⟩ := run_app_nm _ w.heap.size va vn vc _ CS.out.own _ 1 1 _ CR.out (by simp [Value.oneCell']) (by have h1 := CS.out.own.1; have h2 := CS.out.rng.count; have h3 := HNn.out; have h4 : (vacs f ks).length ≤ ks.length := List.length_filter_le _ _; rw [nmCells_len] at h1; simp at h2; omega) CS.out.bel.size
            have HO3 := Lib.hid ho
            have HG3 := Lib.hid hg
            have h5 := own_no CS.out.own CT.out (by intro cur; simp)
            have hb1 : _ = some _ := CS.out.blk
            have CB3 := Lib.hid (grown_blk hg hb1 (own_no CS.out.own hb1 (by intro cur; simp)))
            replace CT := Lib.hid (grown_blk hg CT.out h5)
            clear ho hg h5 hb1
            rw [if_pos (by kernel_rfl)]
            refine oper_append _ _ _ rfl _ _ _ rfl rfl hrun ?_
            clear hrun
            refine hK.out _ _ CT.out (fun hHeld => ?_)
            clear hK K
            try simp only [Act.put, lq0, lq1, lq2, lq3, lq4, lq5]
            refine wpAnyH_take (i := 9) (v := .pointer (some ⟨pB, 0, none⟩)) rfl (by kernel_rfl) (by kernel_rfl) (by kernel_rfl) (fun _ _ _ h => h) (Or.inl ⟨by kernel_rfl, by intro W _; go_simp⟩) (by assumption) ?_
            try simp only [Act.put, lq0, lq1, lq2, lq3, lq4, lq5]
            refine wpAnyH_take (i := 10) (v := .pointer (some ⟨pB, 2, none⟩)) rfl (by kernel_rfl) (by kernel_rfl) (by kernel_rfl) (fun _ _ _ h => h) (Or.inl ⟨by kernel_rfl, by intro W _; go_simp⟩) (by assumption) ?_
            try simp only [Act.put, lq0, lq1, lq2, lq3, lq4, lq5]
            refine wpAnyH_ready (rs := [11]) (by kernel_rfl) (by simp) ?_
            refine AllReadyH.cons rfl (fun K hK => ?_) AllReadyH.nil
            have hc := cell_of CB3.out 2 (.slice va vn vc) rfl
            have hfz := frozen_of CB3.out 2
            have S9 := Lib.hid (CS.out.vacant HF.out HOk.out.2 HV.out HO3.out HG3.out)
            have h5 : some p5 ≠ some pB := fun e => by
              have h1 := CT.out
              rw [Option.some.inj e, CB3.out] at h1
              cases h1
            replace CT := Lib.hid (grown_blk (setCell_grown v3 pB 2 (.slice a' (vn + 1) c')) CT.out h5)
            go_simp
            refine hK.out _ _ CT.out (fun hHeld => ?_)
            clear hK K
            try simp only [Act.put, lq0, lq1, lq2, lq3, lq4, lq5]
            refine wpAnyH_done (by kernel_rfl) ?_ _
            refine NoPanic.normal ?_
            go_wp2_with fail
            go_roundw
            case rel => exact ⟨_, _, _, _, _, _, S9⟩
            case measure => rw [S9.out.rng.left_eq, HM.out]; exact HLT.out
          refine AllReadyH.cons rfl (fun K hK => ?_) AllReadyH.nil
          go_simp
          have CR := Lib.hid (lit_rd v1 (.int .i64 y.n.house) (.int .i64 y.n.num))
          replace CS := Lib.hid (CS.out.below ((Below.refl v1.heap.size v1).alloc (Nat.le_refl _) (.cells #[.int .i64 y.n.house, .int .i64 y.n.num] 45)))
          replace CT := Lib.hid (heap_before v1 (.cells #[.int .i64 y.n.house, .int .i64 y.n.num] 45) _ _ CT.out)
          refine hK.out _ _ CT.out (fun hHeld => ?_)
          clear hK K
          try simp only [Act.put, lq0, lq1, lq2, lq3, lq4, lq5]
          refine wpAnyH_ready (rs := [4]) (by kernel_rfl) (by simp) ?_
          refine AllReadyH.cons rfl (fun K hK => ?_) AllReadyH.nil
          have hc := cell_of CS.out.blk 2 (.slice va vn vc) rfl
          go_simp
          clear hc
          refine hK.out _ _ CT.out (fun hHeld => ?_)
          clear hK K
          try simp only [Act.put, lq0, lq1, lq2, lq3, lq4, lq5]
          refine wpAnyH_ready (rs := [8]) (by kernel_rfl) (by simp) ?_
          refine AllReadyH.cons rfl (fun K hK => ?_) AllReadyH.nil
          obtain ⟨a', c', v3, hrun, ho, hg⟩ := run_app_nm _ w.heap.size va vn vc _ CS.out.own _ 1 1 _ CR.out (by simp [Value.oneCell']) (by have h1 := CS.out.own.1; have h2 := CS.out.rng.count; have h3 := HNn.out; have h4 : (vacs f ks).length ≤ ks.length := List.length_filter_le _ _; rw [nmCells_len] at h1; simp at h2; omega) CS.out.bel.size
          have HO3 := Lib.hid ho
          have HG3 := Lib.hid hg
          have h5 := own_no CS.out.own CT.out (by intro cur; simp)
          have hb1 : _ = some _ := CS.out.blk
          have CB3 := Lib.hid (grown_blk hg hb1 (own_no CS.out.own hb1 (by intro cur; simp)))
          replace CT := Lib.hid (grown_blk hg CT.out h5)
          clear ho hg h5 hb1
          rw [if_pos (by kernel_rfl)]
          refine oper_append _ _ _ rfl _ _ _ rfl rfl hrun ?_
          clear hrun
          refine hK.out _ _ CT.out (fun hHeld => ?_)
          clear hK K
          try simp only [Act.put, lq0, lq1, lq2, lq3, lq4, lq5]
          refine wpAnyH_take (i := 9) (v := .pointer (some ⟨pB, 0, none⟩)) rfl (by kernel_rfl) (by kernel_rfl) (by kernel_rfl) (fun _ _ _ h => h) (Or.inl ⟨by kernel_rfl, by intro W _; go_simp⟩) (by assumption) ?_
          try simp only [Act.put, lq0, lq1, lq2, lq3, lq4, lq5]
          refine wpAnyH_take (i := 10) (v := .pointer (some ⟨pB, 2, none⟩)) rfl (by kernel_rfl) (by kernel_rfl) (by kernel_rfl) (fun _ _ _ h => h) (Or.inl ⟨by kernel_rfl, by intro W _; go_simp⟩) (by assumption) ?_
          try simp only [Act.put, lq0, lq1, lq2, lq3, lq4, lq5]
          refine wpAnyH_ready (rs := [11]) (by kernel_rfl) (by simp) ?_
          refine AllReadyH.cons rfl (fun K hK => ?_) AllReadyH.nil
          have hc := cell_of CB3.out 2 (.slice va vn vc) rfl
          have hfz := frozen_of CB3.out 2
          have S9 := Lib.hid (CS.out.vacant HF.out HOk.out.2 HV.out HO3.out HG3.out)
          have h5 : some p5 ≠ some pB := fun e => by
            have h1 := CT.out
            rw [Option.some.inj e, CB3.out] at h1
            cases h1
          replace CT := Lib.hid (grown_blk (setCell_grown v3 pB 2 (.slice a' (vn + 1) c')) CT.out h5)
          go_simp
          refine hK.out _ _ CT.out (fun hHeld => ?_)
          clear hK K
          try simp only [Act.put, lq0, lq1, lq2, lq3, lq4, lq5]
          refine wpAnyH_done (by kernel_rfl) ?_ _
          refine NoPanic.normal ?_
          go_wp2_with fail
          go_roundw
          case rel => exact ⟨_, _, _, _, _, _, S9⟩
          case measure => rw [S9.out.rng.left_eq, HM.out]; exact HLT.out
        | some q =>
          have HFR := Lib.hid hfr
          have hget : (Instr.lookup 119 (.map (some bS)) (.agg #[.int .i64 y.n.refH, .int .i64 y.n.refN]) true).run Tryz.prog w2 = .ok (.tuple #[.agg (noteA q.n q.sa q.sc), .bool true]) w2 := by
            have := run_get_nm (t := 119) CS.out.rng.map Tryz.underlying119 (zero_note w2) y.n.refH y.n.refN HRok.out
            rw [hfr] at this; exact this
          clear hfr
          go_upto_region 7 with (first
            | (refine wpList_store_newp w2 rfl 47 _ _ rfl w2.heap.size rfl _ (noteA q.n q.sa q.sc) rfl rfl (I43.out _ _ _) rfl (noteA_one q.n q.sa q.sc) ?_))
          have hbt : Below w2.heap.size w2 (w2.alloc (.cells (noteA q.n q.sa q.sc) 47)) := (Below.refl _ _).alloc (Nat.le_refl _) _
          replace CS := Lib.hid (CS.out.below hbt)
          replace CT := Lib.hid (below_blk hbt CT.out)
          have CQ := Lib.hid (heap_last w2 (.cells (noteA q.n q.sa q.sc) 47))
          obtain ⟨p6, hp6⟩ : ∃ p6, Hid (w2.heap.size = p6) := ⟨_, Lib.hid rfl⟩
          rw [hp6.out] at CQ ⊢
          generalize w2.alloc (.cells (noteA q.n q.sa q.sc) 47) = wq at *
          clear hbt hget c16 c17
          go_wp2_with (first
            | (refine wpList_load_rowG (by kernel_rfl) 47 _ rfl p6 rfl 47 (noteA q.n q.sa q.sc) (0, 0) _ CQ.out Tryz.underlying47 rfl (I43.out _ _ _) ?_))
          refine (done_any q.n q.sa q.sc _).mono ?_
          rintro e w3 ⟨rfl, b3⟩
          replace CS := Lib.hid (CS.out.below b3)
          replace CT := Lib.hid (below_blk b3 CT.out)
          replace CQ := Lib.hid (below_blk b3 CQ.out)
          clear b3
          cases hdq : doneB q.n
          · have HV := Lib.hid (show vacB f y = true by simp [vacB, HD.out, refN, HFR.out, hdq])
            clear hdq
            go_upto_region 8 with fail
            refine wp_region_noPanic ?_
            refine wp_region_held_drew (S := fun w' => w'.heap[p5]? = some (.cells (noteA y.n y.sa y.sc) 47 (0, 0))) (by kernel_rfl) (show w3.drew.heap[p5]? = _ from CT.out) (fun hHeld => ?_)
            replace CS := Lib.hid (CS.out.below ((Below.refl w3.heap.size w3).drew))
            replace CT := Lib.hid (show w3.drew.heap[p5]? = _ from CT.out)
            refine wpAnyH_take (i := 0) (v := .pointer (some ⟨pB, 0, none⟩)) rfl (by kernel_rfl) (by kernel_rfl) (by kernel_rfl) (fun _ _ _ h => h) (Or.inl ⟨by kernel_rfl, by intro W _; go_simp⟩) (by assumption) ?_
            try simp only [Act.put, lq0, lq1, lq2, lq3, lq4, lq5]
            refine wpAnyH_take (i := 1) (v := .pointer (some ⟨pB, 0, none⟩)) rfl (by kernel_rfl) (by kernel_rfl) (by kernel_rfl) (fun _ _ _ h => h) (Or.inl ⟨by kernel_rfl, by intro W _; go_simp⟩) (by assumption) ?_
            try simp only [Act.put, lq0, lq1, lq2, lq3, lq4, lq5]
            refine wpAnyH_take (i := 2) (v := .pointer (some ⟨pB, 0, none⟩)) rfl (by kernel_rfl) (by kernel_rfl) (by kernel_rfl) (fun _ _ _ h => h) (Or.inl ⟨by kernel_rfl, by intro W _; go_simp⟩) (by assumption) ?_
            try simp only [Act.put, lq0, lq1, lq2, lq3, lq4, lq5]
            refine wpAnyH_take (i := 3) (v := .pointer (some ⟨pB, 2, none⟩)) rfl (by kernel_rfl) (by kernel_rfl) (by kernel_rfl) (fun _ _ _ h => h) (Or.inl ⟨by kernel_rfl, by intro W _; go_simp⟩) (by assumption) ?_
            try simp only [Act.put, lq0, lq1, lq2, lq3, lq4, lq5]
            refine wpAnyH_take (i := 5) (v := .agg (noteA y.n y.sa y.sc)) rfl (by kernel_rfl) (by kernel_rfl) (by kernel_rfl) (fun _ _ _ h => h) (yields_row (by kernel_rfl) 47 _ rfl p5 rfl _ 47 (0, 0) _ (fun W h => h) Tryz.underlying47 rfl (I43.out _ _ _)) (by assumption) ?_
            try simp only [Act.put, lq0, lq1, lq2, lq3, lq4, lq5]
            refine wpAnyH_ready (rs := [4, 6]) (by kernel_rfl) (by simp) ?_
            refine AllReadyH.cons rfl (fun K hK => ?_) ?_
            · have hc := cell_of CS.out.blk 2 (.slice va vn vc) rfl
              go_simp
              clear hc
              refine hK.out _ _ CT.out (fun hHeld => ?_)
              clear hK K
              try simp only [Act.put, lq0, lq1, lq2, lq3, lq4, lq5]
              refine wpAnyH_ready (rs := [6]) (by kernel_rfl) (by simp) ?_
              refine AllReadyH.cons rfl (fun K hK => ?_) AllReadyH.nil
              go_simp
              go_at_call 167
              refine (nameOf_any y.n y.sa y.sc _).mono ?_
              rintro e v1 ⟨rfl, b1⟩
              replace CS := Lib.hid (CS.out.below b1)
              replace CT := Lib.hid (below_blk b1 CT.out)
              clear b1
              dsimp only
              refine hK.out _ _ CT.out (fun hHeld => ?_)
              clear hK K
              try simp only [Act.put, lq0, lq1, lq2, lq3, lq4, lq5]
              refine wpAnyH_ready (rs := [7]) (by kernel_rfl) (by simp) ?_
              refine AllReadyH.cons rfl (fun K hK => ?_) AllReadyH.nil
              go_simp
              have CR := Lib.hid (lit_rd v1 (.int .i64 y.n.house) (.int .i64 y.n.num))
              replace CS := Lib.hid (CS.out.below ((Below.refl v1.heap.size v1).alloc (Nat.le_refl _) (.cells #[.int .i64 y.n.house, .int .i64 y.n.num] 45)))
              replace CT := Lib.hid (heap_before v1 (.cells #[.int .i64 y.n.house, .int .i64 y.n.num] 45) _ _ CT.out)
              refine hK.out _ _ CT.out (fun hHeld => ?_)
              clear hK K
              try simp only [Act.put, lq0, lq1, lq2, lq3, lq4, lq5]
              refine wpAnyH_ready (rs := [8]) (by kernel_rfl) (by simp) ?_
              refine AllReadyH.cons rfl (fun K hK => ?_) AllReadyH.nil
              obtain ⟨a', c', v3, hrun, ho, hg⟩ := run_app_nm _ w.heap.size va vn vc _ CS.out.own _ 1 1 _ CR.out (by simp [Value.oneCell']) (by have h1 := CS.out.own.1; have h2 := CS.out.rng.count; have h3 := HNn.out; have h4 : (vacs f ks).length ≤ ks.length := List.length_filter_le _ _; rw [nmCells_len] at h1; simp at h2; omega) CS.out.bel.size
              have HO3 := Lib.hid ho
              have HG3 := Lib.hid hg
              have h5 := own_no CS.out.own CT.out (by intro cur; simp)
              have hb1 : _ = some _ := CS.out.blk
              have CB3 := Lib.hid (grown_blk hg hb1 (own_no CS.out.own hb1 (by intro cur; simp)))
              replace CT := Lib.hid (grown_blk hg CT.out h5)
              clear ho hg h5 hb1
              rw [if_pos (by kernel_rfl)]
              refine oper_append _ _ _ rfl _ _ _ rfl rfl hrun ?_
              clear hrun
              refine hK.out _ _ CT.out (fun hHeld => ?_)
              clear hK K
              try simp only [Act.put, lq0, lq1, lq2, lq3, lq4, lq5]
              refine wpAnyH_take (i := 9) (v := .pointer (some ⟨pB, 0, none⟩)) rfl (by kernel_rfl) (by kernel_rfl) (by kernel_rfl) (fun _ _ _ h => h) (Or.inl ⟨by kernel_rfl, by intro W _; go_simp⟩) (by assumption) ?_
              try simp only [Act.put, lq0, lq1, lq2, lq3, lq4, lq5]
              refine wpAnyH_take (i := 10) (v := .pointer (some ⟨pB, 2, none⟩)) rfl (by kernel_rfl) (by kernel_rfl) (by kernel_rfl) (fun _ _ _ h => h) (Or.inl ⟨by kernel_rfl, by intro W _; go_simp⟩) (by assumption) ?_
              try simp only [Act.put, lq0, lq1, lq2, lq3, lq4, lq5]
              refine wpAnyH_ready (rs := [11]) (by kernel_rfl) (by simp) ?_
              refine AllReadyH.cons rfl (fun K hK => ?_) AllReadyH.nil
              have hc := cell_of CB3.out 2 (.slice va vn vc) rfl
              have hfz := frozen_of CB3.out 2
              have S9 := Lib.hid (CS.out.vacant HF.out HOk.out.2 HV.out HO3.out HG3.out)
              have h5 : some p5 ≠ some pB := fun e => by
                have h1 := CT.out
                rw [Option.some.inj e, CB3.out] at h1
                cases h1
              replace CT := Lib.hid (grown_blk (setCell_grown v3 pB 2 (.slice a' (vn + 1) c')) CT.out h5)
              go_simp
              refine hK.out _ _ CT.out (fun hHeld => ?_)
              clear hK K
              try simp only [Act.put, lq0, lq1, lq2, lq3, lq4, lq5]
              refine wpAnyH_done (by kernel_rfl) ?_ _
              refine NoPanic.normal ?_
              go_wp2_with fail
              go_roundw
              case rel => exact ⟨_, _, _, _, _, _, S9⟩
              case measure => rw [S9.out.rng.left_eq, HM.out]; exact HLT.out
            refine AllReadyH.cons rfl (fun K hK => ?_) AllReadyH.nil
            go_simp
            go_at_call 167
            refine (nameOf_any y.n y.sa y.sc _).mono ?_
            rintro e v1 ⟨rfl, b1⟩
            replace CS := Lib.hid (CS.out.below b1)
            replace CT := Lib.hid (below_blk b1 CT.out)
            clear b1
            dsimp only
            refine hK.out _ _ CT.out (fun hHeld => ?_)
            clear hK K
            try simp only [Act.put, lq0, lq1, lq2, lq3, lq4, lq5]
            refine wpAnyH_ready (rs := [4, 7]) (by kernel_rfl) (by simp) ?_
            refine AllReadyH.cons rfl (fun K hK => ?_) ?_
            · have hc := cell_of CS.out.blk 2 (.slice va vn vc) rfl
              go_simp
              clear hc
              refine hK.out _ _ CT.out (fun hHeld => ?_)
              clear hK K
              try simp only [Act.put, lq0, lq1, lq2, lq3, lq4, lq5]
              refine wpAnyH_ready (rs := [7]) (by kernel_rfl) (by simp) ?_
              refine AllReadyH.cons rfl (fun K hK => ?_) AllReadyH.nil
              go_simp
              have CR := Lib.hid (lit_rd v1 (.int .i64 y.n.house) (.int .i64 y.n.num))
              replace CS := Lib.hid (CS.out.below ((Below.refl v1.heap.size v1).alloc (Nat.le_refl _) (.cells #[.int .i64 y.n.house, .int .i64 y.n.num] 45)))
              replace CT := Lib.hid (heap_before v1 (.cells #[.int .i64 y.n.house, .int .i64 y.n.num] 45) _ _ CT.out)
              refine hK.out _ _ CT.out (fun hHeld => ?_)
              clear hK K
              try simp only [Act.put, lq0, lq1, lq2, lq3, lq4, lq5]
              refine wpAnyH_ready (rs := [8]) (by kernel_rfl) (by simp) ?_
              refine AllReadyH.cons rfl (fun K hK => ?_) AllReadyH.nil
              obtain ⟨a', c', v3, hrun, ho, hg⟩ := run_app_nm _ w.heap.size va vn vc _ CS.out.own _ 1 1 _ CR.out (by simp [Value.oneCell']) (by have h1 := CS.out.own.1; have h2 := CS.out.rng.count; have h3 := HNn.out; have h4 : (vacs f ks).length ≤ ks.length := List.length_filter_le _ _; rw [nmCells_len] at h1; simp at h2; omega) CS.out.bel.size
              have HO3 := Lib.hid ho
              have HG3 := Lib.hid hg
              have h5 := own_no CS.out.own CT.out (by intro cur; simp)
              have hb1 : _ = some _ := CS.out.blk
              have CB3 := Lib.hid (grown_blk hg hb1 (own_no CS.out.own hb1 (by intro cur; simp)))
              replace CT := Lib.hid (grown_blk hg CT.out h5)
              clear ho hg h5 hb1
              rw [if_pos (by kernel_rfl)]
              refine oper_append _ _ _ rfl _ _ _ rfl rfl hrun ?_
              clear hrun
              refine hK.out _ _ CT.out (fun hHeld => ?_)
              clear hK K
              try simp only [Act.put, lq0, lq1, lq2, lq3, lq4, lq5]
              refine wpAnyH_take (i := 9) (v := .pointer (some ⟨pB, 0, none⟩)) rfl (by kernel_rfl) (by kernel_rfl) (by kernel_rfl) (fun _ _ _ h => h) (Or.inl ⟨by kernel_rfl, by intro W _; go_simp⟩) (by assumption) ?_
              try simp only [Act.put, lq0, lq1, lq2, lq3, lq4, lq5]
              refine wpAnyH_take (i := 10) (v := .pointer (some ⟨pB, 2, none⟩)) rfl (by kernel_rfl) (by kernel_rfl) (by kernel_rfl) (fun _ _ _ h => h) (Or.inl ⟨by kernel_rfl, by intro W _; go_simp⟩) (by assumption) ?_
              try simp only [Act.put, lq0, lq1, lq2, lq3, lq4, lq5]
              refine wpAnyH_ready (rs := [11]) (by kernel_rfl) (by simp) ?_
              refine AllReadyH.cons rfl (fun K hK => ?_) AllReadyH.nil
              have hc := cell_of CB3.out 2 (.slice va vn vc) rfl
              have hfz := frozen_of CB3.out 2
              have S9 := Lib.hid (CS.out.vacant HF.out HOk.out.2 HV.out HO3.out HG3.out)
              have h5 : some p5 ≠ some pB := fun e => by
                have h1 := CT.out
                rw [Option.some.inj e, CB3.out] at h1
                cases h1
              replace CT := Lib.hid (grown_blk (setCell_grown v3 pB 2 (.slice a' (vn + 1) c')) CT.out h5)
              go_simp
              refine hK.out _ _ CT.out (fun hHeld => ?_)
              clear hK K
              try simp only [Act.put, lq0, lq1, lq2, lq3, lq4, lq5]
              refine wpAnyH_done (by kernel_rfl) ?_ _
              refine NoPanic.normal ?_
              go_wp2_with fail
              go_roundw
              case rel => exact ⟨_, _, _, _, _, _, S9⟩
              case measure => rw [S9.out.rng.left_eq, HM.out]; exact HLT.out
            refine AllReadyH.cons rfl (fun K hK => ?_) AllReadyH.nil
            go_simp
            have CR := Lib.hid (lit_rd v1 (.int .i64 y.n.house) (.int .i64 y.n.num))
            replace CS := Lib.hid (CS.out.below ((Below.refl v1.heap.size v1).alloc (Nat.le_refl _) (.cells #[.int .i64 y.n.house, .int .i64 y.n.num] 45)))
            replace CT := Lib.hid (heap_before v1 (.cells #[.int .i64 y.n.house, .int .i64 y.n.num] 45) _ _ CT.out)
            refine hK.out _ _ CT.out (fun hHeld => ?_)
            clear hK K
            try simp only [Act.put, lq0, lq1, lq2, lq3, lq4, lq5]
            refine wpAnyH_ready (rs := [4]) (by kernel_rfl) (by simp) ?_
            refine AllReadyH.cons rfl (fun K hK => ?_) AllReadyH.nil
            have hc := cell_of CS.out.blk 2 (.slice va vn vc) rfl
            go_simp
            clear hc
            refine hK.out _ _ CT.out (fun hHeld => ?_)
            clear hK K
            try simp only [Act.put, lq0, lq1, lq2, lq3, lq4, lq5]
            refine wpAnyH_ready (rs := [8]) (by kernel_rfl) (by simp) ?_
            refine AllReadyH.cons rfl (fun K hK => ?_) AllReadyH.nil
            obtain ⟨a', c', v3, hrun, ho, hg⟩ := run_app_nm _ w.heap.size va vn vc _ CS.out.own _ 1 1 _ CR.out (by simp [Value.oneCell']) (by have h1 := CS.out.own.1; have h2 := CS.out.rng.count; have h3 := HNn.out; have h4 : (vacs f ks).length ≤ ks.length := List.length_filter_le _ _; rw [nmCells_len] at h1; simp at h2; omega) CS.out.bel.size
            have HO3 := Lib.hid ho
            have HG3 := Lib.hid hg
            have h5 := own_no CS.out.own CT.out (by intro cur; simp)
            have hb1 : _ = some _ := CS.out.blk
            have CB3 := Lib.hid (grown_blk hg hb1 (own_no CS.out.own hb1 (by intro cur; simp)))
            replace CT := Lib.hid (grown_blk hg CT.out h5)
            clear ho hg h5 hb1
            rw [if_pos (by kernel_rfl)]
            refine oper_append _ _ _ rfl _ _ _ rfl rfl hrun ?_
            clear hrun
            refine hK.out _ _ CT.out (fun hHeld => ?_)
            clear hK K
            try simp only [Act.put, lq0, lq1, lq2, lq3, lq4, lq5]
            refine wpAnyH_take (i := 9) (v := .pointer (some ⟨pB, 0, none⟩)) rfl (by kernel_rfl) (by kernel_rfl) (by kernel_rfl) (fun _ _ _ h => h) (Or.inl ⟨by kernel_rfl, by intro W _; go_simp⟩) (by assumption) ?_
            try simp only [Act.put, lq0, lq1, lq2, lq3, lq4, lq5]
            refine wpAnyH_take (i := 10) (v := .pointer (some ⟨pB, 2, none⟩)) rfl (by kernel_rfl) (by kernel_rfl) (by kernel_rfl) (fun _ _ _ h => h) (Or.inl ⟨by kernel_rfl, by intro W _; go_simp⟩) (by assumption) ?_
            try simp only [Act.put, lq0, lq1, lq2, lq3, lq4, lq5]
            refine wpAnyH_ready (rs := [11]) (by kernel_rfl) (by simp) ?_
            refine AllReadyH.cons rfl (fun K hK => ?_) AllReadyH.nil
            have hc := cell_of CB3.out 2 (.slice va vn vc) rfl
            have hfz := frozen_of CB3.out 2
            have S9 := Lib.hid (CS.out.vacant HF.out HOk.out.2 HV.out HO3.out HG3.out)
            have h5 : some p5 ≠ some pB := fun e => by
              have h1 := CT.out
              rw [Option.some.inj e, CB3.out] at h1
              cases h1
            replace CT := Lib.hid (grown_blk (setCell_grown v3 pB 2 (.slice a' (vn + 1) c')) CT.out h5)
            go_simp
            refine hK.out _ _ CT.out (fun hHeld => ?_)
            clear hK K
            try simp only [Act.put, lq0, lq1, lq2, lq3, lq4, lq5]
            refine wpAnyH_done (by kernel_rfl) ?_ _
            refine NoPanic.normal ?_
            go_wp2_with fail
            go_roundw
            case rel => exact ⟨_, _, _, _, _, _, S9⟩
            case measure => rw [S9.out.rng.left_eq, HM.out]; exact HLT.out
          · have HDQ := Lib.hid hdq; clear hdq
            go_wp2_with (first
              | (refine wpList_load_rowG (by kernel_rfl) 47 _ rfl p5 rfl 47 (noteA y.n y.sa y.sc) (0, 0) _ CT.out Tryz.underlying47 rfl (I43.out _ _ _) ?_)
              | (refine wpList_load_rowG (by kernel_rfl) 47 _ rfl p6 rfl 47 (noteA q.n q.sa q.sc) (0, 0) _ CQ.out Tryz.underlying47 rfl (I43.out _ _ _) ?_))
            refine (judges_any y.n y.sa y.sc _ q.n q.sa q.sc).mono ?_
            rintro e w4 ⟨rfl, b4⟩
            replace CS := Lib.hid (CS.out.below b4)
            replace CT := Lib.hid (below_blk b4 CT.out)
            clear b4 CQ
            cases hjq : judgesB y.n q.n
            · have HV := Lib.hid (show vacB f y = true by simp [vacB, HD.out, refN, HFR.out, HDQ.out, hjq])
              clear hjq
              go_upto_region 8 with fail
              refine wp_region_noPanic ?_
              refine wp_region_held_drew (S := fun w' => w'.heap[p5]? = some (.cells (noteA y.n y.sa y.sc) 47 (0, 0))) (by kernel_rfl) (show w4.drew.heap[p5]? = _ from CT.out) (fun hHeld => ?_)
              replace CS := Lib.hid (CS.out.below ((Below.refl w4.heap.size w4).drew))
              replace CT := Lib.hid (show w4.drew.heap[p5]? = _ from CT.out)
              refine wpAnyH_take (i := 0) (v := .pointer (some ⟨pB, 0, none⟩)) rfl (by kernel_rfl) (by kernel_rfl) (by kernel_rfl) (fun _ _ _ h => h) (Or.inl ⟨by kernel_rfl, by intro W _; go_simp⟩) (by assumption) ?_
              try simp only [Act.put, lq0, lq1, lq2, lq3, lq4, lq5]
              refine wpAnyH_take (i := 1) (v := .pointer (some ⟨pB, 0, none⟩)) rfl (by kernel_rfl) (by kernel_rfl) (by kernel_rfl) (fun _ _ _ h => h) (Or.inl ⟨by kernel_rfl, by intro W _; go_simp⟩) (by assumption) ?_
              try simp only [Act.put, lq0, lq1, lq2, lq3, lq4, lq5]
              refine wpAnyH_take (i := 2) (v := .pointer (some ⟨pB, 0, none⟩)) rfl (by kernel_rfl) (by kernel_rfl) (by kernel_rfl) (fun _ _ _ h => h) (Or.inl ⟨by kernel_rfl, by intro W _; go_simp⟩) (by assumption) ?_
              try simp only [Act.put, lq0, lq1, lq2, lq3, lq4, lq5]
              refine wpAnyH_take (i := 3) (v := .pointer (some ⟨pB, 2, none⟩)) rfl (by kernel_rfl) (by kernel_rfl) (by kernel_rfl) (fun _ _ _ h => h) (Or.inl ⟨by kernel_rfl, by intro W _; go_simp⟩) (by assumption) ?_
              try simp only [Act.put, lq0, lq1, lq2, lq3, lq4, lq5]
              refine wpAnyH_take (i := 5) (v := .agg (noteA y.n y.sa y.sc)) rfl (by kernel_rfl) (by kernel_rfl) (by kernel_rfl) (fun _ _ _ h => h) (yields_row (by kernel_rfl) 47 _ rfl p5 rfl _ 47 (0, 0) _ (fun W h => h) Tryz.underlying47 rfl (I43.out _ _ _)) (by assumption) ?_
              try simp only [Act.put, lq0, lq1, lq2, lq3, lq4, lq5]
              refine wpAnyH_ready (rs := [4, 6]) (by kernel_rfl) (by simp) ?_
              refine AllReadyH.cons rfl (fun K hK => ?_) ?_
              · have hc := cell_of CS.out.blk 2 (.slice va vn vc) rfl
                go_simp
                clear hc
                refine hK.out _ _ CT.out (fun hHeld => ?_)
                clear hK K
                try simp only [Act.put, lq0, lq1, lq2, lq3, lq4, lq5]
                refine wpAnyH_ready (rs := [6]) (by kernel_rfl) (by simp) ?_
                refine AllReadyH.cons rfl (fun K hK => ?_) AllReadyH.nil
                go_simp
                go_at_call 167
                refine (nameOf_any y.n y.sa y.sc _).mono ?_
                rintro e v1 ⟨rfl, b1⟩
                replace CS := Lib.hid (CS.out.below b1)
                replace CT := Lib.hid (below_blk b1 CT.out)
                clear b1
                dsimp only
                refine hK.out _ _ CT.out (fun hHeld => ?_)
                clear hK K
                try simp only [Act.put, lq0, lq1, lq2, lq3, lq4, lq5]
                refine wpAnyH_ready (rs := [7]) (by kernel_rfl) (by simp) ?_
                refine AllReadyH.cons rfl (fun K hK => ?_) AllReadyH.nil
                go_simp
                have CR := Lib.hid (lit_rd v1 (.int .i64 y.n.house) (.int .i64 y.n.num))
                replace CS := Lib.hid (CS.out.below ((Below.refl v1.heap.size v1).alloc (Nat.le_refl _) (.cells #[.int .i64 y.n.house, .int .i64 y.n.num] 45)))
                replace CT := Lib.hid (heap_before v1 (.cells #[.int .i64 y.n.house, .int .i64 y.n.num] 45) _ _ CT.out)
                refine hK.out _ _ CT.out (fun hHeld => ?_)
                clear hK K
                try simp only [Act.put, lq0, lq1, lq2, lq3, lq4, lq5]
                refine wpAnyH_ready (rs := [8]) (by kernel_rfl) (by simp) ?_
                refine AllReadyH.cons rfl (fun K hK => ?_) AllReadyH.nil
                obtain ⟨a', c', v3, hrun, ho, hg⟩ := run_app_nm _ w.heap.size va vn vc _ CS.out.own _ 1 1 _ CR.out (by simp [Value.oneCell']) (by have h1 := CS.out.own.1; have h2 := CS.out.rng.count; have h3 := HNn.out; have h4 : (vacs f ks).length ≤ ks.length := List.length_filter_le _ _; rw [nmCells_len] at h1; simp at h2; omega) CS.out.bel.size
                have HO3 := Lib.hid ho
                have HG3 := Lib.hid hg
                have h5 := own_no CS.out.own CT.out (by intro cur; simp)
                have hb1 : _ = some _ := CS.out.blk
                have CB3 := Lib.hid (grown_blk hg hb1 (own_no CS.out.own hb1 (by intro cur; simp)))
                replace CT := Lib.hid (grown_blk hg CT.out h5)
                clear ho hg h5 hb1
                rw [if_pos (by kernel_rfl)]
                refine oper_append _ _ _ rfl _ _ _ rfl rfl hrun ?_
                clear hrun
                refine hK.out _ _ CT.out (fun hHeld => ?_)
                clear hK K
                try simp only [Act.put, lq0, lq1, lq2, lq3, lq4, lq5]
                refine wpAnyH_take (i := 9) (v := .pointer (some ⟨pB, 0, none⟩)) rfl (by kernel_rfl) (by kernel_rfl) (by kernel_rfl) (fun _ _ _ h => h) (Or.inl ⟨by kernel_rfl, by intro W _; go_simp⟩) (by assumption) ?_
                try simp only [Act.put, lq0, lq1, lq2, lq3, lq4, lq5]
                refine wpAnyH_take (i := 10) (v := .pointer (some ⟨pB, 2, none⟩)) rfl (by kernel_rfl) (by kernel_rfl) (by kernel_rfl) (fun _ _ _ h => h) (Or.inl ⟨by kernel_rfl, by intro W _; go_simp⟩) (by assumption) ?_
                try simp only [Act.put, lq0, lq1, lq2, lq3, lq4, lq5]
                refine wpAnyH_ready (rs := [11]) (by kernel_rfl) (by simp) ?_
                refine AllReadyH.cons rfl (fun K hK => ?_) AllReadyH.nil
                have hc := cell_of CB3.out 2 (.slice va vn vc) rfl
                have hfz := frozen_of CB3.out 2
                have S9 := Lib.hid (CS.out.vacant HF.out HOk.out.2 HV.out HO3.out HG3.out)
                have h5 : some p5 ≠ some pB := fun e => by
                  have h1 := CT.out
                  rw [Option.some.inj e, CB3.out] at h1
                  cases h1
                replace CT := Lib.hid (grown_blk (setCell_grown v3 pB 2 (.slice a' (vn + 1) c')) CT.out h5)
                go_simp
                refine hK.out _ _ CT.out (fun hHeld => ?_)
                clear hK K
                try simp only [Act.put, lq0, lq1, lq2, lq3, lq4, lq5]
                refine wpAnyH_done (by kernel_rfl) ?_ _
                refine NoPanic.normal ?_
                go_wp2_with fail
                go_roundw
                case rel => exact ⟨_, _, _, _, _, _, S9⟩
                case measure => rw [S9.out.rng.left_eq, HM.out]; exact HLT.out
              refine AllReadyH.cons rfl (fun K hK => ?_) AllReadyH.nil
              go_simp
              go_at_call 167
              refine (nameOf_any y.n y.sa y.sc _).mono ?_
              rintro e v1 ⟨rfl, b1⟩
              replace CS := Lib.hid (CS.out.below b1)
              replace CT := Lib.hid (below_blk b1 CT.out)
              clear b1
              dsimp only
              refine hK.out _ _ CT.out (fun hHeld => ?_)
              clear hK K
              try simp only [Act.put, lq0, lq1, lq2, lq3, lq4, lq5]
              refine wpAnyH_ready (rs := [4, 7]) (by kernel_rfl) (by simp) ?_
              refine AllReadyH.cons rfl (fun K hK => ?_) ?_
              · have hc := cell_of CS.out.blk 2 (.slice va vn vc) rfl
                go_simp
                clear hc
                refine hK.out _ _ CT.out (fun hHeld => ?_)
                clear hK K
                try simp only [Act.put, lq0, lq1, lq2, lq3, lq4, lq5]
                refine wpAnyH_ready (rs := [7]) (by kernel_rfl) (by simp) ?_
                refine AllReadyH.cons rfl (fun K hK => ?_) AllReadyH.nil
                go_simp
                have CR := Lib.hid (lit_rd v1 (.int .i64 y.n.house) (.int .i64 y.n.num))
                replace CS := Lib.hid (CS.out.below ((Below.refl v1.heap.size v1).alloc (Nat.le_refl _) (.cells #[.int .i64 y.n.house, .int .i64 y.n.num] 45)))
                replace CT := Lib.hid (heap_before v1 (.cells #[.int .i64 y.n.house, .int .i64 y.n.num] 45) _ _ CT.out)
                refine hK.out _ _ CT.out (fun hHeld => ?_)
                clear hK K
                try simp only [Act.put, lq0, lq1, lq2, lq3, lq4, lq5]
                refine wpAnyH_ready (rs := [8]) (by kernel_rfl) (by simp) ?_
                refine AllReadyH.cons rfl (fun K hK => ?_) AllReadyH.nil
                obtain ⟨a', c', v3, hrun, ho, hg⟩ := run_app_nm _ w.heap.size va vn vc _ CS.out.own _ 1 1 _ CR.out (by simp [Value.oneCell']) (by have h1 := CS.out.own.1; have h2 := CS.out.rng.count; have h3 := HNn.out; have h4 : (vacs f ks).length ≤ ks.length := List.length_filter_le _ _; rw [nmCells_len] at h1; simp at h2; omega) CS.out.bel.size
                have HO3 := Lib.hid ho
                have HG3 := Lib.hid hg
                have h5 := own_no CS.out.own CT.out (by intro cur; simp)
                have hb1 : _ = some _ := CS.out.blk
                have CB3 := Lib.hid (grown_blk hg hb1 (own_no CS.out.own hb1 (by intro cur; simp)))
                replace CT := Lib.hid (grown_blk hg CT.out h5)
                clear ho hg h5 hb1
                rw [if_pos (by kernel_rfl)]
                refine oper_append _ _ _ rfl _ _ _ rfl rfl hrun ?_
                clear hrun
                refine hK.out _ _ CT.out (fun hHeld => ?_)
                clear hK K
                try simp only [Act.put, lq0, lq1, lq2, lq3, lq4, lq5]
                refine wpAnyH_take (i := 9) (v := .pointer (some ⟨pB, 0, none⟩)) rfl (by kernel_rfl) (by kernel_rfl) (by kernel_rfl) (fun _ _ _ h => h) (Or.inl ⟨by kernel_rfl, by intro W _; go_simp⟩) (by assumption) ?_
                try simp only [Act.put, lq0, lq1, lq2, lq3, lq4, lq5]
                refine wpAnyH_take (i := 10) (v := .pointer (some ⟨pB, 2, none⟩)) rfl (by kernel_rfl) (by kernel_rfl) (by kernel_rfl) (fun _ _ _ h => h) (Or.inl ⟨by kernel_rfl, by intro W _; go_simp⟩) (by assumption) ?_
                try simp only [Act.put, lq0, lq1, lq2, lq3, lq4, lq5]
                refine wpAnyH_ready (rs := [11]) (by kernel_rfl) (by simp) ?_
                refine AllReadyH.cons rfl (fun K hK => ?_) AllReadyH.nil
                have hc := cell_of CB3.out 2 (.slice va vn vc) rfl
                have hfz := frozen_of CB3.out 2
                have S9 := Lib.hid (CS.out.vacant HF.out HOk.out.2 HV.out HO3.out HG3.out)
                have h5 : some p5 ≠ some pB := fun e => by
                  have h1 := CT.out
                  rw [Option.some.inj e, CB3.out] at h1
                  cases h1
                replace CT := Lib.hid (grown_blk (setCell_grown v3 pB 2 (.slice a' (vn + 1) c')) CT.out h5)
                go_simp
                refine hK.out _ _ CT.out (fun hHeld => ?_)
                clear hK K
                try simp only [Act.put, lq0, lq1, lq2, lq3, lq4, lq5]
                refine wpAnyH_done (by kernel_rfl) ?_ _
                refine NoPanic.normal ?_
                go_wp2_with fail
                go_roundw
                case rel => exact ⟨_, _, _, _, _, _, S9⟩
                case measure => rw [S9.out.rng.left_eq, HM.out]; exact HLT.out
              refine AllReadyH.cons rfl (fun K hK => ?_) AllReadyH.nil
              go_simp
              have CR := Lib.hid (lit_rd v1 (.int .i64 y.n.house) (.int .i64 y.n.num))
              replace CS := Lib.hid (CS.out.below ((Below.refl v1.heap.size v1).alloc (Nat.le_refl _) (.cells #[.int .i64 y.n.house, .int .i64 y.n.num] 45)))
              replace CT := Lib.hid (heap_before v1 (.cells #[.int .i64 y.n.house, .int .i64 y.n.num] 45) _ _ CT.out)
              refine hK.out _ _ CT.out (fun hHeld => ?_)
              clear hK K
              try simp only [Act.put, lq0, lq1, lq2, lq3, lq4, lq5]
              refine wpAnyH_ready (rs := [4]) (by kernel_rfl) (by simp) ?_
              refine AllReadyH.cons rfl (fun K hK => ?_) AllReadyH.nil
              have hc := cell_of CS.out.blk 2 (.slice va vn vc) rfl
              go_simp
              clear hc
              refine hK.out _ _ CT.out (fun hHeld => ?_)
              clear hK K
              try simp only [Act.put, lq0, lq1, lq2, lq3, lq4, lq5]
              refine wpAnyH_ready (rs := [8]) (by kernel_rfl) (by simp) ?_
              refine AllReadyH.cons rfl (fun K hK => ?_) AllReadyH.nil
              obtain ⟨a', c', v3, hrun, ho, hg⟩ := run_app_nm _ w.heap.size va vn vc _ CS.out.own _ 1 1 _ CR.out (by simp [Value.oneCell']) (by have h1 := CS.out.own.1; have h2 := CS.out.rng.count; have h3 := HNn.out; have h4 : (vacs f ks).length ≤ ks.length := List.length_filter_le _ _; rw [nmCells_len] at h1; simp at h2; omega) CS.out.bel.size
              have HO3 := Lib.hid ho
              have HG3 := Lib.hid hg
              have h5 := own_no CS.out.own CT.out (by intro cur; simp)
              have hb1 : _ = some _ := CS.out.blk
              have CB3 := Lib.hid (grown_blk hg hb1 (own_no CS.out.own hb1 (by intro cur; simp)))
              replace CT := Lib.hid (grown_blk hg CT.out h5)
              clear ho hg h5 hb1
              rw [if_pos (by kernel_rfl)]
              refine oper_append _ _ _ rfl _ _ _ rfl rfl hrun ?_
              clear hrun
              refine hK.out _ _ CT.out (fun hHeld => ?_)
              clear hK K
              try simp only [Act.put, lq0, lq1, lq2, lq3, lq4, lq5]
              refine wpAnyH_take (i := 9) (v := .pointer (some ⟨pB, 0, none⟩)) rfl (by kernel_rfl) (by kernel_rfl) (by kernel_rfl) (fun _ _ _ h => h) (Or.inl ⟨by kernel_rfl, by intro W _; go_simp⟩) (by assumption) ?_
              try simp only [Act.put, lq0, lq1, lq2, lq3, lq4, lq5]
              refine wpAnyH_take (i := 10) (v := .pointer (some ⟨pB, 2, none⟩)) rfl (by kernel_rfl) (by kernel_rfl) (by kernel_rfl) (fun _ _ _ h => h) (Or.inl ⟨by kernel_rfl, by intro W _; go_simp⟩) (by assumption) ?_
              try simp only [Act.put, lq0, lq1, lq2, lq3, lq4, lq5]
              refine wpAnyH_ready (rs := [11]) (by kernel_rfl) (by simp) ?_
              refine AllReadyH.cons rfl (fun K hK => ?_) AllReadyH.nil
              have hc := cell_of CB3.out 2 (.slice va vn vc) rfl
              have hfz := frozen_of CB3.out 2
              have S9 := Lib.hid (CS.out.vacant HF.out HOk.out.2 HV.out HO3.out HG3.out)
              have h5 : some p5 ≠ some pB := fun e => by
                have h1 := CT.out
                rw [Option.some.inj e, CB3.out] at h1
                cases h1
              replace CT := Lib.hid (grown_blk (setCell_grown v3 pB 2 (.slice a' (vn + 1) c')) CT.out h5)
              go_simp
              refine hK.out _ _ CT.out (fun hHeld => ?_)
              clear hK K
              try simp only [Act.put, lq0, lq1, lq2, lq3, lq4, lq5]
              refine wpAnyH_done (by kernel_rfl) ?_ _
              refine NoPanic.normal ?_
              go_wp2_with fail
              go_roundw
              case rel => exact ⟨_, _, _, _, _, _, S9⟩
              case measure => rw [S9.out.rng.left_eq, HM.out]; exact HLT.out
            · have HV := Lib.hid (show vacB f y = false by simp [vacB, HD.out, refN, HFR.out, HDQ.out, hjq])
              have HC := Lib.hid (cand_not_vac HD.out HV.out)
              clear hjq HFR HDQ
              cases hJ : J (y.n.refH, y.n.refN) with
              | none =>
                have HJok := Lib.hid (show JudgeOk f (ks ++ [(kh, km)]) (updF J (refN y) y) from CS.out.jok.put HF.out HC.out (fun z hz => by rw [show J (refN y) = none from hJ] at hz; cases hz))
                have HJ := Lib.hid hJ; clear hJ
                go_upto_region 9 with fail
                refine wp_region_noPanic ?_
                refine wp_region_held_drew (S := fun w' => SitAt w w' bS pB bJ r n f (ks ++ [(kh, km)]) ks cnt1 va vn vc J ∧ w'.heap[p5]? = some (.cells (noteA y.n y.sa y.sc) 47 (0, 0))) (by kernel_rfl) (show SitAt w w4.drew bS pB bJ r n f (ks ++ [(kh, km)]) ks cnt1 va vn vc J ∧ w4.drew.heap[p5]? = _ from ⟨CS.out.below ((Below.refl w4.heap.size w4).drew), CT.out⟩) (fun hHeld => ?_)
                refine wpAnyH_take (i := 0) (v := .pointer (some ⟨pB, 0, none⟩)) rfl (by kernel_rfl) (by kernel_rfl) (by kernel_rfl) (fun _ _ _ h => h) (Or.inl ⟨by kernel_rfl, by intro W _; go_simp⟩) (by assumption) ?_
                try simp only [Act.put, lq0, lq1, lq2, lq3, lq4, lq5]
                refine wpAnyH_take (i := 1) (v := .pointer (some ⟨pB, 0, none⟩)) rfl (by kernel_rfl) (by kernel_rfl) (by kernel_rfl) (fun _ _ _ h => h) (Or.inl ⟨by kernel_rfl, by intro W _; go_simp⟩) (by assumption) ?_
                try simp only [Act.put, lq0, lq1, lq2, lq3, lq4, lq5]
                refine wpAnyH_take (i := 2) (v := .pointer (some ⟨pB, 1, none⟩)) rfl (by kernel_rfl) (by kernel_rfl) (by kernel_rfl) (fun _ _ _ h => h) (Or.inl ⟨by kernel_rfl, by intro W _; go_simp⟩) (by assumption) ?_
                try simp only [Act.put, lq0, lq1, lq2, lq3, lq4, lq5]
                refine wpAnyH_take (i := 3) (v := .map (some bJ)) rfl (by kernel_rfl) (by kernel_rfl) (by kernel_rfl) (fun _ _ _ h => h) (Or.inl ⟨by kernel_rfl, by intro W h; have hc := cell_of h.1.blk 1 (.map (some bJ)) rfl; go_simp⟩) (by assumption) ?_
                try simp only [Act.put, lq0, lq1, lq2, lq3, lq4, lq5]
                refine wpAnyH_take (i := 4) (v := .pointer (some ⟨p5, 16, none⟩)) rfl (by kernel_rfl) (by kernel_rfl) (by kernel_rfl) (fun _ _ _ h => h) (Or.inl ⟨by kernel_rfl, by intro W _; go_simp⟩) (by assumption) ?_
                try simp only [Act.put, lq0, lq1, lq2, lq3, lq4, lq5]
                refine wpAnyH_take (i := 5) (v := .agg #[.int .i64 y.n.refH, .int .i64 y.n.refN]) rfl (by kernel_rfl) (by kernel_rfl) (by kernel_rfl) (fun _ _ _ h => h) (Or.inl ⟨by kernel_rfl, by intro W h; have h0 := cell_of h.2 16 (.int .i64 y.n.refH) rfl; have h1 := cell_of h.2 17 (.int .i64 y.n.refN) rfl; go_simp⟩) (by assumption) ?_
                try simp only [Act.put, lq0, lq1, lq2, lq3, lq4, lq5]
                refine wpAnyH_take (i := 6) (v := .tuple #[.agg (noteA zeroN none 0), .bool false]) rfl (by kernel_rfl) (by kernel_rfl) (by kernel_rfl) (fun _ _ _ h => h) (Or.inl ⟨by kernel_rfl, by intro W h; have hg : (Instr.lookup 106 (.map (some bJ)) (.agg #[.int .i64 y.n.refH, .int .i64 y.n.refN]) true).run Tryz.prog W = .ok (.tuple #[.agg (noteA zeroN none 0), .bool false]) W := (by have h2 := run_get_nm (t := 106) h.1.jm Tryz.underlying106 (zero_note W) y.n.refH y.n.refN HRok.out; rw [HJ.out] at h2; exact h2); go_simp⟩) (by assumption) ?_
                try simp only [Act.put, lq0, lq1, lq2, lq3, lq4, lq5]
                refine wpAnyH_take (i := 7) (v := .tuple #[.agg (noteA zeroN none 0), .bool false]) rfl (by kernel_rfl) (by kernel_rfl) (by kernel_rfl) (fun _ _ _ h => h) (Or.inl ⟨by kernel_rfl, by intro W _; go_simp⟩) (by assumption) ?_
                try simp only [Act.put, lq0, lq1, lq2, lq3, lq4, lq5]
                refine wpAnyH_take (i := 8) (v := .agg (noteA zeroN none 0)) rfl (by kernel_rfl) (by kernel_rfl) (by kernel_rfl) (fun _ _ _ h => h) (Or.inl ⟨by kernel_rfl, by intro W _; go_simp⟩) (by assumption) ?_
                try simp only [Act.put, lq0, lq1, lq2, lq3, lq4, lq5]
                refine wpAnyH_take (i := 9) (v := .bool false) rfl (by kernel_rfl) (by kernel_rfl) (by kernel_rfl) (fun _ _ _ h => h) (Or.inl ⟨by kernel_rfl, by intro W _; go_simp⟩) (by assumption) ?_
                try simp only [Act.put, lq0, lq1, lq2, lq3, lq4, lq5]
                refine wpAnyH_ready (rs := [10]) (by kernel_rfl) (by simp) ?_
                refine AllReadyH.cons rfl (fun K hK => ?_) AllReadyH.nil
                go_simp
                refine hK.out _ _ ⟨hHeld.1.below ((Below.refl _ _).alloc (Nat.le_refl _) _), below_blk ((Below.refl _ _).alloc (Nat.le_refl _) _) hHeld.2⟩ (fun hHeld => ?_)
                clear hK K
                try simp only [Act.put, lq0, lq1, lq2, lq3, lq4, lq5]
                refine wpAnyH_ready (rs := [11]) (by kernel_rfl) (by simp) ?_
                refine AllReadyH.cons rfl (fun K hK => ?_) AllReadyH.nil
                rw [if_pos (by kernel_rfl)]
                refine oper_store_blk 47 _ _ rfl w4.drew.heap.size _ (noteA zeroN none 0) 47 rfl rfl (heap_last _ _) (I43.out _ _ _) rfl (noteA_one _ _ _) ?_
                intro w5 h8 hg8 hs8
                have b8 : Below w4.drew.heap.size w4.drew w5 := ((Below.refl w4.drew.heap.size w4.drew).alloc (Nat.le_refl _) _).grown hg8 (by simp) (fun q hq => by cases hq; exact Nat.le_refl _)
                have S5 := CS.out.below (Below.trans ((Below.refl w4.heap.size w4).drew) b8)
                have T5 : w5.heap[p5]? = _ := below_blk (Below.trans ((Below.refl w4.heap.size w4).drew) b8) CT.out
                replace CS := Lib.hid S5
                replace CT := Lib.hid T5
                have C8 := Lib.hid h8
                clear S5 T5 b8 h8 hg8 hs8
                simp only [Act.put, lq0, lq1, lq2]
                refine hK.out _ _ ⟨CS.out, CT.out⟩ (fun hHeld => ?_)
                clear hK K
                try simp only [Act.put, lq0, lq1, lq2, lq3, lq4, lq5]
                refine wpAnyH_take (i := 12) (oi := { dst := some 9, op := .assign (.tmp 62), type := _, pos := _, after := _, guard := none }) (v := .bool false) rfl (by kernel_rfl) (by kernel_rfl) (by kernel_rfl) (fun _ _ _ h => h) (Or.inl ⟨by kernel_rfl, by intro W _; go_simp⟩) (by assumption) ?_
                try simp only [Act.put, lq0, lq1, lq2, lq3, lq4, lq5]
                refine wpAnyH_done (by kernel_rfl) ?_ _
                refine NoPanic.normal ?_
                obtain ⟨p8, hp8⟩ : ∃ p8, Hid (w4.heap.size = p8) := ⟨_, Lib.hid rfl⟩
                have C8b : w5.heap[w4.heap.size]? = some (.cells (noteA zeroN none 0) 47 (0, 0)) := C8.out
                rw [hp8.out] at C8b
                replace C8 := Lib.hid C8b
                clear C8b
                rw [hp8.out]
                go_upto_region 11 with fail
                refine wp_region_noPanic ?_
                refine wp_region_held_drew (S := fun w' => benchAt w' pB bS bJ va vn vc ∧ w'.heap[p5]? = some (.cells (noteA y.n y.sa y.sc) 47 (0, 0))) (by kernel_rfl) (show benchAt w5.drew pB bS bJ va vn vc ∧ w5.drew.heap[p5]? = _ from ⟨CS.out.blk, CT.out⟩) (fun hHeld => ?_)
                replace CS := Lib.hid (CS.out.below ((Below.refl w5.heap.size w5).drew))
                replace CT := Lib.hid (show w5.drew.heap[p5]? = _ from CT.out)
                refine wpAnyH_take (i := 0) (v := .pointer (some ⟨pB, 0, none⟩)) rfl (by kernel_rfl) (by kernel_rfl) (by kernel_rfl) (fun _ _ _ h => h) (Or.inl ⟨by kernel_rfl, by intro W _; go_simp⟩) (by assumption) ?_
                try simp only [Act.put, lq0, lq1, lq2, lq3, lq4, lq5]
                refine wpAnyH_take (i := 1) (v := .pointer (some ⟨pB, 0, none⟩)) rfl (by kernel_rfl) (by kernel_rfl) (by kernel_rfl) (fun _ _ _ h => h) (Or.inl ⟨by kernel_rfl, by intro W _; go_simp⟩) (by assumption) ?_
                try simp only [Act.put, lq0, lq1, lq2, lq3, lq4, lq5]
                refine wpAnyH_take (i := 2) (v := .pointer (some ⟨pB, 1, none⟩)) rfl (by kernel_rfl) (by kernel_rfl) (by kernel_rfl) (fun _ _ _ h => h) (Or.inl ⟨by kernel_rfl, by intro W _; go_simp⟩) (by assumption) ?_
                try simp only [Act.put, lq0, lq1, lq2, lq3, lq4, lq5]
                refine wpAnyH_take (i := 3) (v := .map (some bJ)) rfl (by kernel_rfl) (by kernel_rfl) (by kernel_rfl) (fun _ _ _ h => h) (Or.inl ⟨by kernel_rfl, by intro W h; have hc := cell_of h.1 1 (.map (some bJ)) rfl; go_simp⟩) (by assumption) ?_
                try simp only [Act.put, lq0, lq1, lq2, lq3, lq4, lq5]
                refine wpAnyH_take (i := 4) (v := .pointer (some ⟨p5, 16, none⟩)) rfl (by kernel_rfl) (by kernel_rfl) (by kernel_rfl) (fun _ _ _ h => h) (Or.inl ⟨by kernel_rfl, by intro W _; go_simp⟩) (by assumption) ?_
                try simp only [Act.put, lq0, lq1, lq2, lq3, lq4, lq5]
                refine wpAnyH_take (i := 5) (v := .agg #[.int .i64 y.n.refH, .int .i64 y.n.refN]) rfl (by kernel_rfl) (by kernel_rfl) (by kernel_rfl) (fun _ _ _ h => h) (Or.inl ⟨by kernel_rfl, by intro W h; have h0 := cell_of h.2 16 (.int .i64 y.n.refH) rfl; have h1 := cell_of h.2 17 (.int .i64 y.n.refN) rfl; go_simp⟩) (by assumption) ?_
                try simp only [Act.put, lq0, lq1, lq2, lq3, lq4, lq5]
                refine wpAnyH_take (i := 6) (v := .agg (noteA y.n y.sa y.sc)) rfl (by kernel_rfl) (by kernel_rfl) (by kernel_rfl) (fun _ _ _ h => h) (yields_row (by kernel_rfl) 47 _ rfl p5 rfl _ 47 (0, 0) _ (fun W h => h.2) Tryz.underlying47 rfl (I43.out _ _ _)) (by assumption) ?_
                try simp only [Act.put, lq0, lq1, lq2, lq3, lq4, lq5]
                refine wpAnyH_ready (rs := [7]) (by kernel_rfl) (by simp) ?_
                refine AllReadyH.cons rfl (fun K hK => ?_) AllReadyH.nil
                obtain ⟨v9, hrun, hm9, ht9⟩ := run_put_nm (t := 106) CS.out.jm (by have h2 := CS.out.rng.count; have h3 := HNn.out; simp at h2; unfold maxLen; omega) Tryz.underlying106 y.n.refH y.n.refN HRok.out y
                have S9 := Lib.hid (CS.out.judged HF.out HV.out HJok.out hm9 ht9)
                have hpj : some p5 ≠ some bJ := fun e => by
                  obtain ⟨es, clock, h1⟩ := CS.out.jm.blk
                  rw [← Option.some.inj e, CT.out] at h1
                  cases h1
                have T9 := Lib.hid (grown_blk ht9.grown CT.out hpj)
                clear hm9 ht9 hpj
                unfold LN.val at hrun
                go_simp
                refine hK.out _ _ ⟨S9.out.blk, T9.out⟩ (fun hHeld => ?_)
                clear hK K
                try simp only [Act.put, lq0, lq1, lq2, lq3, lq4, lq5]
                refine wpAnyH_done (by kernel_rfl) ?_ _
                refine NoPanic.normal ?_
                go_wp2_with fail
                go_roundw
                case rel => exact ⟨_, _, _, _, _, _, S9⟩
                case measure => rw [S9.out.rng.left_eq, HM.out]; exact HLT.out
              | some z =>
                have HJ := Lib.hid hJ; clear hJ
                go_upto_region 9 with fail
                refine wp_region_noPanic ?_
                refine wp_region_held_drew (S := fun w' => SitAt w w' bS pB bJ r n f (ks ++ [(kh, km)]) ks cnt1 va vn vc J ∧ w'.heap[p5]? = some (.cells (noteA y.n y.sa y.sc) 47 (0, 0))) (by kernel_rfl) (show SitAt w w4.drew bS pB bJ r n f (ks ++ [(kh, km)]) ks cnt1 va vn vc J ∧ w4.drew.heap[p5]? = _ from ⟨CS.out.below ((Below.refl w4.heap.size w4).drew), CT.out⟩) (fun hHeld => ?_)
                refine wpAnyH_take (i := 0) (v := .pointer (some ⟨pB, 0, none⟩)) rfl (by kernel_rfl) (by kernel_rfl) (by kernel_rfl) (fun _ _ _ h => h) (Or.inl ⟨by kernel_rfl, by intro W _; go_simp⟩) (by assumption) ?_
                try simp only [Act.put, lq0, lq1, lq2, lq3, lq4, lq5]
                refine wpAnyH_take (i := 1) (v := .pointer (some ⟨pB, 0, none⟩)) rfl (by kernel_rfl) (by kernel_rfl) (by kernel_rfl) (fun _ _ _ h => h) (Or.inl ⟨by kernel_rfl, by intro W _; go_simp⟩) (by assumption) ?_
                try simp only [Act.put, lq0, lq1, lq2, lq3, lq4, lq5]
                refine wpAnyH_take (i := 2) (v := .pointer (some ⟨pB, 1, none⟩)) rfl (by kernel_rfl) (by kernel_rfl) (by kernel_rfl) (fun _ _ _ h => h) (Or.inl ⟨by kernel_rfl, by intro W _; go_simp⟩) (by assumption) ?_
                try simp only [Act.put, lq0, lq1, lq2, lq3, lq4, lq5]
                refine wpAnyH_take (i := 3) (v := .map (some bJ)) rfl (by kernel_rfl) (by kernel_rfl) (by kernel_rfl) (fun _ _ _ h => h) (Or.inl ⟨by kernel_rfl, by intro W h; have hc := cell_of h.1.blk 1 (.map (some bJ)) rfl; go_simp⟩) (by assumption) ?_
                try simp only [Act.put, lq0, lq1, lq2, lq3, lq4, lq5]
                refine wpAnyH_take (i := 4) (v := .pointer (some ⟨p5, 16, none⟩)) rfl (by kernel_rfl) (by kernel_rfl) (by kernel_rfl) (fun _ _ _ h => h) (Or.inl ⟨by kernel_rfl, by intro W _; go_simp⟩) (by assumption) ?_
                try simp only [Act.put, lq0, lq1, lq2, lq3, lq4, lq5]
                refine wpAnyH_take (i := 5) (v := .agg #[.int .i64 y.n.refH, .int .i64 y.n.refN]) rfl (by kernel_rfl) (by kernel_rfl) (by kernel_rfl) (fun _ _ _ h => h) (Or.inl ⟨by kernel_rfl, by intro W h; have h0 := cell_of h.2 16 (.int .i64 y.n.refH) rfl; have h1 := cell_of h.2 17 (.int .i64 y.n.refN) rfl; go_simp⟩) (by assumption) ?_
                try simp only [Act.put, lq0, lq1, lq2, lq3, lq4, lq5]
                refine wpAnyH_take (i := 6) (v := .tuple #[.agg (noteA z.n z.sa z.sc), .bool true]) rfl (by kernel_rfl) (by kernel_rfl) (by kernel_rfl) (fun _ _ _ h => h) (Or.inl ⟨by kernel_rfl, by intro W h; have hg : (Instr.lookup 106 (.map (some bJ)) (.agg #[.int .i64 y.n.refH, .int .i64 y.n.refN]) true).run Tryz.prog W = .ok (.tuple #[.agg (noteA z.n z.sa z.sc), .bool true]) W := (by have h2 := run_get_nm (t := 106) h.1.jm Tryz.underlying106 (zero_note W) y.n.refH y.n.refN HRok.out; rw [HJ.out] at h2; exact h2); go_simp⟩) (by assumption) ?_
                try simp only [Act.put, lq0, lq1, lq2, lq3, lq4, lq5]
                refine wpAnyH_take (i := 7) (v := .tuple #[.agg (noteA z.n z.sa z.sc), .bool true]) rfl (by kernel_rfl) (by kernel_rfl) (by kernel_rfl) (fun _ _ _ h => h) (Or.inl ⟨by kernel_rfl, by intro W _; go_simp⟩) (by assumption) ?_
                try simp only [Act.put, lq0, lq1, lq2, lq3, lq4, lq5]
                refine wpAnyH_take (i := 8) (v := .agg (noteA z.n z.sa z.sc)) rfl (by kernel_rfl) (by kernel_rfl) (by kernel_rfl) (fun _ _ _ h => h) (Or.inl ⟨by kernel_rfl, by intro W _; go_simp⟩) (by assumption) ?_
                try simp only [Act.put, lq0, lq1, lq2, lq3, lq4, lq5]
                refine wpAnyH_take (i := 9) (v := .bool true) rfl (by kernel_rfl) (by kernel_rfl) (by kernel_rfl) (fun _ _ _ h => h) (Or.inl ⟨by kernel_rfl, by intro W _; go_simp⟩) (by assumption) ?_
                try simp only [Act.put, lq0, lq1, lq2, lq3, lq4, lq5]
                refine wpAnyH_ready (rs := [10]) (by kernel_rfl) (by simp) ?_
                refine AllReadyH.cons rfl (fun K hK => ?_) AllReadyH.nil
                go_simp
                refine hK.out _ _ ⟨hHeld.1.below ((Below.refl _ _).alloc (Nat.le_refl _) _), below_blk ((Below.refl _ _).alloc (Nat.le_refl _) _) hHeld.2⟩ (fun hHeld => ?_)
                clear hK K
                try simp only [Act.put, lq0, lq1, lq2, lq3, lq4, lq5]
                refine wpAnyH_ready (rs := [11]) (by kernel_rfl) (by simp) ?_
                refine AllReadyH.cons rfl (fun K hK => ?_) AllReadyH.nil
                rw [if_pos (by kernel_rfl)]
                refine oper_store_blk 47 _ _ rfl w4.drew.heap.size _ (noteA z.n z.sa z.sc) 47 rfl rfl (heap_last _ _) (I43.out _ _ _) rfl (noteA_one _ _ _) ?_
                intro w5 h8 hg8 hs8
                have b8 : Below w4.drew.heap.size w4.drew w5 := ((Below.refl w4.drew.heap.size w4.drew).alloc (Nat.le_refl _) _).grown hg8 (by simp) (fun q hq => by cases hq; exact Nat.le_refl _)
                have S5 := CS.out.below (Below.trans ((Below.refl w4.heap.size w4).drew) b8)
                have T5 : w5.heap[p5]? = _ := below_blk (Below.trans ((Below.refl w4.heap.size w4).drew) b8) CT.out
                replace CS := Lib.hid S5
                replace CT := Lib.hid T5
                have C8 := Lib.hid h8
                clear S5 T5 b8 h8 hg8 hs8
                simp only [Act.put, lq0, lq1, lq2]
                refine hK.out _ _ ⟨CS.out, CT.out⟩ (fun hHeld => ?_)
                clear hK K
                try simp only [Act.put, lq0, lq1, lq2, lq3, lq4, lq5]
                refine wpAnyH_take (i := 12) (oi := { dst := some 9, op := .assign (.tmp 62), type := _, pos := _, after := _, guard := none }) (v := .bool true) rfl (by kernel_rfl) (by kernel_rfl) (by kernel_rfl) (fun _ _ _ h => h) (Or.inl ⟨by kernel_rfl, by intro W _; go_simp⟩) (by assumption) ?_
                try simp only [Act.put, lq0, lq1, lq2, lq3, lq4, lq5]
                refine wpAnyH_done (by kernel_rfl) ?_ _
                refine NoPanic.normal ?_
                obtain ⟨p8, hp8⟩ : ∃ p8, Hid (w4.heap.size = p8) := ⟨_, Lib.hid rfl⟩
                have C8b : w5.heap[w4.heap.size]? = some (.cells (noteA z.n z.sa z.sc) 47 (0, 0)) := C8.out
                rw [hp8.out] at C8b
                replace C8 := Lib.hid C8b
                clear C8b
                rw [hp8.out]
                go_wp2_with (first
                  | (refine wpList_load_rowG (by kernel_rfl) 47 _ rfl p8 rfl 47 (noteA z.n z.sa z.sc) (0, 0) _ C8.out Tryz.underlying47 rfl (I43.out _ _ _) ?_)
                  | (refine wpList_load_rowG (by kernel_rfl) 47 _ rfl p5 rfl 47 (noteA y.n y.sa y.sc) (0, 0) _ CT.out Tryz.underlying47 rfl (I43.out _ _ _) ?_))
                refine (known_any z.n y.n z.sa z.sc y.sa y.sc _).mono ?_
                rintro e w6 ⟨rfl, b6⟩
                replace CS := Lib.hid (CS.out.below b6)
                replace CT := Lib.hid (below_blk b6 CT.out)
                clear b6 C8
                obtain ⟨o, HO⟩ : ∃ o, Hid (o = knownC z.n y.n) := ⟨_, Lib.hid rfl⟩
                rw [← HO.out]
                by_cases ho : o < 0
                · have t0 : decide (o < 0) = true := by simp [ho]
                  have HJok := Lib.hid (show JudgeOk f (ks ++ [(kh, km)]) (updF J (refN y) y) from CS.out.jok.put HF.out HC.out (fun z' hz => by rw [show J (refN y) = some z from HJ.out] at hz; cases hz; rw [← HO.out]; exact ho))
                  clear ho
                  go_upto_region 11 with fail
                  refine wp_region_noPanic ?_
                  refine wp_region_held_drew (S := fun w' => benchAt w' pB bS bJ va vn vc ∧ w'.heap[p5]? = some (.cells (noteA y.n y.sa y.sc) 47 (0, 0))) (by kernel_rfl) (show benchAt w6.drew pB bS bJ va vn vc ∧ w6.drew.heap[p5]? = _ from ⟨CS.out.blk, CT.out⟩) (fun hHeld => ?_)
                  replace CS := Lib.hid (CS.out.below ((Below.refl w6.heap.size w6).drew))
                  replace CT := Lib.hid (show w6.drew.heap[p5]? = _ from CT.out)
                  refine wpAnyH_take (i := 0) (v := .pointer (some ⟨pB, 0, none⟩)) rfl (by kernel_rfl) (by kernel_rfl) (by kernel_rfl) (fun _ _ _ h => h) (Or.inl ⟨by kernel_rfl, by intro W _; go_simp⟩) (by assumption) ?_
                  try simp only [Act.put, lq0, lq1, lq2, lq3, lq4, lq5]
                  refine wpAnyH_take (i := 1) (v := .pointer (some ⟨pB, 0, none⟩)) rfl (by kernel_rfl) (by kernel_rfl) (by kernel_rfl) (fun _ _ _ h => h) (Or.inl ⟨by kernel_rfl, by intro W _; go_simp⟩) (by assumption) ?_
                  try simp only [Act.put, lq0, lq1, lq2, lq3, lq4, lq5]
                  refine wpAnyH_take (i := 2) (v := .pointer (some ⟨pB, 1, none⟩)) rfl (by kernel_rfl) (by kernel_rfl) (by kernel_rfl) (fun _ _ _ h => h) (Or.inl ⟨by kernel_rfl, by intro W _; go_simp⟩) (by assumption) ?_
                  try simp only [Act.put, lq0, lq1, lq2, lq3, lq4, lq5]
                  refine wpAnyH_take (i := 3) (v := .map (some bJ)) rfl (by kernel_rfl) (by kernel_rfl) (by kernel_rfl) (fun _ _ _ h => h) (Or.inl ⟨by kernel_rfl, by intro W h; have hc := cell_of h.1 1 (.map (some bJ)) rfl; go_simp⟩) (by assumption) ?_
                  try simp only [Act.put, lq0, lq1, lq2, lq3, lq4, lq5]
                  refine wpAnyH_take (i := 4) (v := .pointer (some ⟨p5, 16, none⟩)) rfl (by kernel_rfl) (by kernel_rfl) (by kernel_rfl) (fun _ _ _ h => h) (Or.inl ⟨by kernel_rfl, by intro W _; go_simp⟩) (by assumption) ?_
                  try simp only [Act.put, lq0, lq1, lq2, lq3, lq4, lq5]
                  refine wpAnyH_take (i := 5) (v := .agg #[.int .i64 y.n.refH, .int .i64 y.n.refN]) rfl (by kernel_rfl) (by kernel_rfl) (by kernel_rfl) (fun _ _ _ h => h) (Or.inl ⟨by kernel_rfl, by intro W h; have h0 := cell_of h.2 16 (.int .i64 y.n.refH) rfl; have h1 := cell_of h.2 17 (.int .i64 y.n.refN) rfl; go_simp⟩) (by assumption) ?_
                  try simp only [Act.put, lq0, lq1, lq2, lq3, lq4, lq5]
                  refine wpAnyH_take (i := 6) (v := .agg (noteA y.n y.sa y.sc)) rfl (by kernel_rfl) (by kernel_rfl) (by kernel_rfl) (fun _ _ _ h => h) (yields_row (by kernel_rfl) 47 _ rfl p5 rfl _ 47 (0, 0) _ (fun W h => h.2) Tryz.underlying47 rfl (I43.out _ _ _)) (by assumption) ?_
                  try simp only [Act.put, lq0, lq1, lq2, lq3, lq4, lq5]
                  refine wpAnyH_ready (rs := [7]) (by kernel_rfl) (by simp) ?_
                  refine AllReadyH.cons rfl (fun K hK => ?_) AllReadyH.nil
                  obtain ⟨v9, hrun, hm9, ht9⟩ := run_put_nm (t := 106) CS.out.jm (by have h2 := CS.out.rng.count; have h3 := HNn.out; simp at h2; unfold maxLen; omega) Tryz.underlying106 y.n.refH y.n.refN HRok.out y
                  have S9 := Lib.hid (CS.out.judged HF.out HV.out HJok.out hm9 ht9)
                  have hpj : some p5 ≠ some bJ := fun e => by
                    obtain ⟨es, clock, h1⟩ := CS.out.jm.blk
                    rw [← Option.some.inj e, CT.out] at h1
                    cases h1
                  have T9 := Lib.hid (grown_blk ht9.grown CT.out hpj)
                  clear hm9 ht9 hpj
                  unfold LN.val at hrun
                  go_simp
                  refine hK.out _ _ ⟨S9.out.blk, T9.out⟩ (fun hHeld => ?_)
                  clear hK K
                  try simp only [Act.put, lq0, lq1, lq2, lq3, lq4, lq5]
                  refine wpAnyH_done (by kernel_rfl) ?_ _
                  refine NoPanic.normal ?_
                  go_wp2_with fail
                  go_roundw
                  case rel => exact ⟨_, _, _, _, _, _, S9⟩
                  case measure => rw [S9.out.rng.left_eq, HM.out]; exact HLT.out
                · have t0 : decide (o < 0) = false := by simp; omega
                  have S9 := Lib.hid (CS.out.settled HF.out HV.out (CS.out.jok.stay HF.out HJ.out (by rw [← HO.out]; exact ho)))
                  clear ho
                  go_wp2_with fail
                  go_roundw
                  case rel => exact ⟨_, _, _, _, _, _, S9⟩
                  case measure => rw [S9.out.rng.left_eq, HM.out]; exact HLT.out
      · have S9 := Lib.hid (CS.out.settled HF.out (vac_done hd) (CS.out.jok.skip HF.out (cand_done hd)))
        clear hd
        go_wp2_with fail
        go_roundw
        case rel => exact ⟨_, _, _, _, _, _, S9⟩
        case measure => rw [S9.out.rng.left_eq, HM.out]; exact HLT.out
end
end Go.Proofs.YtlnhppgfhkkidaaGreat
namespace Go.Proofs.YtlnhppgfhkkidaaGreat
open Go.RowKit

theorem setCells_blk (b : Nat) : ∀ (vs : List Value) (o : Nat) (w : World) (cur : Array Value) (t : TypeId) (fr : Nat × Nat), w.heap[b]? = some (.cells cur t fr) → ∃ cur', (w.setCells b o vs).heap[b]? = some (.cells cur' t fr) ∧ cur'.size = cur.size
  | [], _, _, cur, _, _, h => ⟨cur, h, rfl⟩
  | v :: r, o, w, cur, t, fr, h => by
    rw [World.setCells]
    obtain ⟨cur', h1, h2⟩ := setCells_blk b r (o + 1) (w.setCell ⟨b, o, none⟩ v) (cur.setIfInBounds o v) t fr (by
      have hb := (Array.getElem?_eq_some_iff.1 h).1
      simp only [World.setCell, Array.getElem?_modify, h]
      simp)
    exact ⟨cur', h1, by rw [h2]; simp⟩
structure SRows (w : World) (g : Nat) (ty : TypeId) (k sz : Nat) (rows : List (List Value)) : Prop where
  blk : ∃ cur, w.heap[g]? = some (.cells cur ty (0, 0)) ∧ cur.size = sz
  le : rows.length * k ≤ sz
  rng : ∀ i r, rows[i]? = some r → w.rangeAt g (i * k) r
  len : ∀ r ∈ rows, r.length = k
  one : ∀ r ∈ rows, ∀ v ∈ r, v.oneCell' = true

theorem SRows.there {w : World} {g k sz : Nat} {ty : TypeId} {rows : List (List Value)} (h : SRows w g ty k sz rows) {i : Nat} (hi : i < rows.length) : w.there g (i * k) k := by
  obtain ⟨cur, h1, h2⟩ := h.blk
  intro j hj
  have h3 : i * k + j < cur.size := by
    have : (i + 1) * k ≤ rows.length * k := Nat.mul_le_mul_right _ hi
    rw [Nat.add_mul] at this
    have := h.le
    omega
  refine ⟨?_, ?_⟩
  · simp [World.cell?, h1, h3]
  · simp [World.frozen?, h1]
theorem SRows.same {S : Nat → Prop} {w w' : World} {g k sz : Nat} {ty : TypeId} {rows : List (List Value)} (h : SRows w g ty k sz rows) (hs : Same S w w') (hg : ¬ S g) : SRows w' g ty k sz rows := by
  obtain ⟨cur, h1, h2⟩ := h.blk
  have hb := hs.block g (Array.getElem?_eq_some_iff.1 h1).1 hg
  refine ⟨⟨cur, hb.trans h1, h2⟩, h.le, fun i r hi j v hv => ?_, h.len, h.one⟩
  have := h.rng i r hi j v hv
  simp only [World.cell?] at this ⊢
  rw [hb]; exact this
theorem SRows.below {w w' : World} {g k sz : Nat} {ty : TypeId} {rows : List (List Value)} (h : SRows w g ty k sz rows) (hb : Below w.heap.size w w') : SRows w' g ty k sz rows :=
  h.same (S := fun _ => False) (Same.of_below hb) (fun e => e)
theorem SRows.set {w : World} {g k sz : Nat} {ty : TypeId} {rows : List (List Value)} (h : SRows w g ty k sz rows) {i : Nat} (hi : i < rows.length) {r : List Value} (hr : r.length = k) (h1 : ∀ v ∈ r, v.oneCell' = true) :
    SRows (w.setCells g (i * k) r) g ty k sz (rows.set i r) := by
  obtain ⟨cur, h2, h3⟩ := h.blk
  obtain ⟨cur', h4, h5⟩ := setCells_blk g r (i * k) w cur ty (0, 0) h2
  refine ⟨⟨cur', h4, by rw [h5, h3]⟩, by rw [List.length_set]; exact h.le, fun j x hj => ?_, fun x hx => ?_, fun x hx => ?_⟩
  · by_cases e : i = j
    · subst e
      rw [List.getElem?_set_self hi] at hj
      cases hj
      exact World.rangeAt_setCells_same w g (i * k) r (by rw [hr]; exact h.there hi)
    · rw [List.getElem?_set_ne e] at hj
      have hx := h.len x (List.mem_of_getElem? hj)
      refine World.rangeAt_setCells_apart (h.rng j x hj) _ _ _ ?_
      rw [hx, hr]
      rcases Nat.lt_or_gt_of_ne e with e | e
      · have := Nat.mul_le_mul_right k (show i + 1 ≤ j from e); rw [Nat.add_mul] at this; omega
      · have := Nat.mul_le_mul_right k (show j + 1 ≤ i from e); rw [Nat.add_mul] at this; omega
  · rcases List.mem_or_eq_of_mem_set hx with hx | rfl
    · exact h.len x hx
    · exact hr
  · rcases List.mem_or_eq_of_mem_set hx with hx | rfl
    · exact h.one x hx
    · exact h1

structure Ord {V : Type} (lt : V → V → Bool) : Prop where
  asym : ∀ x y, lt x y = true → lt y x = false
  trans : ∀ x y z, lt y x = false → lt z y = false → lt z x = false
def SortedIn {V : Type} (lt : V → V → Bool) (ys : List V) (a b : Nat) : Prop := ∀ p q x y, a ≤ p → p < q → q < b → ys[p]? = some x → ys[q]? = some y → lt y x = false
def SortedBut {V : Type} (lt : V → V → Bool) (ys : List V) (a i j : Nat) : Prop := ∀ p q x y, a ≤ p → p < q → q ≤ i → q ≠ j → ys[p]? = some x → ys[q]? = some y → lt y x = false
def swapAt {V : Type} (ys : List V) (i j : Nat) (x y : V) : List V := (ys.set i y).set j x
theorem swap_get {V : Type} {ys : List V} {i j : Nat} {x y : V} (hi : ys[i]? = some x) (hj : ys[j]? = some y) (k : Nat) :
    (swapAt ys i j x y)[k]? = if k = j then some x else if k = i then some y else ys[k]? := by
  have h1 := (List.getElem?_eq_some_iff.1 hi).1
  have h2 := (List.getElem?_eq_some_iff.1 hj).1
  unfold swapAt
  rw [List.getElem?_set]
  by_cases e : j = k
  · subst e; rw [if_pos rfl, if_pos rfl, List.length_set, if_pos h2]
  · rw [if_neg e, if_neg (fun h => e h.symm), List.getElem?_set]
    by_cases e' : i = k
    · subst e'; rw [if_pos rfl, if_pos rfl, if_pos h1]
    · rw [if_neg e', if_neg (fun h => e' h.symm)]
theorem SortedBut.step {V : Type} {lt : V → V → Bool} (ho : Ord lt) {ys : List V} {a i j : Nat} (h : SortedBut lt ys a i (j + 1)) (hij : j + 1 ≤ i) (haj : a ≤ j) {x y : V} (hx : ys[j]? = some x) (hy : ys[j + 1]? = some y) (hl : lt y x = true) :
    SortedBut lt (swapAt ys (j + 1) j y x) a i j := by
  intro p q u v hp hpq hq hqj hu hv
  rw [swap_get hy hx] at hu hv
  by_cases e1 : q = j + 1
  · subst e1
    rw [if_neg (by omega), if_pos rfl] at hv
    cases hv
    by_cases e2 : p = j
    · subst e2
      rw [if_pos rfl] at hu
      cases hu
      exact ho.asym _ _ hl
    · rw [if_neg e2, if_neg (by omega)] at hu
      exact h p j u x hp (by omega) (by omega) (by omega) hu hx
  · rw [if_neg hqj, if_neg e1] at hv
    by_cases e2 : p = j
    · subst e2
      rw [if_pos rfl] at hu
      rw [← Option.some.inj hu]
      exact h (p + 1) q y v (by omega) (by omega) hq e1 hy hv
    · rw [if_neg e2] at hu
      by_cases e3 : p = j + 1
      · subst e3
        rw [if_pos rfl] at hu
        rw [← Option.some.inj hu]
        exact h j q x v haj (by omega) hq e1 hx hv
      · rw [if_neg e3] at hu
        exact h p q u v hp hpq hq e1 hu hv
theorem SortedBut.done {V : Type} {lt : V → V → Bool} (ho : Ord lt) {ys : List V} {a i j : Nat} (h : SortedBut lt ys a i j) (hij : j ≤ i)
    (hd : j ≤ a ∨ ∃ x y, ys[j - 1]? = some x ∧ ys[j]? = some y ∧ lt y x = false) : SortedIn lt ys a (i + 1) := by
  intro p q u v hp hpq hq hu hv
  by_cases e : q = j
  · subst e
    rcases hd with hd | ⟨x, y, hx, hy, hl⟩
    · omega
    · rw [hy] at hv
      cases hv
      by_cases e2 : p = q - 1
      · subst e2
        rw [hx] at hu
        cases hu
        exact hl
      · exact ho.trans u x v (h p (q - 1) u x hp (by omega) (by omega) (by omega) hu hx) hl
  · exact h p q u v hp hpq (by omega) e hu hv
theorem SortedIn.but {V : Type} {lt : V → V → Bool} {ys : List V} {a i : Nat} (h : SortedIn lt ys a i) : SortedBut lt ys a i i := fun p q x y hp hpq hq hne hx hy => h p q x y hp hpq (by omega) hx hy
theorem SortedIn.one {V : Type} {lt : V → V → Bool} {ys : List V} {a : Nat} : SortedIn lt ys a (a + 1) := fun p q x y hp hpq hq hx hy => by omega
theorem SortedIn.pair {V : Type} {lt : V → V → Bool} {ys : List V} (h : SortedIn lt ys 0 ys.length) : ys.Pairwise (fun x y => lt y x = false) := by
  rw [List.pairwise_iff_getElem]
  intro i j hi hj hij
  exact h i j _ _ (Nat.zero_le _) hij hj (List.getElem?_eq_getElem hi) (List.getElem?_eq_getElem hj)

theorem sorted_unique {V : Type} {lt : V → V → Bool} : ∀ {xs ys : List V}, (∀ x ∈ xs, ∀ y ∈ xs, lt x y = false → lt y x = false → x = y) → xs.Perm ys → xs.Pairwise (fun x y => lt y x = false) → ys.Pairwise (fun x y => lt y x = false) → xs = ys
  | [], ys, _, hp, _, _ => (List.nil_perm.1 hp).symm
  | x :: xs, [], _, hp, _, _ => by have := hp.length_eq; simp at this
  | x :: xs, y :: ys, he, hp, hs, ht => by
    rw [List.pairwise_cons] at hs ht
    have hxy : x = y := by
      have hy : y ∈ x :: xs := hp.symm.subset (List.mem_cons_self ..)
      have hx : x ∈ y :: ys := hp.subset (List.mem_cons_self ..)
      rcases List.mem_cons.1 hy with h | h
      · exact h.symm
      · rcases List.mem_cons.1 hx with h' | h'
        · exact h'
        · exact he x (List.mem_cons_self ..) y (List.mem_cons_of_mem _ h) (ht.1 x h') (hs.1 y h)
    subst hxy
    exact congrArg _ (sorted_unique (fun a ha b hb => he a (List.mem_cons_of_mem _ ha) b (List.mem_cons_of_mem _ hb)) (List.perm_cons x |>.1 hp) hs.2 ht.2)
end Go.Proofs.YtlnhppgfhkkidaaGreat
