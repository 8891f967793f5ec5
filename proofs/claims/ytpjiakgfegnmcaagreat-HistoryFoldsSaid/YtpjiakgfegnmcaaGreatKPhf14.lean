/- Parts of the proof, in this order: The reference's folded, Fold and AsOf. -/
import Derived.Test.YtpjiakgfegnmcaaGreatKPhf13
set_option linter.unusedSimpArgs false
set_option linter.unusedVariables false
open List renaming getElem_toArray → lq0, getElem_cons_succ → lq1, getElem_cons_zero → lq2, setIfInBounds_toArray → lq3, set_cons_zero → lq4, set_cons_succ → lq5
namespace Go.Proofs.YtpjiakgfegnmcaaGreat
set_option linter.unusedSimpArgs false
open Go.RowKit

theorem yields_mid {P : Program} {ops : Array Oper} {S : World → Prop} {op : Oper} {a : Act} (hw : Region.wanted op (yielded ops a.tmps) = true) (ty : TypeId) (x : Operand) (ho : op.op = .load ty x)
    (b o : Nat) (hx : a.eval x = .pointer (some ⟨b, o, none⟩)) (cs : List Value) (d : TypeDesc) (hS : ∀ w, S w → w.rangeAt b o cs)
    (hu : P.underlying ty = some d) (hd : d.isRow = true) (hi : (P.info? ty).map (·.size) = some cs.length) : YieldsIf P ops S op (.agg cs.toArray) a :=
  .inl ⟨hw, fun w hw' => by
    unfold execOp
    simp only [ho, hx, Instr.loadAt, Instr.sureAddr, Sem.run_bind, Sem.run_pure, Result.andThen_ok, run_loadVar_mid w b o ty cs d (hS w hw') hu hd hi]⟩
theorem wpList_load_midW {P : Program} {ops : Array Oper} {rest : List Oper} {op : Oper} {a : Act} {w : World} {Q : Exit → Act → World → Prop} (hw : Region.wanted op (yielded ops a.tmps) = true) (ty : TypeId) (x : Operand) (ho : op.op = .load ty x)
    (b o : Nat) (hx : a.eval x = .pointer (some ⟨b, o, none⟩)) (cs : List Value) (d : TypeDesc) (hc : w.rangeAt b o cs)
    (hu : P.underlying ty = some d) (hd : d.isRow = true) (hi : (P.info? ty).map (·.size) = some cs.length)
    (h : wpList P ops Q rest (a.put op.dst (.agg cs.toArray)) w) : wpList P ops Q (op :: rest) a w :=
  wpList_step fun _ hK => by rw [if_pos hw]; exact wp_load_mid ty x ho b o hx cs d hc hu hd hi (hK _ _ h)
theorem regOf_h8 (day : Int) : ∀ (l : List EvV) (R : RegV), R.hs.length ≤ 8 → (l.foldl (regStep day) R).hs.length ≤ 8
  | [], R, h => h
  | e :: l, R, h => by
    rw [List.foldl_cons]
    refine regOf_h8 day l _ ?_
    unfold regStep effR
    split
    · split
      · rename_i h1
        split
        · rename_i h2
          unfold effB at h1
          rw [if_pos h2] at h1
          have := of_decide_eq_true h1
          simp only [List.length_append, List.length_singleton]
          omega
        · exact h
      · exact h
    · exact h
theorem ev_of {es : List EvV} (h : ∀ e ∈ es, e.nm = nmOf e.x.n) : es = (es.map EvV.x).map evOf := by
  rw [List.map_map]
  induction es with
  | nil => rfl
  | cons e es ih =>
    rw [List.map_cons, ← ih (fun x hx => h x (List.mem_cons_of_mem _ hx))]
    have he := h e (List.mem_cons_self ..)
    obtain ⟨nm, x⟩ := e
    simp only at he
    subst he
    rfl
theorem regOf_notes {day : Int} {l : List NoteV} {es : List EvV} (he : es.map (fun e => e.x.n) = eventsP l) (hn : ∀ e ∈ es, e.nm = nmOf e.x.n) : RegLike (regOf day es) (regN day l) := by
  have h1 := regOf_like day (es.map EvV.x)
  rw [← ev_of hn, List.map_map] at h1
  have h2 : es.map (LN.n ∘ EvV.x) = eventsP l := he
  rw [h2] at h1
  exact h1
structure FdAt (V W : World) (p : Nat) (ha : Option Addr) (hc : Nat) (ea : Option Addr) (ec : Nat) (R : RegV) (ba : Option Addr) (bc : Nat) : Prop where
  reg : RegAt V.heap.size W p ha hc ea ec none 0 R.hs R.es []
  same : Same (fun k => k = p) V W
  bad : W.ownsRow V.heap.size 29 2 (.slice ba R.cs.length bc) R.cs.length (nmCells R.cs)
theorem FdAt.below {V W W' : World} {p : Nat} {ha : Option Addr} {hc : Nat} {ea : Option Addr} {ec : Nat} {R : RegV} {ba : Option Addr} {bc : Nat} (h : FdAt V W p ha hc ea ec R ba bc) (hb : Below W.heap.size W W') : FdAt V W' p ha hc ea ec R ba bc :=
  ⟨h.reg.below hb, h.same.trans (Same.of_below hb), own_below h.bad hb⟩
theorem FdAt.addE {V W W' : World} {p : Nat} {ha : Option Addr} {hc : Nat} {ea : Option Addr} {ec : Nat} {hs es : List EvV} {cs : List Nm} {ba : Option Addr} {bc : Nat} {e : EvV} {a' : Option Addr} {c' : Nat} (h : FdAt V W p ha hc ea ec ⟨hs, es, cs⟩ ba bc) (ho : W'.ownsRow V.heap.size 53 21 (.slice a' (es.length + 1) c') (es.length + 1) (evCells es ++ e.cells)) (hg : W.grownBy W' (Value.ownBlock (.slice ea es.length ec))) (hl : a' = ea ∨ a' = some ⟨W.heap.size, 0, none⟩) :
    FdAt V (W'.setCell ⟨p, 1, none⟩ (.slice a' (es.length + 1) c')) p ha hc a' c' ⟨hs, es ++ [e], cs⟩ ba bc := by
  obtain ⟨r1, r2, r3⟩ := h
  have h1 := r1.addE ho hg hl
  have hb2 := grown_blk hg r1.blk (own_no r1.eown r1.blk (by intro cur; simp))
  refine ⟨h1.1, r2.reg (h1.2.weaken (fun k hk => hk.imp id (fun h => (r1.eown.lt k h).1))), ?_⟩
  have h3 := r3.kept hg (own_apart r3 r1.eown (by decide))
  exact h3.kept (setCell_grown W' p 1 _) (.inr (own_no h3 hb2 (by intro cur; simp)).symm)
theorem FdAt.addH {V W W' : World} {p : Nat} {ha : Option Addr} {hc : Nat} {ea : Option Addr} {ec : Nat} {hs es : List EvV} {cs : List Nm} {ba : Option Addr} {bc : Nat} {e : EvV} {a' : Option Addr} {c' : Nat} (h : FdAt V W p ha hc ea ec ⟨hs, es, cs⟩ ba bc) (ho : W'.ownsRow V.heap.size 53 21 (.slice a' (hs.length + 1) c') (hs.length + 1) (evCells hs ++ e.cells)) (hg : W.grownBy W' (Value.ownBlock (.slice ha hs.length hc))) (hl : a' = ha ∨ a' = some ⟨W.heap.size, 0, none⟩) :
    FdAt V (W'.setCell ⟨p, 0, none⟩ (.slice a' (hs.length + 1) c')) p a' c' ea ec ⟨hs ++ [e], es, cs⟩ ba bc := by
  obtain ⟨r1, r2, r3⟩ := h
  have h1 := r1.addH ho hg hl
  have hb2 := grown_blk hg r1.blk (own_no r1.hown r1.blk (by intro cur; simp))
  refine ⟨h1.1, r2.reg (h1.2.weaken (fun k hk => hk.imp id (fun h => (r1.hown.lt k h).1))), ?_⟩
  have h3 := r3.kept hg (own_apart r3 r1.hown (by decide))
  exact h3.kept (setCell_grown W' p 0 _) (.inr (own_no h3 hb2 (by intro cur; simp)).symm)
theorem FdAt.addB {V W W' : World} {p : Nat} {ha : Option Addr} {hc : Nat} {ea : Option Addr} {ec : Nat} {hs es : List EvV} {cs : List Nm} {ba : Option Addr} {bc : Nat} {a : Nm} {a' : Option Addr} {c' : Nat} (h : FdAt V W p ha hc ea ec ⟨hs, es, cs⟩ ba bc) (ho : W'.ownsRow V.heap.size 29 2 (.slice a' (cs.length + 1) c') (cs.length + 1) (nmCells cs ++ [.int .i64 a.1, .int .i64 a.2])) (hg : W.grownBy W' (Value.ownBlock (.slice ba cs.length bc))) :
    FdAt V W' p ha hc ea ec ⟨hs, es, cs ++ [a]⟩ a' c' := by
  obtain ⟨r1, r2, r3⟩ := h
  have hb2 := grown_blk hg r1.blk (own_no r3 r1.blk (by intro cur; simp))
  exact ⟨⟨hb2, r1.hown.kept hg (own_apart r1.hown r3 (by decide)), r1.eown.kept hg (own_apart r1.eown r3 (by decide)), World.ownsRow_nil _ _ _ _, r1.dis⟩,
    r2.reg (Same.of_grown hg (fun k e => .inr (r3.lt k e).1)), by rw [nmCells_snoc, List.length_append]; exact ho⟩
structure F2At (V W : World) (p : Nat) (h0 h1 : Value) (ca : Option Addr) (cn cc : Nat) (cs : List Nm) : Prop where
  blk : W.heap[p]? = some (.cells #[h0, h1, .slice ca cn cc] 27 (0, 0))
  same : Same (fun k => k = p) V W
  own : W.ownsRow V.heap.size 29 2 (.slice ca cn cc) cn (nmCells cs)
theorem F2At.below {V W W' : World} {p : Nat} {h0 h1 : Value} {ca : Option Addr} {cn cc : Nat} {cs : List Nm} (h : F2At V W p h0 h1 ca cn cc cs) (hb : Below W.heap.size W W') : F2At V W' p h0 h1 ca cn cc cs :=
  ⟨below_blk hb h.blk, h.same.trans (Same.of_below hb), own_below h.own hb⟩
theorem F2At.add {V W W' : World} {p : Nat} {h0 h1 : Value} {ca : Option Addr} {cn cc : Nat} {cs : List Nm} {a : Nm} {a' : Option Addr} {c' : Nat} (h : F2At V W p h0 h1 ca cn cc cs) (ho : W'.ownsRow V.heap.size 29 2 (.slice a' (cn + 1) c') (cn + 1) (nmCells cs ++ [.int .i64 a.1, .int .i64 a.2])) (hg : W.grownBy W' (Value.ownBlock (.slice ca cn cc))) :
    F2At V (W'.setCell ⟨p, 2, none⟩ (.slice a' (cn + 1) c')) p h0 h1 a' (cn + 1) c' (cs ++ [a]) := by
  have hb2 := grown_blk hg h.blk (own_no h.own h.blk (by intro cur; simp))
  have G := setCell_grown W' p 2 (.slice a' (cn + 1) c')
  exact ⟨by rw [setCell_at hb2 2 (.slice a' (cn + 1) c')]; rfl, h.same.reg ((Same.of_grown hg (fun k e => .inr (h.own.lt k e).1)).trans (Same.of_grown G (fun k e => by cases e; exact .inl rfl))), by
    rw [nmCells_snoc]; exact ho.kept G (.inr (own_no ho hb2 (by intro cur; simp)).symm)⟩
def confB (day : Int) (l : List NoteV) (n : NoteV) : Bool := decide (nmOf n ∈ (regN day l).cs) || idleP l n
theorem conf_next (day : Int) (l : List NoteV) {k : Nat} {x : NoteV} (h : l[k]? = some x) : ((l.take (k + 1)).filter (confB day l)).map nmOf = if confB day l x = true then ((l.take k).filter (confB day l)).map nmOf ++ [nmOf x] else ((l.take k).filter (confB day l)).map nmOf := by
  rw [filt_nx (confB day l) h]
  by_cases hq : confB day l x = true
  · rw [if_pos hq, if_pos hq, List.map_append]; rfl
  · rw [if_neg hq, if_neg hq]
theorem conf_all (day : Int) (l : List NoteV) : (l.filter (confB day l)).map nmOf = csN day l := rfl
def RegOwn (base : Nat) (W : World) (v : Value) (T : RegT) : Prop :=
  ∃ (ha : Option Addr) (hn hc : Nat) (ea : Option Addr) (en ec : Nat) (ca : Option Addr) (cn cc : Nat) (hs es : List EvV), v = .agg #[.slice ha hn hc, .slice ea en ec, .slice ca cn cc] ∧
    W.ownsRow base 53 21 (.slice ha hn hc) hn (evCells hs) ∧ W.ownsRow base 53 21 (.slice ea en ec) en (evCells es) ∧ W.ownsRow base 29 2 (.slice ca cn cc) cn (nmCells T.2.2) ∧
    (∀ e ∈ hs ++ es, W.ownsRow base 3 1 (.slice e.x.sa e.x.n.strokes.length e.x.sc) e.x.n.strokes.length (e.x.n.strokes.map intV)) ∧ hs.map evC = T.1.map evP ∧ es.map evC = T.2.1.map evP
theorem RegOwn.out {base : Nat} {W : World} {v : Value} {T : RegT} (h : RegOwn base W v T) : RegOut W v T := by
  obtain ⟨ha, hn, hc, ea, en, ec, ca, cn, cc, hs, es, rfl, h1, h2, h3, h4, h5, h6⟩ := h
  exact ⟨ha, hn, hc, ea, en, ec, ca, cn, cc, hs, es, rfl, RdEs.of_rd (RdA.of_own h1), RdEs.of_rd (RdA.of_own h2), RdA.of_own h3, fun e he => RdA.of_own (h4 e he), h5, h6⟩
theorem RegOwn.kept {base : Nat} {W W' : World} {v : Value} {T : RegT} {p : Nat} {c : Array Value} (h : RegOwn base W v T) (hg : W.grownBy W' (some p)) (hp : W.heap[p]? = some (.cells c 27 (0, 0))) : RegOwn base W' v T := by
  obtain ⟨ha, hn, hc, ea, en, ec, ca, cn, cc, hs, es, rfl, h1, h2, h3, h4, h5, h6⟩ := h
  exact ⟨ha, hn, hc, ea, en, ec, ca, cn, cc, hs, es, rfl, h1.kept hg (.inr (own_no h1 hp (by intro cur; simp)).symm), h2.kept hg (.inr (own_no h2 hp (by intro cur; simp)).symm), h3.kept hg (.inr (own_no h3 hp (by intro cur; simp)).symm),
    fun e he => (h4 e he).kept hg (.inr (own_no (h4 e he) hp (by intro cur; simp)).symm), h5, h6⟩
theorem RegOwn.shape {base : Nat} {W : World} {v : Value} {T : RegT} (h : RegOwn base W v T) : ∃ (ha : Option Addr) (hn hc : Nat) (ea : Option Addr) (en ec : Nat) (ca : Option Addr) (cn cc : Nat), v = .agg #[.slice ha hn hc, .slice ea en ec, .slice ca cn cc] := by
  obtain ⟨ha, hn, hc, ea, en, ec, ca, cn, cc, hs, es, rfl, _⟩ := h
  exact ⟨ha, hn, hc, ea, en, ec, ca, cn, cc, rfl⟩
def FoldOut (w : World) (l : List NoteV) (day : Int) (e : Ending) (W : World) : Prop := ∃ v, e = .returned v ∧ RegOwn w.heap.size W v ((regN day l).hs, (regN day l).es, csN day l)

set_option maxHeartbeats 16000000 in
set_option maxRecDepth 100000 in
theorem rfolded_any (l : List NoteV) (a : Option Addr) (nn nc : Nat) (day : Int) (w : World) (hr : RdNs w a nn nc l) (hk : ∀ x ∈ l, 1 ≤ x.kind ∧ x.kind ≤ 6) (hst : ∀ x ∈ l, x.strokes.length ≤ 1000000) (hlen : nn ≤ 1000) :
    Calls Tryz.prog 75 #[.slice a nn nc, .int .i64 day] w fun e w' => FoldOut w l day e w' ∧ Below w.heap.size w w' := by
  have I43 := Lib.hid (show ∀ (m : NoteV) (a : Option Addr) (c : Nat), (Tryz.prog.info? 51).map (·.size) = some (noteA m a c).size from fun m a c => by kernel_rfl)
  have I3 := Lib.hid (show ∀ (x y z : Value), (Tryz.prog.info? 27).map (·.size) = some (#[x, y, z] : Array Value).size from fun x y z => by kernel_rfl)
  have J19 : (Tryz.prog.info? 51).map (·.size) = some 19 := by kernel_rfl
  have J21 : (Tryz.prog.info? 53).map (·.size) = some 21 := by kernel_rfl
  have hn63 : nn ≤ 9223372036854775807 := by omega
  obtain ⟨xs, hxs, hrl⟩ := hr.choose
  have RL := Lib.hid hrl
  have HXS := Lib.hid hxs
  have LNX := Lib.hid hrl.1
  have HLN := Lib.hid hr.1
  have RN := Lib.hid hr
  have HNN := Lib.hid hlen
  have HK := Lib.hid hk
  clear hn63
  have RE := Lib.hid (fun W (hb : Below w.heap.size w W) => revents_any l a nn nc W (hr.below hb) hk hst hlen)
  clear hr hk hst hxs hrl
  have B0 := Lib.hid (((Below.refl w.heap.size w).alloc (Nat.le_refl _) (.cells #[.slice none 0 0, .slice none 0 0, .slice none 0 0] 27)).alloc (by simp) (.cells #[.slice none 0 0, .slice none 0 0, .slice none 0 0] 27))
  have X0 := Lib.hid (heap_before _ (.cells #[.slice none 0 0, .slice none 0 0, .slice none 0 0] 27) _ _ (heap_last w (.cells #[.slice none 0 0, .slice none 0 0, .slice none 0 0] 27)))
  have Y0 := Lib.hid (heap_at (w.alloc (.cells #[.slice none 0 0, .slice none 0 0, .slice none 0 0] 27)) (.cells #[.slice none 0 0, .slice none 0 0, .slice none 0 0] 27) (w.heap.size + 1) (by simp))
  go_enter Tryz.func75, Tryz.ntmps75
  go_upto_region 2 with fail
  obtain ⟨p4, hp4⟩ : ∃ p, Hid (w.heap.size = p) := ⟨_, Lib.hid rfl⟩
  obtain ⟨p5, hp5⟩ : ∃ p, Hid (w.heap.size + 1 = p) := ⟨_, Lib.hid rfl⟩
  rw [hp4.out] at X0
  rw [hp5.out] at Y0
  rw [hp5.out, hp4.out]
  generalize (w.alloc (.cells #[.slice none 0 0, .slice none 0 0, .slice none 0 0] 27)).alloc (.cells #[.slice none 0 0, .slice none 0 0, .slice none 0 0] 27) = W0 at *
  have LT : Hid (w.heap.size ≤ p4 ∧ p4 < p5 ∧ p5 < W0.heap.size) := Lib.hid (by have h1 := hp4.out; have h2 := hp5.out; have h3 := blk_lt Y0.out; omega)
  go_wp2_with fail
  refine (RE.out W0 B0.out).mono ?_
  rintro e V ⟨⟨oa, on, oc, es, rfl, hev⟩, b1⟩
  have SV := Lib.hid hev
  have X1 := Lib.hid (below_blk b1 X0.out)
  have Y1 := Lib.hid (below_blk b1 Y0.out)
  have B1 := Lib.hid (B0.out.trans (b1.mono B0.out.size))
  have PLT : Hid (p4 < V.heap.size ∧ p5 < V.heap.size) := Lib.hid ⟨blk_lt X1.out, blk_lt Y1.out⟩
  have LENE : Hid (es.length = on ∧ on ≤ 1000) := Lib.hid (by have h1 := SV.out.len; rw [HLN.out] at h1; have := HNN.out; omega)
  have hon : on ≤ 9223372036854775807 := by have := LENE.out; omega
  have REGL := Lib.hid (regOf_notes (day := day) (SV.out.ev.trans (evTo_all l)) SV.out.nm)
  have EROW : Hid (∀ W, Same (fun k => k = p5) V W → RdA W 21 oa on oc (evCells es) ∧ ∀ e ∈ es, e.x.ok W) := Lib.hid (fun W hs =>
    ⟨RdA.of_own (own_keep SV.out.own hs (fun b hb e => own_no SV.out.own Y1.out (by intro cur; simp) (by rw [hb, e]))), fun x hx => RdA.of_own (own_keep (SV.out.str x hx) hs (fun b hb e => own_no (SV.out.str x hx) Y1.out (by intro cur; simp) (by rw [hb, e])))⟩)
  have BELW : Hid (∀ W, Same (fun k => k = p5) V W → Below w.heap.size w W) := Lib.hid (fun W hs => hs.below B1.out B1.out.size (fun k hk => by have := LT.out; omega))
  clear hev b1 X0 Y0 B0
  have ST : Hid (FdAt V V p5 none 0 none 0 (regOf day (es.take 0)) none 0) := Lib.hid ⟨⟨Y1.out, World.ownsRow_nil _ _ _ _, World.ownsRow_nil _ _ _ _, World.ownsRow_nil _ _ _ _, .inl rfl⟩, Same.refl _ _, World.ownsRow_nil _ _ _ _⟩
  go_wp2_with fail
  go_loopw [6, 8] (fun bv i wr => ∃ (k : Nat) (ba : Option Addr) (bc : Nat) (ha : Option Addr) (hc : Nat) (ea : Option Addr) (ec : Nat), bv = .slice ba (regOf day (es.take k)).cs.length bc ∧ i = .int .i64 (k : Int) ∧ k ≤ on ∧ Hid (FdAt V wr p5 ha hc ea ec (regOf day (es.take k)) ba bc)) (fun _ i _ => on - (intOf i).toNat)
  case atStart => exact ⟨0, none, 0, none, 0, none, 0, rfl, rfl, Nat.zero_le _, ST⟩
  case round =>
    clear ST
    obtain ⟨k, ba, bc, ha, hc, ea, ec, rfl, rfl, hk, ST⟩ := hrel
    by_cases hlt : k < on
    · have t0 : decide ((k : Int) < (on : Int)) = true := by simp; omega
      obtain ⟨x, Hx⟩ : ∃ x, es[k]? = some x := ⟨_, List.getElem?_eq_getElem (by rw [LENE.out.1]; exact hlt)⟩
      have NXT : Hid (regOf day (es.take (k + 1)) = regStep day (regOf day (es.take k)) x) := Lib.hid (by rw [take_snoc Hx, regOf_snoc])
      have HB8 := regOf_h8 day (es.take k) ⟨[], [], []⟩ (by simp)
      have HBL := regOf_len day (es.take k)
      rw [List.length_take] at HBL
      have RLEN : Hid ((regOf day (es.take k)).hs.length ≤ 8 ∧ (regOf day (es.take k)).hs.length ≤ 1000 ∧ (regOf day (es.take k)).es.length ≤ 1000 ∧ (regOf day (es.take k)).cs.length ≤ 1000) := Lib.hid (by have := LENE.out; refine ⟨HB8, ?_, ?_, ?_⟩ <;> omega)
      clear HB8 HBL
      generalize regOf day (es.take k) = R at *
      obtain ⟨hs, rs, cs⟩ := R
      simp only at RLEN ⊢
      obtain ⟨be, eo, rfl, hat⟩ := (RdEs.of_rd (EROW.out V (Same.refl _ _)).1).at (by omega)
      obtain ⟨o, ho⟩ : ∃ o, Hid (eo + k * 21 = o) := ⟨_, Lib.hid rfl⟩
      have HXA : Hid (∀ W, Same (fun k => k = p5) V W → W.rangeAt be o x.cells) := Lib.hid (fun W hs => by
        obtain ⟨be', eo', e, hat'⟩ := (RdEs.of_rd (EROW.out W hs).1).at (by omega)
        cases e
        have := hat' k x Hx
        rwa [ho.out] at this)
      have HIX := Lib.hid (fun W => idx_off (W := W) (c := oc) (b := be) Tryz.underlying24 J21 hlt ho.out)
      have hk64 : (k : Int) + 1 ≤ 9223372036854775807 := by omega
      have HXN := Lib.hid (ev_rangeN (HXA.out wr ST.out.same))
      clear hat Hx
      have hix := HIX.out
      go_upto_region 8 with (first
        | (refine wpList_load_mid rfl 51 _ rfl be (o + 2) rfl (x.x.n.cells x.x.sa x.x.sc) _ HXN.out Tryz.underlying51 rfl (size43 x.x.n x.x.sa x.x.sc) ?_)
        | (refine wpList_store_newp _ rfl 51 _ _ rfl _ rfl _ (noteA x.x.n x.x.sa x.x.sc) rfl rfl (I43.out _ _ _) rfl (noteA_one _ _ _) ?_)
        | fail)
      clear hix t0 HXN
      try simp only [Act.put, lq3, lq4, lq5]
      have hbt : Below wr.heap.size wr (wr.alloc (.cells (noteA x.x.n x.x.sa x.x.sc) 51)) := (Below.refl _ _).alloc (Nat.le_refl _) _
      have P9 := Lib.hid (heap_last wr (.cells (noteA x.x.n x.x.sa x.x.sc) 51))
      replace ST := Lib.hid (ST.out.below hbt)
      clear hbt
      obtain ⟨p9, hp9⟩ : ∃ p, Hid (wr.heap.size = p) := ⟨_, Lib.hid rfl⟩
      rw [hp9.out] at P9 ⊢
      generalize wr.alloc (.cells (noteA x.x.n x.x.sa x.x.sc) 51) = W2 at *
      have d3 := cell_of P9.out 3 (.int .i64 x.x.n.day) rfl
      have d4 := cell_of P9.out 4 (.int .i64 x.x.n.kind) rfl
      have d16 := cell_of P9.out 16 (.int .i64 x.x.n.refH) rfl
      have d17 := cell_of P9.out 17 (.int .i64 x.x.n.refN) rfl
      by_cases hd : day < x.x.n.day
      · have hd0 : decide (day < x.x.n.day) = true := decide_eq_true hd
        have N2 : Hid (regOf day (es.take (k + 1)) = ⟨hs, rs, cs⟩) := Lib.hid (by rw [NXT.out]; unfold regStep; rw [if_neg (by omega)])
        clear hd
        go_wp2_with fail
        go_roundw
        case rel => exact ⟨k + 1, ba, bc, ha, hc, ea, ec, by rw [N2.out], by go_num, by omega, by rw [N2.out]; exact ST⟩
        case measure => simp [intOf]; omega
      have hd0 : decide (day < x.x.n.day) = false := decide_eq_false hd
      have ND : Hid (regOf day (es.take (k + 1)) = if effB ⟨hs, rs, cs⟩ x = true then effR ⟨hs, rs, cs⟩ x else ⟨hs, rs, cs ++ [x.nm]⟩) := Lib.hid (by rw [NXT.out]; unfold regStep; rw [if_pos (by omega)])
      clear hd
      by_cases hk1 : x.x.n.kind = 1
      · have k1 : (x.x.n.kind == 1) = true := by simp [hk1]
        have r0 := cell_of ST.out.reg.blk 0 (.slice ha hs.length hc) rfl
        by_cases hl8 : hs.length < 8
        · have k8 : decide ((hs.length : Int) < 8) = true := by simp; omega
          have N2 : Hid (regOf day (es.take (k + 1)) = ⟨hs ++ [x], rs, cs⟩) := Lib.hid (by
            have he : effB ⟨hs, rs, cs⟩ x = true := by unfold effB; rw [if_pos hk1]; simp; omega
            rw [ND.out, if_pos he]; unfold effR; rw [if_pos he, if_pos hk1])
          clear hk1 hl8
          go_upto_region 11 with fail
          clear d3 d4 d16 d17 hd0 k1 r0 k8
          try simp only [Act.put, lq3, lq4, lq5]
          refine wp_region_noPanic ?_
          refine wp_region_held_drew (S := fun w' => Same (fun k => k = p5) V w') (by kernel_rfl) (show Same (fun k => k = p5) V W2.drew from ST.out.same.trans (Same.of_below (Below.refl _ _).drew)) (fun hHeld => ?_)
          replace ST := Lib.hid (ST.out.below ((Below.refl W2.heap.size W2).drew))
          generalize W2.drew = u0 at *
          refine wpAnyH_take (i := 0) (v := .pointer (some ⟨p5, 0, none⟩)) rfl (by kernel_rfl) (by kernel_rfl) (by kernel_rfl) (fun _ _ _ h => h) (Or.inl ⟨by kernel_rfl, by intro W _; go_simp⟩) (by assumption) ?_
          try simp only [Act.put, lq0, lq1, lq2, lq3, lq4, lq5]
          refine wpAnyH_take (i := 2) (v := .slice (some ⟨be, eo, none⟩) on oc) rfl (by kernel_rfl) (by kernel_rfl) (by kernel_rfl) (fun _ _ _ h => h) (Or.inl ⟨by kernel_rfl, by intro W _; go_simp⟩) (by assumption) ?_
          try simp only [Act.put, lq0, lq1, lq2, lq3, lq4, lq5]
          refine wpAnyH_take (i := 3) (v := .int .i64 (k : Int)) rfl (by kernel_rfl) (by kernel_rfl) (by kernel_rfl) (fun _ _ _ h => h) (Or.inl ⟨by kernel_rfl, by intro W _; go_simp⟩) (by assumption) ?_
          try simp only [Act.put, lq0, lq1, lq2, lq3, lq4, lq5]
          refine wpAnyH_take (i := 4) (v := .pointer (some ⟨be, o, none⟩)) rfl (by kernel_rfl) (by kernel_rfl) (by kernel_rfl) (fun _ _ _ h => h) (Or.inl ⟨by kernel_rfl, by intro W h; have hi := HIX.out W; go_simp⟩) (by assumption) ?_
          try simp only [Act.put, lq0, lq1, lq2, lq3, lq4, lq5]
          refine wpAnyH_take (i := 5) (v := .agg x.cells.toArray) rfl (by kernel_rfl) (by kernel_rfl) (by kernel_rfl) (fun _ _ _ h => h) (yields_mid (by kernel_rfl) 53 _ rfl be o rfl x.cells _ (fun W h => HXA.out W h) Tryz.underlying53 rfl (size21 x)) (by assumption) ?_
          try simp only [Act.put, lq0, lq1, lq2, lq3, lq4, lq5]
          refine wpAnyH_ready (rs := [1, 6]) (by kernel_rfl) (by simp) ?_
          refine AllReadyH.cons rfl (fun K hK => ?_) ?_
          · have hcl := cell_of ST.out.reg.blk 0 (.slice ha hs.length hc) rfl
            go_simp
            clear hcl
            refine hK.out _ _ ST.out.same (fun hHeld => ?_)
            clear hK K
            try simp only [Act.put, lq0, lq1, lq2, lq3, lq4, lq5]
            refine wpAnyH_ready (rs := [6]) (by kernel_rfl) (by simp) ?_
            refine AllReadyH.cons rfl (fun K hK => ?_) AllReadyH.nil
            rw [if_pos (by kernel_rfl)]
            refine oper_build_ev _ rfl x rfl ?_
            have b9 := (Below.refl u0.heap.size u0).alloc (Nat.le_refl _) (.cells (evA x) 53)
            have CR := Lib.hid (lit_ev u0 x)
            replace ST := Lib.hid (ST.out.below b9)
            clear b9
            generalize u0.alloc (.cells (evA x) 53) = u1 at *
            refine hK.out _ _ ST.out.same (fun hHeld => ?_)
            clear hK K
            try simp only [Act.put, lq0, lq1, lq2, lq3, lq4, lq5]
            refine wpAnyH_ready (rs := [7]) (by kernel_rfl) (by simp) ?_
            refine AllReadyH.cons rfl (fun K hK => ?_) AllReadyH.nil
            obtain ⟨a', c', u9, hrun, ho, hg, hl⟩ := run_app_ev _ V.heap.size ha hs.length hc _ ST.out.reg.hown _ 1 1 _ CR.out (evA_one x) (by have := RLEN.out; omega) ST.out.same.size
            have HN := Lib.hid (ST.out.addH ho hg hl)
            have CL3 := Lib.hid (grown_blk hg ST.out.reg.blk (own_no ST.out.reg.hown ST.out.reg.blk (by intro cur; simp)))
            have SM := Lib.hid (ST.out.same.reg (Same.of_grown hg (fun k e => .inr (ST.out.reg.hown.lt k e).1)))
            clear ho hg hl
            rw [if_pos (by kernel_rfl)]
            refine oper_append _ _ _ rfl _ _ _ rfl rfl hrun ?_
            clear hrun
            refine hK.out _ _ SM.out (fun hHeld => ?_)
            clear hK K
            try simp only [Act.put, lq0, lq1, lq2, lq3, lq4, lq5]
            refine wpAnyH_take (i := 8) (v := .pointer (some ⟨p5, 0, none⟩)) rfl (by kernel_rfl) (by kernel_rfl) (by kernel_rfl) (fun _ _ _ h => h) (Or.inl ⟨by kernel_rfl, by intro W _; go_simp⟩) (by assumption) ?_
            try simp only [Act.put, lq0, lq1, lq2, lq3, lq4, lq5]
            refine wpAnyH_ready (rs := [9]) (by kernel_rfl) (by simp) ?_
            refine AllReadyH.cons rfl (fun K hK => ?_) AllReadyH.nil
            have hcl := cell_of CL3.out 0 (.slice ha hs.length hc) rfl
            have hfz := frozen_of CL3.out 0
            go_simp
            clear hcl hfz
            refine hK.out _ _ HN.out.same (fun hHeld => ?_)
            clear hK K
            try simp only [Act.put, lq0, lq1, lq2, lq3, lq4, lq5]
            refine wpAnyH_done (by kernel_rfl) ?_ _
            refine NoPanic.normal ?_
            clear CL3 SM ST
            generalize u9.setCell ⟨p5, 0, none⟩ (.slice a' (hs.length + 1) c') = u10 at *
            go_wp2_with fail
            go_roundw
            case rel => exact ⟨k + 1, ba, bc, a', c', ea, ec, by rw [N2.out], by go_num, by omega, by rw [N2.out]; exact HN⟩
            case measure => simp [intOf]; omega
          refine AllReadyH.cons rfl (fun K hK => ?_) AllReadyH.nil
          rw [if_pos (by kernel_rfl)]
          refine oper_build_ev _ rfl x rfl ?_
          have b9 := (Below.refl u0.heap.size u0).alloc (Nat.le_refl _) (.cells (evA x) 53)
          have CR := Lib.hid (lit_ev u0 x)
          replace ST := Lib.hid (ST.out.below b9)
          clear b9
          generalize u0.alloc (.cells (evA x) 53) = u1 at *
          refine hK.out _ _ ST.out.same (fun hHeld => ?_)
          clear hK K
          try simp only [Act.put, lq0, lq1, lq2, lq3, lq4, lq5]
          refine wpAnyH_ready (rs := [1]) (by kernel_rfl) (by simp) ?_
          refine AllReadyH.cons rfl (fun K hK => ?_) AllReadyH.nil
          have hcl := cell_of ST.out.reg.blk 0 (.slice ha hs.length hc) rfl
          go_simp
          clear hcl
          refine hK.out _ _ ST.out.same (fun hHeld => ?_)
          clear hK K
          try simp only [Act.put, lq0, lq1, lq2, lq3, lq4, lq5]
          refine wpAnyH_ready (rs := [7]) (by kernel_rfl) (by simp) ?_
          refine AllReadyH.cons rfl (fun K hK => ?_) AllReadyH.nil
          obtain ⟨a', c', u9, hrun, ho, hg, hl⟩ := run_app_ev _ V.heap.size ha hs.length hc _ ST.out.reg.hown _ 1 1 _ CR.out (evA_one x) (by have := RLEN.out; omega) ST.out.same.size
          have HN := Lib.hid (ST.out.addH ho hg hl)
          have CL3 := Lib.hid (grown_blk hg ST.out.reg.blk (own_no ST.out.reg.hown ST.out.reg.blk (by intro cur; simp)))
          have SM := Lib.hid (ST.out.same.reg (Same.of_grown hg (fun k e => .inr (ST.out.reg.hown.lt k e).1)))
          clear ho hg hl
          rw [if_pos (by kernel_rfl)]
          refine oper_append _ _ _ rfl _ _ _ rfl rfl hrun ?_
          clear hrun
          refine hK.out _ _ SM.out (fun hHeld => ?_)
          clear hK K
          try simp only [Act.put, lq0, lq1, lq2, lq3, lq4, lq5]
          refine wpAnyH_take (i := 8) (v := .pointer (some ⟨p5, 0, none⟩)) rfl (by kernel_rfl) (by kernel_rfl) (by kernel_rfl) (fun _ _ _ h => h) (Or.inl ⟨by kernel_rfl, by intro W _; go_simp⟩) (by assumption) ?_
          try simp only [Act.put, lq0, lq1, lq2, lq3, lq4, lq5]
          refine wpAnyH_ready (rs := [9]) (by kernel_rfl) (by simp) ?_
          refine AllReadyH.cons rfl (fun K hK => ?_) AllReadyH.nil
          have hcl := cell_of CL3.out 0 (.slice ha hs.length hc) rfl
          have hfz := frozen_of CL3.out 0
          go_simp
          clear hcl hfz
          refine hK.out _ _ HN.out.same (fun hHeld => ?_)
          clear hK K
          try simp only [Act.put, lq0, lq1, lq2, lq3, lq4, lq5]
          refine wpAnyH_done (by kernel_rfl) ?_ _
          refine NoPanic.normal ?_
          clear CL3 SM ST
          generalize u9.setCell ⟨p5, 0, none⟩ (.slice a' (hs.length + 1) c') = u10 at *
          go_wp2_with fail
          go_roundw
          case rel => exact ⟨k + 1, ba, bc, a', c', ea, ec, by rw [N2.out], by go_num, by omega, by rw [N2.out]; exact HN⟩
          case measure => simp [intOf]; omega
        · have k8 : decide ((hs.length : Int) < 8) = false := by simp; omega
          have N2 : Hid (regOf day (es.take (k + 1)) = ⟨hs, rs, cs ++ [x.nm]⟩) := Lib.hid (by
            have h8 := RLEN.out.1
            have he : effB ⟨hs, rs, cs⟩ x = false := by unfold effB; rw [if_pos hk1]; simp; omega
            rw [ND.out, if_neg (by rw [he]; decide)])
          clear hk1 hl8
          go_upto_region 14 with fail
          clear d3 d4 d16 d17 hd0 k1 r0 k8
          have r9 := HXA.out W2 ST.out.same
          have q0 := r9 0 (.int .i64 x.nm.1) rfl
          have q1 := r9 1 (.int .i64 x.nm.2) rfl
          simp only [Nat.add_zero] at q0
          have hix := HIX.out W2
          have bn := (Below.refl W2.heap.size W2).alloc (Nat.le_refl _) (.cells #[.int .i64 x.nm.1, .int .i64 x.nm.2] 29)
          obtain ⟨a', c', u9, hrun, ho, hg⟩ := run_app_nm (W2.alloc (.cells #[.int .i64 x.nm.1, .int .i64 x.nm.2] 29)) V.heap.size ba cs.length bc _ (own_below ST.out.bad bn) _ 1 1 _ (lit_rd W2 _ _) (fun u hu => by simp only [List.mem_cons, List.not_mem_nil, or_false] at hu; rcases hu with rfl | rfl <;> rfl) (by have := RLEN.out; omega) (Nat.le_trans ST.out.same.size bn.size)
          have HN := Lib.hid ((ST.out.below bn).addB (a := x.nm) ho hg)
          clear bn ho hg r9
          go_wp2_with (first
            | (refine wpList_append_eq rfl _ _ _ rfl _ _ _ rfl rfl hrun ?_)
            | fail)
          go_roundw
          case rel => exact ⟨k + 1, a', c', ha, hc, ea, ec, by rw [N2.out]; simp, by go_num, by omega, by rw [N2.out]; exact HN⟩
          case measure => simp [intOf]; omega
      have k1 : (x.x.n.kind == 1) = false := by simp [hk1]
      by_cases hk2 : x.x.n.kind = 2
      · have k2 : (x.x.n.kind == 2) = true := by simp [hk2]
        have r0 := cell_of ST.out.reg.blk 0 (.slice ha hs.length hc) rfl
        have RHC := Lib.hid (rheap_any hs ha hs.length hc x.x.n.refH x.x.n.refN W2 (RdEs.of_rd (RdA.of_own ST.out.reg.hown)))
        obtain ⟨z, hz⟩ : ∃ z, Hid (idxI hs (isNm x.x.n.refH x.x.n.refN) = z) := ⟨_, Lib.hid rfl⟩
        rw [hz.out] at RHC
        have EB : Hid (effB ⟨hs, rs, cs⟩ x = !decide (z < 0)) := Lib.hid (by unfold effB; rw [if_neg hk1, if_pos hk2, ← hz.out, decide_not])
        have HK1 := Lib.hid hk1
        clear hk1 hk2
        by_cases hz0 : z < 0
        · have z0 : decide (z < 0) = true := decide_eq_true hz0
          have N2 : Hid (regOf day (es.take (k + 1)) = ⟨hs, rs, cs ++ [x.nm]⟩) := Lib.hid (by
            have he := EB.out
            rw [z0] at he
            rw [ND.out, if_neg (by rw [he]; decide)])
          clear hz0
          go_upto_region 14 with (first
            | (go_at_call 47
               refine RHC.out.mono ?_
               rintro e W3 ⟨rfl, b3⟩
               replace ST := Lib.hid (ST.out.below b3)
               clear b3 r0
               dsimp only)
            | fail)
          clear d3 d4 d16 d17 hd0 k1 k2 z0
          have r9 := HXA.out W3 ST.out.same
          have q0 := r9 0 (.int .i64 x.nm.1) rfl
          have q1 := r9 1 (.int .i64 x.nm.2) rfl
          simp only [Nat.add_zero] at q0
          have hix := HIX.out W3
          have bn := (Below.refl W3.heap.size W3).alloc (Nat.le_refl _) (.cells #[.int .i64 x.nm.1, .int .i64 x.nm.2] 29)
          obtain ⟨a', c', u9, hrun, ho, hg⟩ := run_app_nm (W3.alloc (.cells #[.int .i64 x.nm.1, .int .i64 x.nm.2] 29)) V.heap.size ba cs.length bc _ (own_below ST.out.bad bn) _ 1 1 _ (lit_rd W3 _ _) (fun u hu => by simp only [List.mem_cons, List.not_mem_nil, or_false] at hu; rcases hu with rfl | rfl <;> rfl) (by have := RLEN.out; omega) (Nat.le_trans ST.out.same.size bn.size)
          have HN := Lib.hid ((ST.out.below bn).addB (a := x.nm) ho hg)
          clear bn ho hg r9
          go_wp2_with (first
            | (refine wpList_append_eq rfl _ _ _ rfl _ _ _ rfl rfl hrun ?_)
            | fail)
          go_roundw
          case rel => exact ⟨k + 1, a', c', ha, hc, ea, ec, by rw [N2.out]; simp, by go_num, by omega, by rw [N2.out]; exact HN⟩
          case measure => simp [intOf]; omega
        · have z0 : decide (z < 0) = false := decide_eq_false hz0
          have N2 : Hid (regOf day (es.take (k + 1)) = ⟨hs, rs ++ [x], cs⟩) := Lib.hid (by
            have he := EB.out
            rw [z0] at he
            have he2 : effB ⟨hs, rs, cs⟩ x = true := he
            rw [ND.out, if_pos he2]; unfold effR; rw [if_pos he2, if_neg HK1.out])
          clear hz0
          go_upto_region 9 with (first
            | (go_at_call 47
               refine RHC.out.mono ?_
               rintro e W3 ⟨rfl, b3⟩
               replace ST := Lib.hid (ST.out.below b3)
               clear b3 r0
               dsimp only)
            | fail)
          clear d3 d4 d16 d17 hd0 k1 k2 z0
          try simp only [Act.put, lq3, lq4, lq5]
          refine wp_region_noPanic ?_
          refine wp_region_held_drew (S := fun w' => Same (fun k => k = p5) V w') (by kernel_rfl) (show Same (fun k => k = p5) V W3.drew from ST.out.same.trans (Same.of_below (Below.refl _ _).drew)) (fun hHeld => ?_)
          replace ST := Lib.hid (ST.out.below ((Below.refl W3.heap.size W3).drew))
          generalize W3.drew = u0 at *
          refine wpAnyH_take (i := 0) (v := .pointer (some ⟨p5, 1, none⟩)) rfl (by kernel_rfl) (by kernel_rfl) (by kernel_rfl) (fun _ _ _ h => h) (Or.inl ⟨by kernel_rfl, by intro W _; go_simp⟩) (by assumption) ?_
          try simp only [Act.put, lq0, lq1, lq2, lq3, lq4, lq5]
          refine wpAnyH_take (i := 2) (v := .slice (some ⟨be, eo, none⟩) on oc) rfl (by kernel_rfl) (by kernel_rfl) (by kernel_rfl) (fun _ _ _ h => h) (Or.inl ⟨by kernel_rfl, by intro W _; go_simp⟩) (by assumption) ?_
          try simp only [Act.put, lq0, lq1, lq2, lq3, lq4, lq5]
          refine wpAnyH_take (i := 3) (v := .int .i64 (k : Int)) rfl (by kernel_rfl) (by kernel_rfl) (by kernel_rfl) (fun _ _ _ h => h) (Or.inl ⟨by kernel_rfl, by intro W _; go_simp⟩) (by assumption) ?_
          try simp only [Act.put, lq0, lq1, lq2, lq3, lq4, lq5]
          refine wpAnyH_take (i := 4) (v := .pointer (some ⟨be, o, none⟩)) rfl (by kernel_rfl) (by kernel_rfl) (by kernel_rfl) (fun _ _ _ h => h) (Or.inl ⟨by kernel_rfl, by intro W h; have hi := HIX.out W; go_simp⟩) (by assumption) ?_
          try simp only [Act.put, lq0, lq1, lq2, lq3, lq4, lq5]
          refine wpAnyH_take (i := 5) (v := .agg x.cells.toArray) rfl (by kernel_rfl) (by kernel_rfl) (by kernel_rfl) (fun _ _ _ h => h) (yields_mid (by kernel_rfl) 53 _ rfl be o rfl x.cells _ (fun W h => HXA.out W h) Tryz.underlying53 rfl (size21 x)) (by assumption) ?_
          try simp only [Act.put, lq0, lq1, lq2, lq3, lq4, lq5]
          refine wpAnyH_ready (rs := [1, 6]) (by kernel_rfl) (by simp) ?_
          refine AllReadyH.cons rfl (fun K hK => ?_) ?_
          · have hcl := cell_of ST.out.reg.blk 1 (.slice ea rs.length ec) rfl
            go_simp
            clear hcl
            refine hK.out _ _ ST.out.same (fun hHeld => ?_)
            clear hK K
            try simp only [Act.put, lq0, lq1, lq2, lq3, lq4, lq5]
            refine wpAnyH_ready (rs := [6]) (by kernel_rfl) (by simp) ?_
            refine AllReadyH.cons rfl (fun K hK => ?_) AllReadyH.nil
            rw [if_pos (by kernel_rfl)]
            refine oper_build_ev _ rfl x rfl ?_
            have b9 := (Below.refl u0.heap.size u0).alloc (Nat.le_refl _) (.cells (evA x) 53)
            have CR := Lib.hid (lit_ev u0 x)
            replace ST := Lib.hid (ST.out.below b9)
            clear b9
            generalize u0.alloc (.cells (evA x) 53) = u1 at *
            refine hK.out _ _ ST.out.same (fun hHeld => ?_)
            clear hK K
            try simp only [Act.put, lq0, lq1, lq2, lq3, lq4, lq5]
            refine wpAnyH_ready (rs := [7]) (by kernel_rfl) (by simp) ?_
            refine AllReadyH.cons rfl (fun K hK => ?_) AllReadyH.nil
            obtain ⟨a', c', u9, hrun, ho, hg, hl⟩ := run_app_ev _ V.heap.size ea rs.length ec _ ST.out.reg.eown _ 1 1 _ CR.out (evA_one x) (by have := RLEN.out; omega) ST.out.same.size
            have HN := Lib.hid (ST.out.addE ho hg hl)
            have CL3 := Lib.hid (grown_blk hg ST.out.reg.blk (own_no ST.out.reg.eown ST.out.reg.blk (by intro cur; simp)))
            have SM := Lib.hid (ST.out.same.reg (Same.of_grown hg (fun k e => .inr (ST.out.reg.eown.lt k e).1)))
            clear ho hg hl
            rw [if_pos (by kernel_rfl)]
            refine oper_append _ _ _ rfl _ _ _ rfl rfl hrun ?_
            clear hrun
            refine hK.out _ _ SM.out (fun hHeld => ?_)
            clear hK K
            try simp only [Act.put, lq0, lq1, lq2, lq3, lq4, lq5]
            refine wpAnyH_take (i := 8) (v := .pointer (some ⟨p5, 1, none⟩)) rfl (by kernel_rfl) (by kernel_rfl) (by kernel_rfl) (fun _ _ _ h => h) (Or.inl ⟨by kernel_rfl, by intro W _; go_simp⟩) (by assumption) ?_
            try simp only [Act.put, lq0, lq1, lq2, lq3, lq4, lq5]
            refine wpAnyH_ready (rs := [9]) (by kernel_rfl) (by simp) ?_
            refine AllReadyH.cons rfl (fun K hK => ?_) AllReadyH.nil
            have hcl := cell_of CL3.out 1 (.slice ea rs.length ec) rfl
            have hfz := frozen_of CL3.out 1
            go_simp
            clear hcl hfz
            refine hK.out _ _ HN.out.same (fun hHeld => ?_)
            clear hK K
            try simp only [Act.put, lq0, lq1, lq2, lq3, lq4, lq5]
            refine wpAnyH_done (by kernel_rfl) ?_ _
            refine NoPanic.normal ?_
            clear CL3 SM ST
            generalize u9.setCell ⟨p5, 1, none⟩ (.slice a' (rs.length + 1) c') = u10 at *
            go_wp2_with fail
            go_roundw
            case rel => exact ⟨k + 1, ba, bc, ha, hc, a', c', by rw [N2.out], by go_num, by omega, by rw [N2.out]; exact HN⟩
            case measure => simp [intOf]; omega
          refine AllReadyH.cons rfl (fun K hK => ?_) AllReadyH.nil
          rw [if_pos (by kernel_rfl)]
          refine oper_build_ev _ rfl x rfl ?_
          have b9 := (Below.refl u0.heap.size u0).alloc (Nat.le_refl _) (.cells (evA x) 53)
          have CR := Lib.hid (lit_ev u0 x)
          replace ST := Lib.hid (ST.out.below b9)
          clear b9
          generalize u0.alloc (.cells (evA x) 53) = u1 at *
          refine hK.out _ _ ST.out.same (fun hHeld => ?_)
          clear hK K
          try simp only [Act.put, lq0, lq1, lq2, lq3, lq4, lq5]
          refine wpAnyH_ready (rs := [1]) (by kernel_rfl) (by simp) ?_
          refine AllReadyH.cons rfl (fun K hK => ?_) AllReadyH.nil
          have hcl := cell_of ST.out.reg.blk 1 (.slice ea rs.length ec) rfl
          go_simp
          clear hcl
          refine hK.out _ _ ST.out.same (fun hHeld => ?_)
          clear hK K
          try simp only [Act.put, lq0, lq1, lq2, lq3, lq4, lq5]
          refine wpAnyH_ready (rs := [7]) (by kernel_rfl) (by simp) ?_
          refine AllReadyH.cons rfl (fun K hK => ?_) AllReadyH.nil
          obtain ⟨a', c', u9, hrun, ho, hg, hl⟩ := run_app_ev _ V.heap.size ea rs.length ec _ ST.out.reg.eown _ 1 1 _ CR.out (evA_one x) (by have := RLEN.out; omega) ST.out.same.size
          have HN := Lib.hid (ST.out.addE ho hg hl)
          have CL3 := Lib.hid (grown_blk hg ST.out.reg.blk (own_no ST.out.reg.eown ST.out.reg.blk (by intro cur; simp)))
          have SM := Lib.hid (ST.out.same.reg (Same.of_grown hg (fun k e => .inr (ST.out.reg.eown.lt k e).1)))
          clear ho hg hl
          rw [if_pos (by kernel_rfl)]
          refine oper_append _ _ _ rfl _ _ _ rfl rfl hrun ?_
          clear hrun
          refine hK.out _ _ SM.out (fun hHeld => ?_)
          clear hK K
          try simp only [Act.put, lq0, lq1, lq2, lq3, lq4, lq5]
          refine wpAnyH_take (i := 8) (v := .pointer (some ⟨p5, 1, none⟩)) rfl (by kernel_rfl) (by kernel_rfl) (by kernel_rfl) (fun _ _ _ h => h) (Or.inl ⟨by kernel_rfl, by intro W _; go_simp⟩) (by assumption) ?_
          try simp only [Act.put, lq0, lq1, lq2, lq3, lq4, lq5]
          refine wpAnyH_ready (rs := [9]) (by kernel_rfl) (by simp) ?_
          refine AllReadyH.cons rfl (fun K hK => ?_) AllReadyH.nil
          have hcl := cell_of CL3.out 1 (.slice ea rs.length ec) rfl
          have hfz := frozen_of CL3.out 1
          go_simp
          clear hcl hfz
          refine hK.out _ _ HN.out.same (fun hHeld => ?_)
          clear hK K
          try simp only [Act.put, lq0, lq1, lq2, lq3, lq4, lq5]
          refine wpAnyH_done (by kernel_rfl) ?_ _
          refine NoPanic.normal ?_
          clear CL3 SM ST
          generalize u9.setCell ⟨p5, 1, none⟩ (.slice a' (rs.length + 1) c') = u10 at *
          go_wp2_with fail
          go_roundw
          case rel => exact ⟨k + 1, ba, bc, ha, hc, a', c', by rw [N2.out], by go_num, by omega, by rw [N2.out]; exact HN⟩
          case measure => simp [intOf]; omega
      have k2 : (x.x.n.kind == 2) = false := by simp [hk2]
      have N2 : Hid (regOf day (es.take (k + 1)) = ⟨hs, rs ++ [x], cs⟩) := Lib.hid (by
        have he : effB ⟨hs, rs, cs⟩ x = true := by unfold effB; rw [if_neg hk1, if_neg hk2]
        rw [ND.out, if_pos he]; unfold effR; rw [if_pos he, if_neg hk1])
      clear hk1 hk2
      go_upto_region 9 with fail
      clear d3 d4 d16 d17 hd0 k1 k2
      try simp only [Act.put, lq3, lq4, lq5]
      refine wp_region_noPanic ?_
      refine wp_region_held_drew (S := fun w' => Same (fun k => k = p5) V w') (by kernel_rfl) (show Same (fun k => k = p5) V W2.drew from ST.out.same.trans (Same.of_below (Below.refl _ _).drew)) (fun hHeld => ?_)
      replace ST := Lib.hid (ST.out.below ((Below.refl W2.heap.size W2).drew))
      generalize W2.drew = u0 at *
      refine wpAnyH_take (i := 0) (v := .pointer (some ⟨p5, 1, none⟩)) rfl (by kernel_rfl) (by kernel_rfl) (by kernel_rfl) (fun _ _ _ h => h) (Or.inl ⟨by kernel_rfl, by intro W _; go_simp⟩) (by assumption) ?_
      try simp only [Act.put, lq0, lq1, lq2, lq3, lq4, lq5]
      refine wpAnyH_take (i := 2) (v := .slice (some ⟨be, eo, none⟩) on oc) rfl (by kernel_rfl) (by kernel_rfl) (by kernel_rfl) (fun _ _ _ h => h) (Or.inl ⟨by kernel_rfl, by intro W _; go_simp⟩) (by assumption) ?_
      try simp only [Act.put, lq0, lq1, lq2, lq3, lq4, lq5]
      refine wpAnyH_take (i := 3) (v := .int .i64 (k : Int)) rfl (by kernel_rfl) (by kernel_rfl) (by kernel_rfl) (fun _ _ _ h => h) (Or.inl ⟨by kernel_rfl, by intro W _; go_simp⟩) (by assumption) ?_
      try simp only [Act.put, lq0, lq1, lq2, lq3, lq4, lq5]
      refine wpAnyH_take (i := 4) (v := .pointer (some ⟨be, o, none⟩)) rfl (by kernel_rfl) (by kernel_rfl) (by kernel_rfl) (fun _ _ _ h => h) (Or.inl ⟨by kernel_rfl, by intro W h; have hi := HIX.out W; go_simp⟩) (by assumption) ?_
      try simp only [Act.put, lq0, lq1, lq2, lq3, lq4, lq5]
      refine wpAnyH_take (i := 5) (v := .agg x.cells.toArray) rfl (by kernel_rfl) (by kernel_rfl) (by kernel_rfl) (fun _ _ _ h => h) (yields_mid (by kernel_rfl) 53 _ rfl be o rfl x.cells _ (fun W h => HXA.out W h) Tryz.underlying53 rfl (size21 x)) (by assumption) ?_
      try simp only [Act.put, lq0, lq1, lq2, lq3, lq4, lq5]
      refine wpAnyH_ready (rs := [1, 6]) (by kernel_rfl) (by simp) ?_
      refine AllReadyH.cons rfl (fun K hK => ?_) ?_
      · have hcl := cell_of ST.out.reg.blk 1 (.slice ea rs.length ec) rfl
        go_simp
        clear hcl
        refine hK.out _ _ ST.out.same (fun hHeld => ?_)
        clear hK K
        try simp only [Act.put, lq0, lq1, lq2, lq3, lq4, lq5]
        refine wpAnyH_ready (rs := [6]) (by kernel_rfl) (by simp) ?_
        refine AllReadyH.cons rfl (fun K hK => ?_) AllReadyH.nil
        rw [if_pos (by kernel_rfl)]
        refine oper_build_ev _ rfl x rfl ?_
        have b9 := (Below.refl u0.heap.size u0).alloc (Nat.le_refl _) (.cells (evA x) 53)
        have CR := Lib.hid (lit_ev u0 x)
        replace ST := Lib.hid (ST.out.below b9)
        clear b9
        generalize u0.alloc (.cells (evA x) 53) = u1 at *
        refine hK.out _ _ ST.out.same (fun hHeld => ?_)
        clear hK K
        try simp only [Act.put, lq0, lq1, lq2, lq3, lq4, lq5]
        refine wpAnyH_ready (rs := [7]) (by kernel_rfl) (by simp) ?_
        refine AllReadyH.cons rfl (fun K hK => ?_) AllReadyH.nil
        obtain ⟨a', c', u9, hrun, ho, hg, hl⟩ := run_app_ev _ V.heap.size ea rs.length ec _ ST.out.reg.eown _ 1 1 _ CR.out (evA_one x) (by have := RLEN.out; omega) ST.out.same.size
        have HN := Lib.hid (ST.out.addE ho hg hl)
        have CL3 := Lib.hid (grown_blk hg ST.out.reg.blk (own_no ST.out.reg.eown ST.out.reg.blk (by intro cur; simp)))
        have SM := Lib.hid (ST.out.same.reg (Same.of_grown hg (fun k e => .inr (ST.out.reg.eown.lt k e).1)))
        clear ho hg hl
        rw [if_pos (by kernel_rfl)]
        refine oper_append _ _ _ rfl _ _ _ rfl rfl hrun ?_
        clear hrun
        refine hK.out _ _ SM.out (fun hHeld => ?_)
        clear hK K
        try simp only [Act.put, lq0, lq1, lq2, lq3, lq4, lq5]
        refine wpAnyH_take (i := 8) (v := .pointer (some ⟨p5, 1, none⟩)) rfl (by kernel_rfl) (by kernel_rfl) (by kernel_rfl) (fun _ _ _ h => h) (Or.inl ⟨by kernel_rfl, by intro W _; go_simp⟩) (by assumption) ?_
        try simp only [Act.put, lq0, lq1, lq2, lq3, lq4, lq5]
        refine wpAnyH_ready (rs := [9]) (by kernel_rfl) (by simp) ?_
        refine AllReadyH.cons rfl (fun K hK => ?_) AllReadyH.nil
        have hcl := cell_of CL3.out 1 (.slice ea rs.length ec) rfl
        have hfz := frozen_of CL3.out 1
        go_simp
        clear hcl hfz
        refine hK.out _ _ HN.out.same (fun hHeld => ?_)
        clear hK K
        try simp only [Act.put, lq0, lq1, lq2, lq3, lq4, lq5]
        refine wpAnyH_done (by kernel_rfl) ?_ _
        refine NoPanic.normal ?_
        clear CL3 SM ST
        generalize u9.setCell ⟨p5, 1, none⟩ (.slice a' (rs.length + 1) c') = u10 at *
        go_wp2_with fail
        go_roundw
        case rel => exact ⟨k + 1, ba, bc, ha, hc, a', c', by rw [N2.out], by go_num, by omega, by rw [N2.out]; exact HN⟩
        case measure => simp [intOf]; omega
      refine AllReadyH.cons rfl (fun K hK => ?_) AllReadyH.nil
      rw [if_pos (by kernel_rfl)]
      refine oper_build_ev _ rfl x rfl ?_
      have b9 := (Below.refl u0.heap.size u0).alloc (Nat.le_refl _) (.cells (evA x) 53)
      have CR := Lib.hid (lit_ev u0 x)
      replace ST := Lib.hid (ST.out.below b9)
      clear b9
      generalize u0.alloc (.cells (evA x) 53) = u1 at *
      refine hK.out _ _ ST.out.same (fun hHeld => ?_)
      clear hK K
      try simp only [Act.put, lq0, lq1, lq2, lq3, lq4, lq5]
      refine wpAnyH_ready (rs := [1]) (by kernel_rfl) (by simp) ?_
      refine AllReadyH.cons rfl (fun K hK => ?_) AllReadyH.nil
      have hcl := cell_of ST.out.reg.blk 1 (.slice ea rs.length ec) rfl
      go_simp
      clear hcl
      refine hK.out _ _ ST.out.same (fun hHeld => ?_)
      clear hK K
      try simp only [Act.put, lq0, lq1, lq2, lq3, lq4, lq5]
      refine wpAnyH_ready (rs := [7]) (by kernel_rfl) (by simp) ?_
      refine AllReadyH.cons rfl (fun K hK => ?_) AllReadyH.nil
      obtain ⟨a', c', u9, hrun, ho, hg, hl⟩ := run_app_ev _ V.heap.size ea rs.length ec _ ST.out.reg.eown _ 1 1 _ CR.out (evA_one x) (by have := RLEN.out; omega) ST.out.same.size
      have HN := Lib.hid (ST.out.addE ho hg hl)
      have CL3 := Lib.hid (grown_blk hg ST.out.reg.blk (own_no ST.out.reg.eown ST.out.reg.blk (by intro cur; simp)))
      have SM := Lib.hid (ST.out.same.reg (Same.of_grown hg (fun k e => .inr (ST.out.reg.eown.lt k e).1)))
      clear ho hg hl
      rw [if_pos (by kernel_rfl)]
      refine oper_append _ _ _ rfl _ _ _ rfl rfl hrun ?_
      clear hrun
      refine hK.out _ _ SM.out (fun hHeld => ?_)
      clear hK K
      try simp only [Act.put, lq0, lq1, lq2, lq3, lq4, lq5]
      refine wpAnyH_take (i := 8) (v := .pointer (some ⟨p5, 1, none⟩)) rfl (by kernel_rfl) (by kernel_rfl) (by kernel_rfl) (fun _ _ _ h => h) (Or.inl ⟨by kernel_rfl, by intro W _; go_simp⟩) (by assumption) ?_
      try simp only [Act.put, lq0, lq1, lq2, lq3, lq4, lq5]
      refine wpAnyH_ready (rs := [9]) (by kernel_rfl) (by simp) ?_
      refine AllReadyH.cons rfl (fun K hK => ?_) AllReadyH.nil
      have hcl := cell_of CL3.out 1 (.slice ea rs.length ec) rfl
      have hfz := frozen_of CL3.out 1
      go_simp
      clear hcl hfz
      refine hK.out _ _ HN.out.same (fun hHeld => ?_)
      clear hK K
      try simp only [Act.put, lq0, lq1, lq2, lq3, lq4, lq5]
      refine wpAnyH_done (by kernel_rfl) ?_ _
      refine NoPanic.normal ?_
      clear CL3 SM ST
      generalize u9.setCell ⟨p5, 1, none⟩ (.slice a' (rs.length + 1) c') = u10 at *
      go_wp2_with fail
      go_roundw
      case rel => exact ⟨k + 1, ba, bc, ha, hc, a', c', by rw [N2.out], by go_num, by omega, by rw [N2.out]; exact HN⟩
      case measure => simp [intOf]; omega
    · have t0 : decide ((k : Int) < (on : Int)) = false := by simp; omega
      obtain rfl : k = on := by omega
      rw [List.take_of_length_le (by rw [LENE.out.1]; exact Nat.le_refl _)] at ST ⊢
      have MEMR : Hid (∀ e ∈ (regOf day es).hs ++ (regOf day es).es, e ∈ es) := Lib.hid (fun e he => mem_regOf he)
      have REGC := Lib.hid REGL.out.cs
      generalize regOf day es = R at *
      obtain ⟨hs, rs, cs⟩ := R
      simp only at REGC MEMR ⊢
      have SV2 := Lib.hid ST.out.same
      have BADW : Hid (∀ W, Same (fun k => k = p5) wr W → RdA W 2 ba cs.length bc (nmCells cs)) := Lib.hid (fun W h => RdA.of_own (own_keep ST.out.bad h (fun b hb e => own_no ST.out.bad ST.out.reg.blk (by intro cur; simp) (by rw [hb, e]))))
      have BEL2 : Hid (∀ W, Same (fun k => k = p5) wr W → Below w.heap.size w W) := Lib.hid (fun W h => BELW.out W (SV2.out.trans h))
      have RG := Lib.hid ST.out.reg
      have S2 : Hid (F2At wr wr p5 (.slice ha hs.length hc) (.slice ea rs.length ec) none 0 0 (((l.take 0).filter (confB day l)).map nmOf)) := Lib.hid ⟨ST.out.reg.blk, Same.refl _ _, World.ownsRow_nil _ _ _ _⟩
      clear ST hk
      generalize wr = V2 at *
      go_wp2_with fail
      clear t0 hlt
      go_loopw [10] (fun i wr => ∃ (k : Nat) (ca : Option Addr) (cn cc : Nat), i = .int .i64 (k : Int) ∧ k ≤ nn ∧ cn ≤ k ∧ Hid (F2At V2 wr p5 (.slice ha hs.length hc) (.slice ea rs.length ec) ca cn cc (((l.take k).filter (confB day l)).map nmOf))) (fun i _ => nn - (intOf i).toNat)
      case atStart => exact ⟨0, none, 0, 0, rfl, Nat.zero_le _, Nat.le_refl _, S2⟩
      case round =>
        clear S2
        obtain ⟨k, ca, cn, cc, rfl, hk, hcn, ST⟩ := hrel
        by_cases hlt : k < nn
        · have t0 : decide ((k : Int) < (nn : Int)) = true := by simp; omega
          obtain ⟨x, Hx⟩ : ∃ x, xs[k]? = some x := ⟨_, List.getElem?_eq_getElem (by rw [LNX.out]; exact hlt)⟩
          have HLX := Lib.hid (show l[k]? = some x.n by rw [← HXS.out, List.getElem?_map, Hx]; rfl)
          have NXT := Lib.hid (conf_next day l HLX.out)
          have XK := Lib.hid (HK.out x.n (List.mem_of_getElem? HLX.out))
          obtain ⟨b, off, rfl, hat⟩ := RL.out.at (by omega)
          obtain ⟨o, ho⟩ : ∃ o, Hid (off + k * 19 = o) := ⟨_, Lib.hid rfl⟩
          have HXA := Lib.hid (show ∀ W, Below w.heap.size w W → W.rangeAt b o (x.n.cells x.sa x.sc) from fun W hb => by rw [← ho.out]; exact rangeAt_below (hat k x Hx).1 hb)
          have HIX := Lib.hid (fun W => idx_off (W := W) (c := nc) (b := b) Tryz.underlying43 J19 hlt ho.out)
          have HK64 : Hid ((k : Int) + 1 ≤ 9223372036854775807) := Lib.hid (by omega)
          have HX := Lib.hid (HXA.out wr (BEL2.out wr ST.out.same))
          clear hat Hx
          have hix := HIX.out
          go_wp2_with (refine wpList_load_mid rfl 51 _ rfl b o rfl (x.n.cells x.sa x.sc) _ HX.out Tryz.underlying51 rfl (size43 x.n x.sa x.sc) ?_)
          refine (rNameOf_any x.n x.sa x.sc wr).mono ?_
          rintro e W3 ⟨rfl, b3⟩
          replace ST := Lib.hid (ST.out.below b3)
          clear b3 HX t0
          go_wp2_with fail
          refine (rhas_any cs ba cs.length bc x.n.house x.n.num W3 (BADW.out W3 ST.out.same)).mono ?_
          rintro e W4 ⟨rfl, b4⟩
          replace ST := Lib.hid (ST.out.below b4)
          clear b4
          have CF : Hid (confB day l x.n = (decide ((x.n.house, x.n.num) ∈ cs) || idleP l x.n)) := Lib.hid (by unfold confB; rw [← REGC.out]; rfl)
          cases hh : decide ((x.n.house, x.n.num) ∈ cs)
          · rw [hh, Bool.false_or] at CF
            clear hh
            have HX := Lib.hid (HXA.out W4 (BEL2.out W4 ST.out.same))
            go_wp2_with (refine wpList_load_midW (by kernel_rfl) 51 _ rfl b o rfl (x.n.cells x.sa x.sc) _ HX.out Tryz.underlying51 rfl (size43 x.n x.sa x.sc) ?_)
            refine (ridle_any l (some ⟨b, off, none⟩) nn nc x.n x.sa x.sc W4 (RN.out.below (BEL2.out W4 ST.out.same)) XK.out).mono ?_
            rintro e W5 ⟨rfl, b5⟩
            replace ST := Lib.hid (ST.out.below b5)
            clear b5 HX
            cases hi : idleP l x.n
            · have N2 : Hid (((l.take (k + 1)).filter (confB day l)).map nmOf = ((l.take k).filter (confB day l)).map nmOf) := Lib.hid (by rw [NXT.out, if_neg (by rw [CF.out, hi]; decide)])
              clear hi
              have hk64 := HK64.out
              go_wp2_with fail
              go_roundw
              case rel => exact ⟨k + 1, ca, cn, cc, by go_num, by omega, by omega, by rw [N2.out]; exact ST⟩
              case measure => simp [intOf]; omega
            · have N2 : Hid (((l.take (k + 1)).filter (confB day l)).map nmOf = ((l.take k).filter (confB day l)).map nmOf ++ [nmOf x.n]) := Lib.hid (by rw [NXT.out, if_pos (by rw [CF.out, hi])])
              clear hi
              clear hix
              go_upto_region 19 with fail
              try simp only [Act.put, lq3, lq4, lq5]
              refine wp_region_noPanic ?_
              refine wp_region_held_drew (S := fun w' => Same (fun k => k = p5) V2 w') (by kernel_rfl) (show Same (fun k => k = p5) V2 W5.drew from ST.out.same.trans (Same.of_below (Below.refl _ _).drew)) (fun hHeld => ?_)
              replace ST := Lib.hid (ST.out.below ((Below.refl W5.heap.size W5).drew))
              generalize W5.drew = u0 at *
              refine wpAnyH_take (i := 0) (v := .pointer (some ⟨p5, 2, none⟩)) rfl (by kernel_rfl) (by kernel_rfl) (by kernel_rfl) (fun _ _ _ h => h) (Or.inl ⟨by kernel_rfl, by intro W _; go_simp⟩) (by assumption) ?_
              try simp only [Act.put, lq0, lq1, lq2, lq3, lq4, lq5]
              refine wpAnyH_take (i := 2) (v := .slice (some ⟨b, off, none⟩) nn nc) rfl (by kernel_rfl) (by kernel_rfl) (by kernel_rfl) (fun _ _ _ h => h) (Or.inl ⟨by kernel_rfl, by intro W _; go_simp⟩) (by assumption) ?_
              try simp only [Act.put, lq0, lq1, lq2, lq3, lq4, lq5]
              refine wpAnyH_take (i := 3) (v := .int .i64 (k : Int)) rfl (by kernel_rfl) (by kernel_rfl) (by kernel_rfl) (fun _ _ _ h => h) (Or.inl ⟨by kernel_rfl, by intro W _; go_simp⟩) (by assumption) ?_
              try simp only [Act.put, lq0, lq1, lq2, lq3, lq4, lq5]
              refine wpAnyH_take (i := 4) (v := .pointer (some ⟨b, o, none⟩)) rfl (by kernel_rfl) (by kernel_rfl) (by kernel_rfl) (fun _ _ _ h => h) (Or.inl ⟨by kernel_rfl, by intro W h; have hi := HIX.out W; go_simp⟩) (by assumption) ?_
              try simp only [Act.put, lq0, lq1, lq2, lq3, lq4, lq5]
              refine wpAnyH_take (i := 5) (v := .agg (noteA x.n x.sa x.sc)) rfl (by kernel_rfl) (by kernel_rfl) (by kernel_rfl) (fun _ _ _ h => h) (yields_mid (by kernel_rfl) 51 _ rfl b o rfl (x.n.cells x.sa x.sc) _ (fun W h => HXA.out W (BEL2.out W h)) Tryz.underlying51 rfl (size43 x.n x.sa x.sc)) (by assumption) ?_
              try simp only [Act.put, lq0, lq1, lq2, lq3, lq4, lq5]
              refine wpAnyH_ready (rs := [1, 6]) (by kernel_rfl) (by simp) ?_
              refine AllReadyH.cons rfl (fun K hK => ?_) ?_
              · have hcl := cell_of ST.out.blk 2 (.slice ca cn cc) rfl
                go_simp
                clear hcl
                refine hK.out _ _ ST.out.same (fun hHeld => ?_)
                clear hK K
                try simp only [Act.put, lq0, lq1, lq2, lq3, lq4, lq5]
                refine wpAnyH_ready (rs := [6]) (by kernel_rfl) (by simp) ?_
                refine AllReadyH.cons rfl (fun K hK => ?_) AllReadyH.nil
                go_simp
                refine (rNameOf_any x.n x.sa x.sc u0).mono ?_
                rintro e u1 ⟨rfl, b1⟩
                replace ST := Lib.hid (ST.out.below b1)
                clear b1
                refine hK.out _ _ ST.out.same (fun hHeld => ?_)
                clear hK K
                try simp only [Act.put, lq0, lq1, lq2, lq3, lq4, lq5]
                refine wpAnyH_ready (rs := [7]) (by kernel_rfl) (by simp) ?_
                refine AllReadyH.cons rfl (fun K hK => ?_) AllReadyH.nil
                have bn := (Below.refl u1.heap.size u1).alloc (Nat.le_refl _) (.cells #[.int .i64 x.n.house, .int .i64 x.n.num] 29)
                replace ST := Lib.hid (ST.out.below bn)
                have LR := Lib.hid (lit_rd u1 (.int .i64 x.n.house) (.int .i64 x.n.num))
                clear bn
                go_simp
                generalize u1.alloc (.cells #[.int .i64 x.n.house, .int .i64 x.n.num] 29) = u2 at *
                refine hK.out _ _ ST.out.same (fun hHeld => ?_)
                clear hK K
                try simp only [Act.put, lq0, lq1, lq2, lq3, lq4, lq5]
                refine wpAnyH_ready (rs := [8]) (by kernel_rfl) (by simp) ?_
                refine AllReadyH.cons rfl (fun K hK => ?_) AllReadyH.nil
                obtain ⟨a', c', u9, hrun, ho, hg⟩ := run_app_nm u2 V2.heap.size ca cn cc _ ST.out.own _ 1 1 _ LR.out (fun u hu => by simp only [List.mem_cons, List.not_mem_nil, or_false] at hu; rcases hu with rfl | rfl <;> rfl) (by have := HNN.out; omega) ST.out.same.size
                have HN := Lib.hid (ST.out.add (a := nmOf x.n) ho hg)
                have CL3 := Lib.hid (grown_blk hg ST.out.blk (own_no ST.out.own ST.out.blk (by intro cur; simp)))
                have SM := Lib.hid (ST.out.same.reg (Same.of_grown hg (fun k e => .inr (ST.out.own.lt k e).1)))
                clear ho hg
                rw [if_pos (by kernel_rfl)]
                refine oper_append _ _ _ rfl _ _ _ rfl rfl hrun ?_
                clear hrun
                refine hK.out _ _ SM.out (fun hHeld => ?_)
                clear hK K
                try simp only [Act.put, lq0, lq1, lq2, lq3, lq4, lq5]
                refine wpAnyH_take (i := 9) (v := .pointer (some ⟨p5, 2, none⟩)) rfl (by kernel_rfl) (by kernel_rfl) (by kernel_rfl) (fun _ _ _ h => h) (Or.inl ⟨by kernel_rfl, by intro W _; go_simp⟩) (by assumption) ?_
                try simp only [Act.put, lq0, lq1, lq2, lq3, lq4, lq5]
                refine wpAnyH_ready (rs := [10]) (by kernel_rfl) (by simp) ?_
                refine AllReadyH.cons rfl (fun K hK => ?_) AllReadyH.nil
                have hcl := cell_of CL3.out 2 (.slice ca cn cc) rfl
                have hfz := frozen_of CL3.out 2
                go_simp
                clear hcl hfz
                refine hK.out _ _ HN.out.same (fun hHeld => ?_)
                clear hK K
                try simp only [Act.put, lq0, lq1, lq2, lq3, lq4, lq5]
                refine wpAnyH_done (by kernel_rfl) ?_ _
                refine NoPanic.normal ?_
                clear CL3 SM ST
                generalize u9.setCell ⟨p5, 2, none⟩ (.slice a' (cn + 1) c') = u10 at *
                have hk64 := HK64.out
                go_wp2_with fail
                go_roundw
                case rel => exact ⟨k + 1, a', cn + 1, c', by go_num, by omega, by omega, by rw [N2.out]; exact HN⟩
                case measure => simp [intOf]; omega
              refine AllReadyH.cons rfl (fun K hK => ?_) AllReadyH.nil
              go_simp
              refine (rNameOf_any x.n x.sa x.sc u0).mono ?_
              rintro e u1 ⟨rfl, b1⟩
              replace ST := Lib.hid (ST.out.below b1)
              clear b1
              refine hK.out _ _ ST.out.same (fun hHeld => ?_)
              clear hK K
              try simp only [Act.put, lq0, lq1, lq2, lq3, lq4, lq5]
              refine wpAnyH_ready (rs := [1, 7]) (by kernel_rfl) (by simp) ?_
              refine AllReadyH.cons rfl (fun K hK => ?_) ?_
              · have hcl := cell_of ST.out.blk 2 (.slice ca cn cc) rfl
                go_simp
                clear hcl
                refine hK.out _ _ ST.out.same (fun hHeld => ?_)
                clear hK K
                try simp only [Act.put, lq0, lq1, lq2, lq3, lq4, lq5]
                refine wpAnyH_ready (rs := [7]) (by kernel_rfl) (by simp) ?_
                refine AllReadyH.cons rfl (fun K hK => ?_) AllReadyH.nil
                have bn := (Below.refl u1.heap.size u1).alloc (Nat.le_refl _) (.cells #[.int .i64 x.n.house, .int .i64 x.n.num] 29)
                replace ST := Lib.hid (ST.out.below bn)
                have LR := Lib.hid (lit_rd u1 (.int .i64 x.n.house) (.int .i64 x.n.num))
                clear bn
                go_simp
                generalize u1.alloc (.cells #[.int .i64 x.n.house, .int .i64 x.n.num] 29) = u2 at *
                refine hK.out _ _ ST.out.same (fun hHeld => ?_)
                clear hK K
                try simp only [Act.put, lq0, lq1, lq2, lq3, lq4, lq5]
                refine wpAnyH_ready (rs := [8]) (by kernel_rfl) (by simp) ?_
                refine AllReadyH.cons rfl (fun K hK => ?_) AllReadyH.nil
                obtain ⟨a', c', u9, hrun, ho, hg⟩ := run_app_nm u2 V2.heap.size ca cn cc _ ST.out.own _ 1 1 _ LR.out (fun u hu => by simp only [List.mem_cons, List.not_mem_nil, or_false] at hu; rcases hu with rfl | rfl <;> rfl) (by have := HNN.out; omega) ST.out.same.size
                have HN := Lib.hid (ST.out.add (a := nmOf x.n) ho hg)
                have CL3 := Lib.hid (grown_blk hg ST.out.blk (own_no ST.out.own ST.out.blk (by intro cur; simp)))
                have SM := Lib.hid (ST.out.same.reg (Same.of_grown hg (fun k e => .inr (ST.out.own.lt k e).1)))
                clear ho hg
                rw [if_pos (by kernel_rfl)]
                refine oper_append _ _ _ rfl _ _ _ rfl rfl hrun ?_
                clear hrun
                refine hK.out _ _ SM.out (fun hHeld => ?_)
                clear hK K
                try simp only [Act.put, lq0, lq1, lq2, lq3, lq4, lq5]
                refine wpAnyH_take (i := 9) (v := .pointer (some ⟨p5, 2, none⟩)) rfl (by kernel_rfl) (by kernel_rfl) (by kernel_rfl) (fun _ _ _ h => h) (Or.inl ⟨by kernel_rfl, by intro W _; go_simp⟩) (by assumption) ?_
                try simp only [Act.put, lq0, lq1, lq2, lq3, lq4, lq5]
                refine wpAnyH_ready (rs := [10]) (by kernel_rfl) (by simp) ?_
                refine AllReadyH.cons rfl (fun K hK => ?_) AllReadyH.nil
                have hcl := cell_of CL3.out 2 (.slice ca cn cc) rfl
                have hfz := frozen_of CL3.out 2
                go_simp
                clear hcl hfz
                refine hK.out _ _ HN.out.same (fun hHeld => ?_)
                clear hK K
                try simp only [Act.put, lq0, lq1, lq2, lq3, lq4, lq5]
                refine wpAnyH_done (by kernel_rfl) ?_ _
                refine NoPanic.normal ?_
                clear CL3 SM ST
                generalize u9.setCell ⟨p5, 2, none⟩ (.slice a' (cn + 1) c') = u10 at *
                have hk64 := HK64.out
                go_wp2_with fail
                go_roundw
                case rel => exact ⟨k + 1, a', cn + 1, c', by go_num, by omega, by omega, by rw [N2.out]; exact HN⟩
                case measure => simp [intOf]; omega
              refine AllReadyH.cons rfl (fun K hK => ?_) AllReadyH.nil
              have bn := (Below.refl u1.heap.size u1).alloc (Nat.le_refl _) (.cells #[.int .i64 x.n.house, .int .i64 x.n.num] 29)
              replace ST := Lib.hid (ST.out.below bn)
              have LR := Lib.hid (lit_rd u1 (.int .i64 x.n.house) (.int .i64 x.n.num))
              clear bn
              go_simp
              generalize u1.alloc (.cells #[.int .i64 x.n.house, .int .i64 x.n.num] 29) = u2 at *
              refine hK.out _ _ ST.out.same (fun hHeld => ?_)
              clear hK K
              try simp only [Act.put, lq0, lq1, lq2, lq3, lq4, lq5]
              refine wpAnyH_ready (rs := [1]) (by kernel_rfl) (by simp) ?_
              refine AllReadyH.cons rfl (fun K hK => ?_) AllReadyH.nil
              have hcl := cell_of ST.out.blk 2 (.slice ca cn cc) rfl
              go_simp
              clear hcl
              refine hK.out _ _ ST.out.same (fun hHeld => ?_)
              clear hK K
              try simp only [Act.put, lq0, lq1, lq2, lq3, lq4, lq5]
              refine wpAnyH_ready (rs := [8]) (by kernel_rfl) (by simp) ?_
              refine AllReadyH.cons rfl (fun K hK => ?_) AllReadyH.nil
              obtain ⟨a', c', u9, hrun, ho, hg⟩ := run_app_nm u2 V2.heap.size ca cn cc _ ST.out.own _ 1 1 _ LR.out (fun u hu => by simp only [List.mem_cons, List.not_mem_nil, or_false] at hu; rcases hu with rfl | rfl <;> rfl) (by have := HNN.out; omega) ST.out.same.size
              have HN := Lib.hid (ST.out.add (a := nmOf x.n) ho hg)
              have CL3 := Lib.hid (grown_blk hg ST.out.blk (own_no ST.out.own ST.out.blk (by intro cur; simp)))
              have SM := Lib.hid (ST.out.same.reg (Same.of_grown hg (fun k e => .inr (ST.out.own.lt k e).1)))
              clear ho hg
              rw [if_pos (by kernel_rfl)]
              refine oper_append _ _ _ rfl _ _ _ rfl rfl hrun ?_
              clear hrun
              refine hK.out _ _ SM.out (fun hHeld => ?_)
              clear hK K
              try simp only [Act.put, lq0, lq1, lq2, lq3, lq4, lq5]
              refine wpAnyH_take (i := 9) (v := .pointer (some ⟨p5, 2, none⟩)) rfl (by kernel_rfl) (by kernel_rfl) (by kernel_rfl) (fun _ _ _ h => h) (Or.inl ⟨by kernel_rfl, by intro W _; go_simp⟩) (by assumption) ?_
              try simp only [Act.put, lq0, lq1, lq2, lq3, lq4, lq5]
              refine wpAnyH_ready (rs := [10]) (by kernel_rfl) (by simp) ?_
              refine AllReadyH.cons rfl (fun K hK => ?_) AllReadyH.nil
              have hcl := cell_of CL3.out 2 (.slice ca cn cc) rfl
              have hfz := frozen_of CL3.out 2
              go_simp
              clear hcl hfz
              refine hK.out _ _ HN.out.same (fun hHeld => ?_)
              clear hK K
              try simp only [Act.put, lq0, lq1, lq2, lq3, lq4, lq5]
              refine wpAnyH_done (by kernel_rfl) ?_ _
              refine NoPanic.normal ?_
              clear CL3 SM ST
              generalize u9.setCell ⟨p5, 2, none⟩ (.slice a' (cn + 1) c') = u10 at *
              have hk64 := HK64.out
              go_wp2_with fail
              go_roundw
              case rel => exact ⟨k + 1, a', cn + 1, c', by go_num, by omega, by omega, by rw [N2.out]; exact HN⟩
              case measure => simp [intOf]; omega
          · rw [hh, Bool.true_or] at CF
            clear hh
            have N2 : Hid (((l.take (k + 1)).filter (confB day l)).map nmOf = ((l.take k).filter (confB day l)).map nmOf ++ [nmOf x.n]) := Lib.hid (by rw [NXT.out, if_pos CF.out])
            clear hix
            go_upto_region 19 with fail
            try simp only [Act.put, lq3, lq4, lq5]
            refine wp_region_noPanic ?_
            refine wp_region_held_drew (S := fun w' => Same (fun k => k = p5) V2 w') (by kernel_rfl) (show Same (fun k => k = p5) V2 W4.drew from ST.out.same.trans (Same.of_below (Below.refl _ _).drew)) (fun hHeld => ?_)
            replace ST := Lib.hid (ST.out.below ((Below.refl W4.heap.size W4).drew))
            generalize W4.drew = u0 at *
            refine wpAnyH_take (i := 0) (v := .pointer (some ⟨p5, 2, none⟩)) rfl (by kernel_rfl) (by kernel_rfl) (by kernel_rfl) (fun _ _ _ h => h) (Or.inl ⟨by kernel_rfl, by intro W _; go_simp⟩) (by assumption) ?_
            try simp only [Act.put, lq0, lq1, lq2, lq3, lq4, lq5]
            refine wpAnyH_take (i := 2) (v := .slice (some ⟨b, off, none⟩) nn nc) rfl (by kernel_rfl) (by kernel_rfl) (by kernel_rfl) (fun _ _ _ h => h) (Or.inl ⟨by kernel_rfl, by intro W _; go_simp⟩) (by assumption) ?_
            try simp only [Act.put, lq0, lq1, lq2, lq3, lq4, lq5]
            refine wpAnyH_take (i := 3) (v := .int .i64 (k : Int)) rfl (by kernel_rfl) (by kernel_rfl) (by kernel_rfl) (fun _ _ _ h => h) (Or.inl ⟨by kernel_rfl, by intro W _; go_simp⟩) (by assumption) ?_
            try simp only [Act.put, lq0, lq1, lq2, lq3, lq4, lq5]
            refine wpAnyH_take (i := 4) (v := .pointer (some ⟨b, o, none⟩)) rfl (by kernel_rfl) (by kernel_rfl) (by kernel_rfl) (fun _ _ _ h => h) (Or.inl ⟨by kernel_rfl, by intro W h; have hi := HIX.out W; go_simp⟩) (by assumption) ?_
            try simp only [Act.put, lq0, lq1, lq2, lq3, lq4, lq5]
            refine wpAnyH_take (i := 5) (v := .agg (noteA x.n x.sa x.sc)) rfl (by kernel_rfl) (by kernel_rfl) (by kernel_rfl) (fun _ _ _ h => h) (yields_mid (by kernel_rfl) 51 _ rfl b o rfl (x.n.cells x.sa x.sc) _ (fun W h => HXA.out W (BEL2.out W h)) Tryz.underlying51 rfl (size43 x.n x.sa x.sc)) (by assumption) ?_
            try simp only [Act.put, lq0, lq1, lq2, lq3, lq4, lq5]
            refine wpAnyH_ready (rs := [1, 6]) (by kernel_rfl) (by simp) ?_
            refine AllReadyH.cons rfl (fun K hK => ?_) ?_
            · have hcl := cell_of ST.out.blk 2 (.slice ca cn cc) rfl
              go_simp
              clear hcl
              refine hK.out _ _ ST.out.same (fun hHeld => ?_)
              clear hK K
              try simp only [Act.put, lq0, lq1, lq2, lq3, lq4, lq5]
              refine wpAnyH_ready (rs := [6]) (by kernel_rfl) (by simp) ?_
              refine AllReadyH.cons rfl (fun K hK => ?_) AllReadyH.nil
              go_simp
              refine (rNameOf_any x.n x.sa x.sc u0).mono ?_
              rintro e u1 ⟨rfl, b1⟩
              replace ST := Lib.hid (ST.out.below b1)
              clear b1
              refine hK.out _ _ ST.out.same (fun hHeld => ?_)
              clear hK K
              try simp only [Act.put, lq0, lq1, lq2, lq3, lq4, lq5]
              refine wpAnyH_ready (rs := [7]) (by kernel_rfl) (by simp) ?_
              refine AllReadyH.cons rfl (fun K hK => ?_) AllReadyH.nil
              have bn := (Below.refl u1.heap.size u1).alloc (Nat.le_refl _) (.cells #[.int .i64 x.n.house, .int .i64 x.n.num] 29)
              replace ST := Lib.hid (ST.out.below bn)
              have LR := Lib.hid (lit_rd u1 (.int .i64 x.n.house) (.int .i64 x.n.num))
              clear bn
              go_simp
              generalize u1.alloc (.cells #[.int .i64 x.n.house, .int .i64 x.n.num] 29) = u2 at *
              refine hK.out _ _ ST.out.same (fun hHeld => ?_)
              clear hK K
              try simp only [Act.put, lq0, lq1, lq2, lq3, lq4, lq5]
              refine wpAnyH_ready (rs := [8]) (by kernel_rfl) (by simp) ?_
              refine AllReadyH.cons rfl (fun K hK => ?_) AllReadyH.nil
              obtain ⟨a', c', u9, hrun, ho, hg⟩ := run_app_nm u2 V2.heap.size ca cn cc _ ST.out.own _ 1 1 _ LR.out (fun u hu => by simp only [List.mem_cons, List.not_mem_nil, or_false] at hu; rcases hu with rfl | rfl <;> rfl) (by have := HNN.out; omega) ST.out.same.size
              have HN := Lib.hid (ST.out.add (a := nmOf x.n) ho hg)
              have CL3 := Lib.hid (grown_blk hg ST.out.blk (own_no ST.out.own ST.out.blk (by intro cur; simp)))
              have SM := Lib.hid (ST.out.same.reg (Same.of_grown hg (fun k e => .inr (ST.out.own.lt k e).1)))
              clear ho hg
              rw [if_pos (by kernel_rfl)]
              refine oper_append _ _ _ rfl _ _ _ rfl rfl hrun ?_
              clear hrun
              refine hK.out _ _ SM.out (fun hHeld => ?_)
              clear hK K
              try simp only [Act.put, lq0, lq1, lq2, lq3, lq4, lq5]
              refine wpAnyH_take (i := 9) (v := .pointer (some ⟨p5, 2, none⟩)) rfl (by kernel_rfl) (by kernel_rfl) (by kernel_rfl) (fun _ _ _ h => h) (Or.inl ⟨by kernel_rfl, by intro W _; go_simp⟩) (by assumption) ?_
              try simp only [Act.put, lq0, lq1, lq2, lq3, lq4, lq5]
              refine wpAnyH_ready (rs := [10]) (by kernel_rfl) (by simp) ?_
              refine AllReadyH.cons rfl (fun K hK => ?_) AllReadyH.nil
              have hcl := cell_of CL3.out 2 (.slice ca cn cc) rfl
              have hfz := frozen_of CL3.out 2
              go_simp
              clear hcl hfz
              refine hK.out _ _ HN.out.same (fun hHeld => ?_)
              clear hK K
              try simp only [Act.put, lq0, lq1, lq2, lq3, lq4, lq5]
              refine wpAnyH_done (by kernel_rfl) ?_ _
              refine NoPanic.normal ?_
              clear CL3 SM ST
              generalize u9.setCell ⟨p5, 2, none⟩ (.slice a' (cn + 1) c') = u10 at *
              have hk64 := HK64.out
              go_wp2_with fail
              go_roundw
              case rel => exact ⟨k + 1, a', cn + 1, c', by go_num, by omega, by omega, by rw [N2.out]; exact HN⟩
              case measure => simp [intOf]; omega
            refine AllReadyH.cons rfl (fun K hK => ?_) AllReadyH.nil
            go_simp
            refine (rNameOf_any x.n x.sa x.sc u0).mono ?_
            rintro e u1 ⟨rfl, b1⟩
            replace ST := Lib.hid (ST.out.below b1)
            clear b1
            refine hK.out _ _ ST.out.same (fun hHeld => ?_)
            clear hK K
            try simp only [Act.put, lq0, lq1, lq2, lq3, lq4, lq5]
            refine wpAnyH_ready (rs := [1, 7]) (by kernel_rfl) (by simp) ?_
            refine AllReadyH.cons rfl (fun K hK => ?_) ?_
            · have hcl := cell_of ST.out.blk 2 (.slice ca cn cc) rfl
              go_simp
              clear hcl
              refine hK.out _ _ ST.out.same (fun hHeld => ?_)
              clear hK K
              try simp only [Act.put, lq0, lq1, lq2, lq3, lq4, lq5]
              refine wpAnyH_ready (rs := [7]) (by kernel_rfl) (by simp) ?_
              refine AllReadyH.cons rfl (fun K hK => ?_) AllReadyH.nil
              have bn := (Below.refl u1.heap.size u1).alloc (Nat.le_refl _) (.cells #[.int .i64 x.n.house, .int .i64 x.n.num] 29)
              replace ST := Lib.hid (ST.out.below bn)
              have LR := Lib.hid (lit_rd u1 (.int .i64 x.n.house) (.int .i64 x.n.num))
              clear bn
              go_simp
              generalize u1.alloc (.cells #[.int .i64 x.n.house, .int .i64 x.n.num] 29) = u2 at *
              refine hK.out _ _ ST.out.same (fun hHeld => ?_)
              clear hK K
              try simp only [Act.put, lq0, lq1, lq2, lq3, lq4, lq5]
              refine wpAnyH_ready (rs := [8]) (by kernel_rfl) (by simp) ?_
              refine AllReadyH.cons rfl (fun K hK => ?_) AllReadyH.nil
              obtain ⟨a', c', u9, hrun, ho, hg⟩ := run_app_nm u2 V2.heap.size ca cn cc _ ST.out.own _ 1 1 _ LR.out (fun u hu => by simp only [List.mem_cons, List.not_mem_nil, or_false] at hu; rcases hu with rfl | rfl <;> rfl) (by have := HNN.out; omega) ST.out.same.size
              have HN := Lib.hid (ST.out.add (a := nmOf x.n) ho hg)
              have CL3 := Lib.hid (grown_blk hg ST.out.blk (own_no ST.out.own ST.out.blk (by intro cur; simp)))
              have SM := Lib.hid (ST.out.same.reg (Same.of_grown hg (fun k e => .inr (ST.out.own.lt k e).1)))
              clear ho hg
              rw [if_pos (by kernel_rfl)]
              refine oper_append _ _ _ rfl _ _ _ rfl rfl hrun ?_
              clear hrun
              refine hK.out _ _ SM.out (fun hHeld => ?_)
              clear hK K
              try simp only [Act.put, lq0, lq1, lq2, lq3, lq4, lq5]
              refine wpAnyH_take (i := 9) (v := .pointer (some ⟨p5, 2, none⟩)) rfl (by kernel_rfl) (by kernel_rfl) (by kernel_rfl) (fun _ _ _ h => h) (Or.inl ⟨by kernel_rfl, by intro W _; go_simp⟩) (by assumption) ?_
              try simp only [Act.put, lq0, lq1, lq2, lq3, lq4, lq5]
              refine wpAnyH_ready (rs := [10]) (by kernel_rfl) (by simp) ?_
              refine AllReadyH.cons rfl (fun K hK => ?_) AllReadyH.nil
              have hcl := cell_of CL3.out 2 (.slice ca cn cc) rfl
              have hfz := frozen_of CL3.out 2
              go_simp
              clear hcl hfz
              refine hK.out _ _ HN.out.same (fun hHeld => ?_)
              clear hK K
              try simp only [Act.put, lq0, lq1, lq2, lq3, lq4, lq5]
              refine wpAnyH_done (by kernel_rfl) ?_ _
              refine NoPanic.normal ?_
              clear CL3 SM ST
              generalize u9.setCell ⟨p5, 2, none⟩ (.slice a' (cn + 1) c') = u10 at *
              have hk64 := HK64.out
              go_wp2_with fail
              go_roundw
              case rel => exact ⟨k + 1, a', cn + 1, c', by go_num, by omega, by omega, by rw [N2.out]; exact HN⟩
              case measure => simp [intOf]; omega
            refine AllReadyH.cons rfl (fun K hK => ?_) AllReadyH.nil
            have bn := (Below.refl u1.heap.size u1).alloc (Nat.le_refl _) (.cells #[.int .i64 x.n.house, .int .i64 x.n.num] 29)
            replace ST := Lib.hid (ST.out.below bn)
            have LR := Lib.hid (lit_rd u1 (.int .i64 x.n.house) (.int .i64 x.n.num))
            clear bn
            go_simp
            generalize u1.alloc (.cells #[.int .i64 x.n.house, .int .i64 x.n.num] 29) = u2 at *
            refine hK.out _ _ ST.out.same (fun hHeld => ?_)
            clear hK K
            try simp only [Act.put, lq0, lq1, lq2, lq3, lq4, lq5]
            refine wpAnyH_ready (rs := [1]) (by kernel_rfl) (by simp) ?_
            refine AllReadyH.cons rfl (fun K hK => ?_) AllReadyH.nil
            have hcl := cell_of ST.out.blk 2 (.slice ca cn cc) rfl
            go_simp
            clear hcl
            refine hK.out _ _ ST.out.same (fun hHeld => ?_)
            clear hK K
            try simp only [Act.put, lq0, lq1, lq2, lq3, lq4, lq5]
            refine wpAnyH_ready (rs := [8]) (by kernel_rfl) (by simp) ?_
            refine AllReadyH.cons rfl (fun K hK => ?_) AllReadyH.nil
            obtain ⟨a', c', u9, hrun, ho, hg⟩ := run_app_nm u2 V2.heap.size ca cn cc _ ST.out.own _ 1 1 _ LR.out (fun u hu => by simp only [List.mem_cons, List.not_mem_nil, or_false] at hu; rcases hu with rfl | rfl <;> rfl) (by have := HNN.out; omega) ST.out.same.size
            have HN := Lib.hid (ST.out.add (a := nmOf x.n) ho hg)
            have CL3 := Lib.hid (grown_blk hg ST.out.blk (own_no ST.out.own ST.out.blk (by intro cur; simp)))
            have SM := Lib.hid (ST.out.same.reg (Same.of_grown hg (fun k e => .inr (ST.out.own.lt k e).1)))
            clear ho hg
            rw [if_pos (by kernel_rfl)]
            refine oper_append _ _ _ rfl _ _ _ rfl rfl hrun ?_
            clear hrun
            refine hK.out _ _ SM.out (fun hHeld => ?_)
            clear hK K
            try simp only [Act.put, lq0, lq1, lq2, lq3, lq4, lq5]
            refine wpAnyH_take (i := 9) (v := .pointer (some ⟨p5, 2, none⟩)) rfl (by kernel_rfl) (by kernel_rfl) (by kernel_rfl) (fun _ _ _ h => h) (Or.inl ⟨by kernel_rfl, by intro W _; go_simp⟩) (by assumption) ?_
            try simp only [Act.put, lq0, lq1, lq2, lq3, lq4, lq5]
            refine wpAnyH_ready (rs := [10]) (by kernel_rfl) (by simp) ?_
            refine AllReadyH.cons rfl (fun K hK => ?_) AllReadyH.nil
            have hcl := cell_of CL3.out 2 (.slice ca cn cc) rfl
            have hfz := frozen_of CL3.out 2
            go_simp
            clear hcl hfz
            refine hK.out _ _ HN.out.same (fun hHeld => ?_)
            clear hK K
            try simp only [Act.put, lq0, lq1, lq2, lq3, lq4, lq5]
            refine wpAnyH_done (by kernel_rfl) ?_ _
            refine NoPanic.normal ?_
            clear CL3 SM ST
            generalize u9.setCell ⟨p5, 2, none⟩ (.slice a' (cn + 1) c') = u10 at *
            have hk64 := HK64.out
            go_wp2_with fail
            go_roundw
            case rel => exact ⟨k + 1, a', cn + 1, c', by go_num, by omega, by omega, by rw [N2.out]; exact HN⟩
            case measure => simp [intOf]; omega
        · have t0 : decide ((k : Int) < (nn : Int)) = false := by simp; omega
          rw [List.take_of_length_le (by rw [HLN.out]; omega), conf_all] at ST
          have X4 : Hid (wr.heap[p4]? = some (.cells #[.slice none 0 0, .slice none 0 0, .slice none 0 0] 27 (0, 0))) := Lib.hid (((SV2.out.trans ST.out.same).block p4 PLT.out.1 (fun e => by have := LT.out; omega)).trans X1.out)
          clear hk
          go_wp2_with (first
            | (refine wpList_load_row rfl 27 _ rfl p5 rfl 27 #[.slice ha hs.length hc, .slice ea rs.length ec, .slice ca cn cc] (0, 0) _ ST.out.blk Tryz.underlying27 rfl (I3.out _ _ _) ?_)
            | (refine wpList_store_blkP rfl 27 _ _ rfl p4 #[.slice none 0 0, .slice none 0 0, .slice none 0 0] #[.slice ha hs.length hc, .slice ea rs.length ec, .slice ca cn cc] 27 rfl rfl X4.out (I3.out _ _ _) rfl (by simp [Value.oneCell']) ?_; intro w11 hr1 hr2 hr3)
            | fail)
          have SM := Lib.hid (SV2.out.trans ST.out.same)
          have HR1 := Lib.hid hr1
          have HR2 := Lib.hid hr2
          have HR3 := Lib.hid hr3
          clear hr1 hr2 hr3 t0 hlt
          refine bodyPost_ret (results_cell_row rfl _ _ p4 27 #[.slice ha hs.length hc, .slice ea rs.length ec, .slice ca cn cc] (0, 0) _ rfl HR1.out Tryz.underlying27 rfl (I3.out _ _ _)) rfl ?_
          have K4 : ∀ {b e k n : Nat} {v : Value} {ys : List Value}, e ≠ 27 → wr.ownsRow b e k v n ys → w11.ownsRow b e k v n ys := by
            intro b e k n v ys hn1 h
            exact h.kept HR2.out (.inr (own_no h X4.out (fun cur hh => hn1 (by injection hh with _ h4 _; exact h4.symm))).symm)
          have SZ0 : w.heap.size ≤ W0.heap.size := by have := LT.out; omega
          have SZ2 : w.heap.size ≤ V2.heap.size := (BEL2.out V2 (Same.refl _ _)).size
          have OKE : ∀ e ∈ es, w11.ownsRow w.heap.size 3 1 (.slice e.x.sa e.x.n.strokes.length e.x.sc) e.x.n.strokes.length (e.x.n.strokes.map intV) := fun e he => by
            have h1 := own_keep (SV.out.str e he) SM.out (fun b hb e2 => own_no (SV.out.str e he) Y1.out (by intro cur; simp) (by rw [hb, e2]))
            exact own_mono (K4 (by decide) h1) SZ0
          have OHS := own_mono (K4 (by decide) (own_keep RG.out.hown ST.out.same (fun b hb e => own_no RG.out.hown RG.out.blk (by intro cur; simp) (by rw [hb, e])))) B1.out.size
          have OES := own_mono (K4 (by decide) (own_keep RG.out.eown ST.out.same (fun b hb e => own_no RG.out.eown RG.out.blk (by intro cur; simp) (by rw [hb, e])))) B1.out.size
          have OCS := own_mono (K4 (by decide) ST.out.own) SZ2
          exact ⟨⟨_, rfl, ha, _, hc, ea, _, ec, ca, cn, cc, hs, rs, rfl, OHS, OES, OCS, fun e he => OKE e (MEMR.out e he), evC_notes REGL.out.hs REGL.out.nh, evC_notes REGL.out.es REGL.out.ne⟩,
            (BEL2.out wr ST.out.same).grown HR2.out (BEL2.out wr ST.out.same).size (fun q e => by cases e; have := LT.out; omega)⟩
end Go.Proofs.YtpjiakgfegnmcaaGreat
