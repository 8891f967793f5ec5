/- Parts of the proof, in this order: A house's Hear; The program's reading, and the closures of Decode; The program's Decode; Decode: its note lies in memory of its own; The plain law of power, of a house; The program's Merge: its result lies in memory of its own; A house's making, Notes and Counts; light; NewHouse for any id; a house's Sync. -/
import Derived.Defers
import Derived.Recover
import Derived.Laws.Pointers
import Derived.Test.YtlnhppgfhkkidaaGreatKPpw12
set_option linter.unusedSimpArgs false
set_option linter.unusedVariables false
open List renaming getElem_toArray → lq0, getElem_cons_succ → lq1, getElem_cons_zero → lq2, setIfInBounds_toArray → lq3, set_cons_zero → lq4, set_cons_succ → lq5
namespace Go.Proofs.YtlnhppgfhkkidaaGreat
set_option linter.unusedSimpArgs false
open Go.RowKit

theorem yields_mid2 {P : Program} {ops : Array Oper} {S : World → Prop} {op : Oper} {a : Act} (hw : Region.wanted op (yielded ops a.tmps) = true) (ty : TypeId) (x : Operand) (ho : op.op = .load ty x)
    (b o : Nat) (hx : a.eval x = .pointer (some ⟨b, o, none⟩)) (cs : List Value) (d : TypeDesc) (hS : ∀ w, S w → w.rangeAt b o cs)
    (hu : P.underlying ty = some d) (hd : d.isRow = true) (hi : (P.info? ty).map (·.size) = some cs.length) : YieldsIf P ops S op (.agg cs.toArray) a :=
  .inl ⟨hw, fun w hw' => by
    unfold execOp
    simp only [ho, hx, Instr.loadAt, Instr.sureAddr, Sem.run_bind, Sem.run_pure, Result.andThen_ok, run_loadVar_mid w b o ty cs d (hS w hw') hu hd hi]⟩
theorem same_trans2 {F F1 : Nat → Prop} {a b c : World} (h : Same F a b) (k : Same F1 b c) (hF : ∀ k, F1 k → F k ∨ a.heap.size ≤ k) : Same F a c :=
  ⟨k.os.trans h.os, k.tape.trans h.tape, k.output.trans h.output, Nat.le_trans h.size k.size, fun i hi hs => (k.block i (Nat.lt_of_lt_of_le hi h.size) (fun h1 => by
    rcases hF i h1 with h2 | h2
    · exact hs h2
    · omega)).trans (h.block i hi hs)⟩
theorem hou_cnts {W : World} {p mb sp : Nat} {f : FrV} {id : Int} {c : Int → Nat} (h : W.heap[p]? = some (.cells (houA f id mb c sp) 109 (0, 0))) : W.rangeAt p 5 [.int .i64 (c 0 : Int), .int .i64 (c 1 : Int), .int .i64 (c 2 : Int), .int .i64 (c 3 : Int), .int .i64 (c 4 : Int), .int .i64 (c 5 : Int), .int .i64 (c 6 : Int), .int .i64 (c 7 : Int), .int .i64 (c 8 : Int)] := fun j v hv => by
  have hj : j < 9 := (List.getElem?_eq_some_iff.1 hv).1
  have h1 := cell_of h (5 + j) v ?_
  · exact h1
  · have : j = 0 ∨ j = 1 ∨ j = 2 ∨ j = 3 ∨ j = 4 ∨ j = 5 ∨ j = 6 ∨ j = 7 ∨ j = 8 := by omega
    rcases this with rfl | rfl | rfl | rfl | rfl | rfl | rfl | rfl | rfl <;> simpa [houA] using hv
def cntA (c : Int → Nat) : Array Value := #[.int .i64 (c 0 : Int), .int .i64 (c 1 : Int), .int .i64 (c 2 : Int), .int .i64 (c 3 : Int), .int .i64 (c 4 : Int), .int .i64 (c 5 : Int), .int .i64 (c 6 : Int), .int .i64 (c 7 : Int), .int .i64 (c 8 : Int)]
theorem cntA_at (c : Int → Nat) (k : Nat) (hk : k ≤ 8) : (cntA c)[k]? = some (.int .i64 (c (k : Int) : Int)) := by
  have : k = 0 ∨ k = 1 ∨ k = 2 ∨ k = 3 ∨ k = 4 ∨ k = 5 ∨ k = 6 ∨ k = 7 ∨ k = 8 := by omega
  rcases this with rfl | rfl | rfl | rfl | rfl | rfl | rfl | rfl | rfl <;> rfl
theorem cntA_set (c : Int → Nat) (k : Nat) (hk : k ≤ 8) : (cntA c).setIfInBounds k (.int .i64 ((c (k : Int) : Int) + 1)) = cntA (bump c (k : Int)) := by
  have : k = 0 ∨ k = 1 ∨ k = 2 ∨ k = 3 ∨ k = 4 ∨ k = 5 ∨ k = 6 ∨ k = 7 ∨ k = 8 := by omega
  rcases this with rfl | rfl | rfl | rfl | rfl | rfl | rfl | rfl | rfl <;> simp [cntA, bump]
theorem cntA_one (c : Int → Nat) : (cntA c).all (·.oneCell') = true := by simp [cntA, Value.oneCell']
theorem idx_cnt0 {W : World} {p k : Nat} (hk : k < 9) : (Instr.indexAt 107 (.pointer (some ⟨p, 0, none⟩)) (.int .i64 (k : Int))).run Tryz.prog W = .ok (.pointer (some ⟨p, k, none⟩)) W := by
  have hsz : (Tryz.prog.info? 3).map (·.size) = some 1 := by kernel_rfl
  cases hq : Tryz.prog.info? 3 with
  | none => simp [hq] at hsz
  | some i =>
    simp only [hq, Option.map_some, Option.some.injEq] at hsz
    simp [Instr.indexAt, run_underlying Tryz.underlying107, Instr.sureAddr, asIntOf, sizeOf, typeInfo, hq, hsz, Addr.add, hk]
    try exact fun h => h.symm
theorem cut3 {P T : Nat → Nat → World → Prop} {G : Prop} (h1 : (∀ a b W, P a b W → T a b W) → G) (h2 : ∀ a b W, P a b W → T a b W) : G := h1 h2
structure HeSt (w W : World) (km pc : Nat) (S : HouV) (l : List NoteV) (xs : List LN) (q : Nat) (GK : Nm → Option LN) (fr : List NoteV) (c : Int → Nat) (fa : Option Addr) (fc : Nat) (ys : List LN) : Prop where
  bel : Below w.heap.size w W
  go : hearGo S.l [] S.c l = hearGo S.l fr c (l.drop q)
  nms : NmsOk (S.l ++ fr) c
  nd : ((S.l ++ fr).map nmOf).Nodup
  map : MapF LN.val W km (S.l.length + fr.length) GK
  gs : ∀ k x, GK k = some x → x.n ∈ S.l ++ fr ∧ x.nm = k
  ok : ∀ k x, GK k = some x → ∀ W', Below w.heap.size w W' → x.ok W'
  gl : ∀ n ∈ S.l ++ fr, ∃ x, GK (nmOf n) = some x ∧ x.n = n
  cnt : W.heap[pc]? = some (.cells (cntA c) 107 (0, 0))
  own : W.ownsRow w.heap.size 47 19 (.slice fa fr.length fc) fr.length (lnCells ys)
  eq : ys.map LN.n = fr
  mem : ∀ y ∈ ys, y ∈ xs
  km_ge : w.heap.size ≤ km
  pc_ge : w.heap.size ≤ pc
  fl : fr.length ≤ q
section
variable {w W W' : World} {km pc : Nat} {S : HouV} {l : List NoteV} {xs : List LN} {q : Nat} {GK : Nm → Option LN} {fr : List NoteV} {c : Int → Nat} {fa : Option Addr} {fc : Nat} {ys : List LN}
theorem HeSt.below (h : HeSt w W km pc S l xs q GK fr c fa fc ys) (hb : Below W.heap.size W W') : HeSt w W' km pc S l xs q GK fr c fa fc ys :=
  ⟨h.bel.trans (hb.mono h.bel.size), h.go, h.nms, h.nd, h.map.below hb, h.gs, h.ok, h.gl, below_blk hb h.cnt, own_below h.own hb, h.eq, h.mem, h.km_ge, h.pc_ge, h.fl⟩
theorem HeSt.known (h : HeSt w W km pc S l xs q GK fr c fa fc ys) {n : NoteV} {x : LN} (hx : GK (nmOf n) = some x) : knownBy (S.l ++ fr) n = some x.n := by
  obtain ⟨h1, h2⟩ := h.gs _ x hx
  cases hk : knownBy (S.l ++ fr) n with
  | none => exact absurd h2 (knownBy_none hk x.n h1)
  | some o =>
    obtain ⟨h3, h4⟩ := knownBy_some hk
    rw [nodup_inj h.nd h3 h1 (h4.trans h2.symm)]
theorem HeSt.unknown (h : HeSt w W km pc S l xs q GK fr c fa fc ys) {n : NoteV} (hx : GK (nmOf n) = none) : knownBy (S.l ++ fr) n = none :=
  knownBy_no fun y hy e => by
    obtain ⟨x, h1, _⟩ := h.gl y hy
    rw [e, hx] at h1
    cases h1
theorem HeSt.skip (h : HeSt w W km pc S l xs q GK fr c fa fc ys) {n : NoteV} (hn : l[q]? = some n) (hk : (∃ o, knownBy (S.l ++ fr) n = some o ∧ sameB o n = true) ∨ (knownBy (S.l ++ fr) n = none ∧ (c n.house : Int) + 1 < n.num)) : HeSt w W km pc S l xs (q + 1) GK fr c fa fc ys := by
  refine ⟨h.bel, ?_, h.nms, h.nd, h.map, h.gs, h.ok, h.gl, h.cnt, h.own, h.eq, h.mem, h.km_ge, h.pc_ge, Nat.le_succ_of_le h.fl⟩
  rw [h.go, drop_at hn, hearGo]
  rcases hk with ⟨o, h1, h2⟩ | ⟨h1, h2⟩
  · rw [h1]
    simp only
    rw [if_pos h2]
  · rw [h1]
    simp only
    rw [if_pos h2]
theorem HeSt.fork (h : HeSt w W km pc S l xs q GK fr c fa fc ys) {n o : NoteV} (hn : l[q]? = some n) (h1 : knownBy (S.l ++ fr) n = some o) (h2 : sameB o n = false) : hearGo S.l [] S.c l = none := by
  rw [h.go, drop_at hn, hearGo, h1]
  simp only
  rw [if_neg (by rw [h2]; decide)]
theorem HeSt.add {x : LN} {a' : Option Addr} {c' : Nat} (h : HeSt w W km pc S l xs q GK fr c fa fc ys) (hn : l[q]? = some x.n) (hx : x ∈ xs) (h1 : knownBy (S.l ++ fr) x.n = none) (h2 : ¬ (c x.n.house : Int) + 1 < x.n.num) (hnum : 1 ≤ x.n.num) (hok : ∀ W', Below w.heap.size w W' → x.ok W')
    (hbel : Below w.heap.size w W') (hm : MapF LN.val W' km (S.l.length + fr.length + 1) (updF GK (nmOf x.n) x)) (hc : W'.heap[pc]? = some (.cells (cntA (bump c x.n.house)) 107 (0, 0)))
    (ho : W'.ownsRow w.heap.size 47 19 (.slice a' (fr.length + 1) c') (fr.length + 1) (lnCells ys ++ x.n.cells x.sa x.sc)) : HeSt w W' km pc S l xs (q + 1) (updF GK (nmOf x.n) x) (fr ++ [x.n]) (bump c x.n.house) a' c' (ys ++ [x]) := by
  have hfree := knownBy_none h1
  have hlt := h.nms.free hnum hfree
  refine ⟨hbel, ?_, ?_, ?_, ?_, fun k y hy => ?_, fun k y hy => ?_, fun y hy => ?_, hc, ?_, ?_, fun y hy => ?_, h.km_ge, h.pc_ge, ?_⟩
  · rw [h.go, drop_at hn, hearGo, h1]
    simp only
    rw [if_neg h2]
  · rw [← List.append_assoc]
    exact h.nms.add (by omega)
  · rw [← List.append_assoc, List.map_append]
    refine List.nodup_append.2 ⟨h.nd, by simp, fun a ha b hb e => ?_⟩
    rw [List.map_singleton, List.mem_singleton] at hb
    obtain ⟨y, hy, rfl⟩ := List.mem_map.1 ha
    exact hfree y hy (e.trans hb)
  · rw [List.length_append, List.length_singleton, ← Nat.add_assoc]
    exact hm
  · rw [← List.append_assoc]
    unfold updF at hy
    split at hy
    · rename_i e
      cases hy
      exact ⟨List.mem_append_right _ (by simp), e.symm⟩
    · obtain ⟨h3, h4⟩ := h.gs k y hy
      exact ⟨List.mem_append_left _ h3, h4⟩
  · unfold updF at hy
    split at hy
    · cases hy; exact hok
    · exact h.ok k y hy
  · rw [← List.append_assoc] at hy
    rcases List.mem_append.1 hy with hy | hy
    · obtain ⟨z, h3, h4⟩ := h.gl y hy
      refine ⟨z, ?_, h4⟩
      unfold updF
      rw [if_neg (hfree y hy)]
      exact h3
    · rw [List.mem_singleton.1 hy]
      exact ⟨x, by unfold updF; rw [if_pos rfl], rfl⟩
  · rw [lnCells_snoc, List.length_append, List.length_singleton]
    exact ho
  · rw [List.map_append, h.eq]; rfl
  · rcases List.mem_append.1 hy with hy | hy
    · exact h.mem y hy
    · rw [List.mem_singleton.1 hy]; exact hx
  · rw [List.length_append, List.length_singleton]
    have := h.fl
    omega
end
def HearRet (w : World) (p mb sp : Nat) (G : Nm → Option LN) (SF : Nat → Prop) (S : HouV) (l : List NoteV) (e : Ending) (W : World) : Prop :=
  e = .returned (.tuple #[.int .i64 (hearP S l).2.1, .int .i64 (hearP S l).2.2]) ∧ ∃ G' SF', HouAt W p mb sp G' SF' (hearP S l).1 ∧ Same (houF p mb G SF) w W ∧ ∀ k, houF p mb G' SF' k → houF p mb G SF k ∨ w.heap.size ≤ k

section
attribute [local go_sem] noteA_0 noteA_1
set_option maxHeartbeats 32000000 in
set_option maxRecDepth 100000 in
theorem hhear_any (p mb sp : Nat) (G : Nm → Option LN) (SF : Nat → Prop) (S : HouV) (a : Option Addr) (nn nc : Nat) (l : List NoteV) (xs : List LN) (w : World) (hh : HouAt w p mb sp G SF S) (hi : HInv S) (hxs : xs.map LN.n = l)
    (hr : ∀ W, Same (houF p mb G SF) w W → RdLs W a nn nc xs) (hok : ∀ x ∈ l, x.Ok) (hlen : S.l.length + nn ≤ 400) :
    Calls Tryz.prog 13 #[.pointer (some ⟨p, 0, none⟩), .slice a nn nc] w fun e w' => HearRet w p mb sp G SF S l e w' := by
  have I43 := Lib.hid (show ∀ (m : NoteV) (a : Option Addr) (c : Nat), (Tryz.prog.info? 47).map (·.size) = some (noteA m a c).size from fun m a c => by kernel_rfl)
  have J19 : (Tryz.prog.info? 47).map (·.size) = some 19 := by kernel_rfl
  have hmf : ∀ (fn : Fn) (first cap : Array Value) (w : World), (Instr.makeFunc fn first cap).run Tryz.prog w = .ok (.func fn first cap) w := fun _ _ _ _ => rfl
  have HH := Lib.hid hh
  have HI := Lib.hid hi
  have HXS := Lib.hid hxs
  have HR := Lib.hid hr
  have RL := Lib.hid (hr w (Same.of_below (Below.refl _ _)))
  have LNX : Hid (xs.length = nn) := Lib.hid (hr w (Same.of_below (Below.refl _ _))).1
  have HLN : Hid (l.length = nn) := Lib.hid (by rw [← hxs, List.length_map]; exact (hr w (Same.of_below (Below.refl _ _))).1)
  have LOK := Lib.hid (show ∀ W, Below w.heap.size w W → ∀ x ∈ xs, x.ok W from fun W hb x hx => (ls_ok (hr w (Same.of_below (Below.refl _ _))) hx).below hb)
  have HOK := Lib.hid hok
  have HLEN := Lib.hid hlen
  have hn4 : (nn : Int) ≤ 9223372036854775807 := by omega
  have B0 := Lib.hid ((Below.refl w.heap.size w).alloc (Nat.le_refl _) (.cells #[.pointer (some ⟨p, 0, none⟩)] 27))
  have P0 := Lib.hid (heap_last w (.cells #[.pointer (some ⟨p, 0, none⟩)] 27))
  have H0 := Lib.hid (hh.below B0.out)
  clear hh hi hxs hr hok hlen
  go_enter Tryz.func13, Tryz.ntmps13
  go_upto_region 1 with fail
  obtain ⟨pB, hpB⟩ : ∃ q, Hid (w.heap.size = q) := ⟨_, Lib.hid rfl⟩
  rw [hpB.out] at P0
  rw [hpB.out]
  generalize w.alloc (.cells #[.pointer (some ⟨p, 0, none⟩)] 27) = w0 at *
  have cB := cell_of P0.out 0 (.pointer (some ⟨p, 0, none⟩)) rfl
  go_wp2_with fail
  refine (made_any w0 p mb sp S.f S.id S.c H0.out.blk).mono ?_
  rintro e w1 ⟨rfl, rfl⟩
  go_wp2_with fail
  refine (containsL_any xs (fun x => !decide (checkN S.f x.n = 0)) 55 (.pointer (some ⟨pB, 0, none⟩)) hear1_fn a nn nc w1 (RL.out.below B0.out) (fun x hx W hb => hear1_any S.f S.id mb sp p pB S.c x.n x.sa x.sc W (below_blk hb P0.out) (below_blk hb H0.out.blk) (LOK.out W (B0.out.trans (hb.mono B0.out.size)) x hx))).mono ?_
  rintro e w2 ⟨rfl, b2⟩
  have B2 := Lib.hid (B0.out.trans (b2.mono B0.out.size))
  have P2 := Lib.hid (below_blk b2 P0.out)
  have H2 := Lib.hid (HH.out.below B2.out)
  have ANY : Hid ((xs.any fun x => !decide (checkN S.f x.n = 0)) = l.any (fun n => !decide (checkN S.f n = 0))) := Lib.hid (by rw [← HXS.out, List.any_map]; rfl)
  rw [ANY.out]
  clear b2 cB B0 P0 H0 hmf
  have UNCH := Lib.hid (show ∀ W, Below w.heap.size w W → ∃ G' SF', HouAt W p mb sp G' SF' S ∧ Same (houF p mb G SF) w W ∧ ∀ k, houF p mb G' SF' k → houF p mb G SF k ∨ w.heap.size ≤ k from fun W hb => ⟨G, SF, HH.out.below hb, Same.of_below hb, fun k hk => .inl hk⟩)
  have RL2 := Lib.hid (RL.out.below B2.out)
  have LOK2 := Lib.hid (show ∀ W, Below w2.heap.size w2 W → ∀ x ∈ xs, x.ok W from fun W hb => LOK.out W (B2.out.trans (hb.mono B2.out.size)))
  have UNCH2 := Lib.hid (show ∀ W, Below w2.heap.size w2 W → ∃ G' SF', HouAt W p mb sp G' SF' S ∧ Same (houF p mb G SF) w W ∧ ∀ k, houF p mb G' SF' k → houF p mb G SF k ∨ w.heap.size ≤ k from fun W hb => UNCH.out W (B2.out.trans (hb.mono B2.out.size)))
  cases hbad : l.any (fun n => !decide (checkN S.f n = 0))
  case true =>
    have HE := Lib.hid (hearP_bad hbad)
    clear hbad
    go_wp2_with fail
    go_returns
    exact ⟨by rw [HE.out] <;> rfl, by rw [HE.out]; exact UNCH.out _ B2.out⟩
  have GOOD := Lib.hid hbad
  have FRM := Lib.hid (check_formed HI.out.v hbad)
  clear hbad
  go_upto_region 5 with fail
  apply cut3 (P := fun km pc W => Hid (Below w2.heap.size w2 W ∧ MapF LN.val W km S.l.length G ∧ W.heap[pc]? = some (.cells (cntA S.c) 107 (0, 0)) ∧ w2.heap.size ≤ km ∧ w2.heap.size ≤ pc))
  · intro REST
    refine wp_region_noPanic ?_
    refine wp_region_held_drew (S := fun w' => Below w2.heap.size w2 w') (by kernel_rfl) (show Below w2.heap.size w2 w2.drew from (Below.refl _ _).drew) (fun hHeld => ?_)
    have HB0 := Lib.hid (show Below w2.heap.size w2 w2.drew from (Below.refl _ _).drew)
    generalize w2.drew = V0 at *
    refine wpAnyH_take (i := 0) (v := .pointer (some ⟨p, 0, none⟩)) rfl (by kernel_rfl) (by kernel_rfl) (by kernel_rfl) (fun _ _ _ h => h) (Or.inl ⟨by kernel_rfl, by intro W h; have hc := cell_of (below_blk h P2.out) 0 (.pointer (some ⟨p, 0, none⟩)) rfl; go_simp⟩) (by assumption) ?_
    try simp only [Act.put, lq0, lq1, lq2, lq3, lq4, lq5]
    refine wpAnyH_take (i := 1) (v := .pointer (some ⟨p, 0, none⟩)) rfl (by kernel_rfl) (by kernel_rfl) (by kernel_rfl) (fun _ _ _ h => h) (Or.inl ⟨by kernel_rfl, by intro W _; go_simp⟩) (by assumption) ?_
    try simp only [Act.put, lq0, lq1, lq2, lq3, lq4, lq5]
    refine wpAnyH_take (i := 2) (v := .pointer (some ⟨p, 4, none⟩)) rfl (by kernel_rfl) (by kernel_rfl) (by kernel_rfl) (fun _ _ _ h => h) (Or.inl ⟨by kernel_rfl, by intro W _; go_simp⟩) (by assumption) ?_
    try simp only [Act.put, lq0, lq1, lq2, lq3, lq4, lq5]
    refine wpAnyH_take (i := 3) (v := .map (some mb)) rfl (by kernel_rfl) (by kernel_rfl) (by kernel_rfl) (fun _ _ _ h => h) (Or.inl ⟨by kernel_rfl, by intro W h; have hc := cell_of (below_blk h H2.out.blk) 4 (.map (some mb)) rfl; go_simp⟩) (by assumption) ?_
    try simp only [Act.put, lq0, lq1, lq2, lq3, lq4, lq5]
    refine wpAnyH_take (i := 5) (v := .pointer (some ⟨p, 0, none⟩)) rfl (by kernel_rfl) (by kernel_rfl) (by kernel_rfl) (fun _ _ _ h => h) (Or.inl ⟨by kernel_rfl, by intro W h; have hc := cell_of (below_blk h P2.out) 0 (.pointer (some ⟨p, 0, none⟩)) rfl; go_simp⟩) (by assumption) ?_
    try simp only [Act.put, lq0, lq1, lq2, lq3, lq4, lq5]
    refine wpAnyH_take (i := 6) (v := .pointer (some ⟨p, 0, none⟩)) rfl (by kernel_rfl) (by kernel_rfl) (by kernel_rfl) (fun _ _ _ h => h) (Or.inl ⟨by kernel_rfl, by intro W _; go_simp⟩) (by assumption) ?_
    try simp only [Act.put, lq0, lq1, lq2, lq3, lq4, lq5]
    refine wpAnyH_take (i := 7) (v := .pointer (some ⟨p, 5, none⟩)) rfl (by kernel_rfl) (by kernel_rfl) (by kernel_rfl) (fun _ _ _ h => h) (Or.inl ⟨by kernel_rfl, by intro W _; go_simp⟩) (by assumption) ?_
    try simp only [Act.put, lq0, lq1, lq2, lq3, lq4, lq5]
    refine wpAnyH_take (i := 8) (v := .agg (cntA S.c)) rfl (by kernel_rfl) (by kernel_rfl) (by kernel_rfl) (fun _ _ _ h => h) (yields_mid2 (by kernel_rfl) 107 _ rfl p 5 rfl [.int .i64 (S.c 0 : Int), .int .i64 (S.c 1 : Int), .int .i64 (S.c 2 : Int), .int .i64 (S.c 3 : Int), .int .i64 (S.c 4 : Int), .int .i64 (S.c 5 : Int), .int .i64 (S.c 6 : Int), .int .i64 (S.c 7 : Int), .int .i64 (S.c 8 : Int)] _ (fun W h => hou_cnts (below_blk h H2.out.blk)) Tryz.underlying107 rfl (by kernel_rfl)) (by assumption) ?_
    try simp only [Act.put, lq0, lq1, lq2, lq3, lq4, lq5]
    refine wpAnyH_ready (rs := [4, 9]) (by kernel_rfl) (by simp) ?_
    refine AllReadyH.cons rfl (fun K hK => ?_) ?_
    · go_simp
      go_at_call 57
      refine (mapsClone_any mb S.l.length G V0 (H2.out.map.below HB0.out)).mono ?_
      rintro e V1 ⟨rfl, hm, b1⟩
      have KGE : Hid (w2.heap.size ≤ V0.heap.size) := Lib.hid HB0.out.size
      obtain ⟨km, hkm⟩ : ∃ z, Hid (V0.heap.size = z) := ⟨_, Lib.hid rfl⟩
      have HB1 := Lib.hid (HB0.out.trans (b1.mono HB0.out.size))
      clear b1
      rw [hkm.out] at hm KGE
      rw [hkm.out]
      have HM1 := Lib.hid hm
      clear hm
      dsimp only
      refine hK.out _ _ HB1.out (fun hHeld => ?_)
      clear hK K
      try simp only [Act.put, lq0, lq1, lq2, lq3, lq4, lq5]
      refine wpAnyH_ready (rs := [9]) (by kernel_rfl) (by simp) ?_
      refine AllReadyH.cons rfl (fun K hK => ?_) AllReadyH.nil
      have bz : Below V1.heap.size V1 (V1.alloc (.cells #[.int .i64 0, .int .i64 0, .int .i64 0, .int .i64 0, .int .i64 0, .int .i64 0, .int .i64 0, .int .i64 0, .int .i64 0] 107)) := (Below.refl _ _).alloc (Nat.le_refl _) _
      have HB2 := Lib.hid (HB1.out.trans (bz.mono HB1.out.size))
      have HP2 := Lib.hid (heap_last V1 (.cells #[.int .i64 0, .int .i64 0, .int .i64 0, .int .i64 0, .int .i64 0, .int .i64 0, .int .i64 0, .int .i64 0, .int .i64 0] 107))
      have CGE : Hid (w2.heap.size ≤ V1.heap.size) := Lib.hid HB1.out.size
      have HM2 := Lib.hid (HM1.out.below bz)
      clear bz
      go_simp
      obtain ⟨pc, hpc⟩ : ∃ z, Hid (V1.heap.size = z) := ⟨_, Lib.hid rfl⟩
      rw [hpc.out] at HP2 CGE
      rw [hpc.out]
      generalize V1.alloc (.cells #[.int .i64 0, .int .i64 0, .int .i64 0, .int .i64 0, .int .i64 0, .int .i64 0, .int .i64 0, .int .i64 0, .int .i64 0] 107) = V2 at *
      refine hK.out _ _ HB2.out (fun hHeld => ?_)
      clear hK K
      try simp only [Act.put, lq0, lq1, lq2, lq3, lq4, lq5]
      refine wpAnyH_take (i := 10) (v := .map (some km)) rfl (by kernel_rfl) (by kernel_rfl) (by kernel_rfl) (fun _ _ _ h => h) (Or.inl ⟨by kernel_rfl, by intro W _; go_simp⟩) (by assumption) ?_
      try simp only [Act.put, lq0, lq1, lq2, lq3, lq4, lq5]
      refine wpAnyH_ready (rs := [11]) (by kernel_rfl) (by simp) ?_
      refine AllReadyH.cons rfl (fun K hK => ?_) AllReadyH.nil
      rw [if_pos (by kernel_rfl)]
      refine oper_store_blk 107 _ _ rfl pc #[.int .i64 0, .int .i64 0, .int .i64 0, .int .i64 0, .int .i64 0, .int .i64 0, .int .i64 0, .int .i64 0, .int .i64 0] (cntA S.c) 107 rfl rfl HP2.out (by kernel_rfl) rfl (cntA_one _) ?_
      intro V3 h8 hg8 hs8
      have KPC : Hid (km ≠ pc) := Lib.hid (fun e => by
        obtain ⟨es, cl, h9⟩ := HM2.out.blk
        rw [e, HP2.out] at h9
        cases h9)
      have HB3 := Lib.hid (HB2.out.grown hg8 HB2.out.size (fun q hq => by cases hq; exact CGE.out))
      have HM3 := Lib.hid (HM2.out.kept hg8 (fun e => absurd (Option.some.inj e) KPC.out))
      have HP3 := Lib.hid h8
      clear h8 hg8 hs8
      simp only [Act.put, lq0, lq1, lq2]
      refine hK.out _ _ HB3.out (fun hHeld => ?_)
      clear hK K
      try simp only [Act.put, lq0, lq1, lq2, lq3, lq4, lq5]
      refine wpAnyH_done (by kernel_rfl) ?_ _
      refine NoPanic.normal ?_
      exact REST km pc V3 (Lib.hid ⟨HB3.out, HM3.out, HP3.out, KGE.out, CGE.out⟩)
    refine AllReadyH.cons rfl (fun K hK => ?_) AllReadyH.nil
    have bz : Below V0.heap.size V0 (V0.alloc (.cells #[.int .i64 0, .int .i64 0, .int .i64 0, .int .i64 0, .int .i64 0, .int .i64 0, .int .i64 0, .int .i64 0, .int .i64 0] 107)) := (Below.refl _ _).alloc (Nat.le_refl _) _
    have HB1 := Lib.hid (HB0.out.trans (bz.mono HB0.out.size))
    have HP1 := Lib.hid (heap_last V0 (.cells #[.int .i64 0, .int .i64 0, .int .i64 0, .int .i64 0, .int .i64 0, .int .i64 0, .int .i64 0, .int .i64 0, .int .i64 0] 107))
    have CGE : Hid (w2.heap.size ≤ V0.heap.size) := Lib.hid HB0.out.size
    clear bz
    go_simp
    obtain ⟨pc, hpc⟩ : ∃ z, Hid (V0.heap.size = z) := ⟨_, Lib.hid rfl⟩
    rw [hpc.out] at HP1 CGE
    rw [hpc.out]
    generalize V0.alloc (.cells #[.int .i64 0, .int .i64 0, .int .i64 0, .int .i64 0, .int .i64 0, .int .i64 0, .int .i64 0, .int .i64 0, .int .i64 0] 107) = V1 at *
    refine hK.out _ _ HB1.out (fun hHeld => ?_)
    clear hK K
    try simp only [Act.put, lq0, lq1, lq2, lq3, lq4, lq5]
    refine wpAnyH_ready (rs := [4]) (by kernel_rfl) (by simp) ?_
    refine AllReadyH.cons rfl (fun K hK => ?_) AllReadyH.nil
    go_simp
    go_at_call 57
    refine (mapsClone_any mb S.l.length G V1 (H2.out.map.below HB1.out)).mono ?_
    rintro e V2 ⟨rfl, hm, b1⟩
    have KGE : Hid (w2.heap.size ≤ V1.heap.size) := Lib.hid HB1.out.size
    obtain ⟨km, hkm⟩ : ∃ z, Hid (V1.heap.size = z) := ⟨_, Lib.hid rfl⟩
    have HB2 := Lib.hid (HB1.out.trans (b1.mono HB1.out.size))
    have HP2 := Lib.hid (below_blk b1 HP1.out)
    clear b1
    rw [hkm.out] at hm KGE
    rw [hkm.out]
    have HM2 := Lib.hid hm
    clear hm
    dsimp only
    refine hK.out _ _ HB2.out (fun hHeld => ?_)
    clear hK K
    try simp only [Act.put, lq0, lq1, lq2, lq3, lq4, lq5]
    refine wpAnyH_take (i := 10) (v := .map (some km)) rfl (by kernel_rfl) (by kernel_rfl) (by kernel_rfl) (fun _ _ _ h => h) (Or.inl ⟨by kernel_rfl, by intro W _; go_simp⟩) (by assumption) ?_
    try simp only [Act.put, lq0, lq1, lq2, lq3, lq4, lq5]
    refine wpAnyH_ready (rs := [11]) (by kernel_rfl) (by simp) ?_
    refine AllReadyH.cons rfl (fun K hK => ?_) AllReadyH.nil
    rw [if_pos (by kernel_rfl)]
    refine oper_store_blk 107 _ _ rfl pc #[.int .i64 0, .int .i64 0, .int .i64 0, .int .i64 0, .int .i64 0, .int .i64 0, .int .i64 0, .int .i64 0, .int .i64 0] (cntA S.c) 107 rfl rfl HP2.out (by kernel_rfl) rfl (cntA_one _) ?_
    intro V3 h8 hg8 hs8
    have KPC : Hid (km ≠ pc) := Lib.hid (fun e => by
      obtain ⟨es, cl, h9⟩ := HM2.out.blk
      rw [e, HP2.out] at h9
      cases h9)
    have HB3 := Lib.hid (HB2.out.grown hg8 HB2.out.size (fun q hq => by cases hq; exact CGE.out))
    have HM3 := Lib.hid (HM2.out.kept hg8 (fun e => absurd (Option.some.inj e) KPC.out))
    have HP3 := Lib.hid h8
    clear h8 hg8 hs8
    simp only [Act.put, lq0, lq1, lq2]
    refine hK.out _ _ HB3.out (fun hHeld => ?_)
    clear hK K
    try simp only [Act.put, lq0, lq1, lq2, lq3, lq4, lq5]
    refine wpAnyH_done (by kernel_rfl) ?_ _
    refine NoPanic.normal ?_
    exact REST km pc V3 (Lib.hid ⟨HB3.out, HM3.out, HP3.out, KGE.out, CGE.out⟩)
  intro km pc W5 QQ
  have HS0 : Hid (HeSt w2 W5 km pc S l xs 0 G [] S.c none 0 []) := Lib.hid ⟨QQ.out.1, by rw [List.drop_zero], by rw [List.append_nil]; exact HI.out.nms, by rw [List.append_nil]; exact set_nodup HI.out.srt, QQ.out.2.1, by rw [List.append_nil]; exact HH.out.gs,
    fun k x hx W' hb => LN.ok.below (x := x) (RdA.of_own (H2.out.str k x hx)) hb, by rw [List.append_nil]; exact HH.out.gl, QQ.out.2.2.1, World.ownsRow_nil _ _ _ _, rfl, (fun y hy => by cases hy), QQ.out.2.2.2.1, QQ.out.2.2.2.2, Nat.le_refl _⟩
  clear QQ
  go_wp2_with fail
  go_loopw [8, 32] (fun fv iv wr => ∃ (q : Nat) (GK : Nm → Option LN) (fr : List NoteV) (c : Int → Nat) (fa : Option Addr) (fc : Nat) (ys : List LN), fv = .slice fa fr.length fc ∧ iv = .int .i64 (q : Int) ∧ q ≤ nn ∧ Hid (HeSt w2 wr km pc S l xs q GK fr c fa fc ys)) (fun _ iv _ => nn - (intOf iv).toNat)
  case atStart => exact ⟨0, G, [], S.c, none, 0, [], rfl, rfl, Nat.zero_le _, HS0⟩
  case round =>
    clear HS0
    obtain ⟨q, GK, fr, c, fa, fc, ys, rfl, rfl, hq, HS⟩ := hrel
    by_cases hlt : q < nn
    · have t0 : decide ((q : Int) < (nn : Int)) = true := by simp; omega
      obtain ⟨x, Hx⟩ : ∃ x, xs[q]? = some x := ⟨_, List.getElem?_eq_getElem (by rw [LNX.out]; exact hlt)⟩
      have HLX := Lib.hid (show l[q]? = some x.n by rw [← HXS.out, List.getElem?_map, Hx]; rfl)
      have XM := Lib.hid (List.mem_of_getElem? Hx)
      have XF := Lib.hid (FRM.out x.n (List.mem_of_getElem? HLX.out))
      have XO := Lib.hid (HOK.out x.n (List.mem_of_getElem? HLX.out))
      have NOK : Hid (nmOk (x.n.house, x.n.num)) := Lib.hid ⟨XO.out.house, XO.out.num⟩
      obtain ⟨b, off, rfl, hat⟩ := (RL2.out.below HS.out.bel).at (by omega)
      obtain ⟨o, ho⟩ : ∃ o, Hid (off + q * 19 = o) := ⟨_, Lib.hid rfl⟩
      have HX := Lib.hid (hat q x Hx).1
      rw [ho.out] at HX
      have hix := fun W => idx_off (W := W) (c := nc) (b := b) Tryz.underlying24 J19 hlt ho.out
      have HK64 : Hid ((q : Int) + 1 ≤ 9223372036854775807) := Lib.hid (by have := HLEN.out; omega)
      clear hat Hx
      go_upto_region 10 with (first
        | (refine wpList_load_mid rfl 47 _ rfl b o rfl (x.n.cells x.sa x.sc) _ HX.out Tryz.underlying47 rfl (size43 x.n x.sa x.sc) ?_)
        | (refine wpList_store_newp wr rfl 47 _ _ rfl wr.heap.size rfl _ (noteA x.n x.sa x.sc) rfl rfl (I43.out _ _ _) rfl (noteA_one x.n x.sa x.sc) ?_))
      clear hix t0
      have bt : Below wr.heap.size wr (wr.alloc (.cells (noteA x.n x.sa x.sc) 47)) := (Below.refl _ _).alloc (Nat.le_refl _) _
      have HT := Lib.hid (HS.out.below bt)
      have N10 := Lib.hid (heap_last wr (.cells (noteA x.n x.sa x.sc) 47))
      have GE10 : Hid (w2.heap.size ≤ wr.heap.size) := Lib.hid HS.out.bel.size
      have KM10 : Hid (km < wr.heap.size ∧ pc < wr.heap.size) := Lib.hid ⟨HS.out.map.lt, blk_lt HS.out.cnt⟩
      obtain ⟨p10, hp10⟩ : ∃ z, Hid (wr.heap.size = z) := ⟨_, Lib.hid rfl⟩
      rw [hp10.out] at N10 GE10 KM10
      rw [hp10.out]
      generalize wr.alloc (.cells (noteA x.n x.sa x.sc) 47) = wt at *
      clear bt HS HX
      go_wp2_with (first
        | (refine wpList_load_row rfl 47 _ rfl p10 rfl 47 (noteA x.n x.sa x.sc) (0, 0) _ N10.out Tryz.underlying47 rfl (I43.out _ _ _) ?_))
      refine (nameOf2_any x.n x.sa x.sc wt).mono ?_
      rintro e w6 ⟨rfl, b6⟩
      have HT6 := Lib.hid (HT.out.below b6)
      have N6 := Lib.hid (below_blk b6 N10.out)
      clear b6 HT N10
      cases hgk : GK (x.n.house, x.n.num) with
      | some y =>
        have hget : (Instr.lookup 106 (.map (some km)) (.agg #[.int .i64 x.n.house, .int .i64 x.n.num]) true).run Tryz.prog w6 = .ok (.tuple #[.agg (noteA y.n y.sa y.sc), .bool true]) w6 := by
          have := run_get_nm (t := 106) HT6.out.map Tryz.underlying106 (zero_note w6) x.n.house x.n.num NOK.out
          rw [hgk] at this; exact this
        have KB := Lib.hid (HT6.out.known (n := x.n) hgk)
        have YM := Lib.hid (HT6.out.gs _ y hgk).1
        have YK := Lib.hid (HT6.out.ok _ y hgk)
        have YF : Hid (formedB S.f y.n = true) := Lib.hid (by
          rcases List.mem_append.1 YM.out with h | h
          · exact HI.out.frm _ h
          · rw [← HT6.out.eq] at h
            obtain ⟨z, hz, hz2⟩ := List.mem_map.1 h
            rw [← hz2]
            exact FRM.out _ (by rw [← HXS.out]; exact List.mem_map_of_mem (HT6.out.mem z hz)))
        clear hgk
        go_upto_region 14 with (first
          | (refine wpList_store_newp w6 rfl 47 _ _ rfl w6.heap.size rfl _ (noteA y.n y.sa y.sc) rfl rfl (I43.out _ _ _) rfl (noteA_one y.n y.sa y.sc) ?_))
        have bt : Below w6.heap.size w6 (w6.alloc (.cells (noteA y.n y.sa y.sc) 47)) := (Below.refl _ _).alloc (Nat.le_refl _) _
        have HT7 := Lib.hid (HT6.out.below bt)
        have N7 := Lib.hid (below_blk bt N6.out)
        have M7 := Lib.hid (heap_last w6 (.cells (noteA y.n y.sa y.sc) 47))
        obtain ⟨p11, hp11⟩ : ∃ z, Hid (w6.heap.size = z) := ⟨_, Lib.hid rfl⟩
        rw [hp11.out] at M7
        rw [hp11.out]
        generalize w6.alloc (.cells (noteA y.n y.sa y.sc) 47) = w7 at *
        clear bt hget HT6 N6
        go_wp2_with (first
          | (refine wpList_load_rowG ?hw 47 _ rfl p11 rfl 47 (noteA y.n y.sa y.sc) (0, 0) _ M7.out Tryz.underlying47 rfl (I43.out _ _ _) ?_; case hw => kernel_rfl)
          | (refine wpList_load_rowG ?hw 47 _ rfl p10 rfl 47 (noteA x.n x.sa x.sc) (0, 0) _ N7.out Tryz.underlying47 rfl (I43.out _ _ _) ?_; case hw => kernel_rfl))
        refine (same2_any S.f HI.out.v y.n x.n y.sa y.sc x.sa x.sc w7 (YK.out w7 HT7.out.bel) (LOK2.out w7 HT7.out.bel x XM.out) YF.out XF.out).mono ?_
        rintro e w8 ⟨rfl, b8⟩
        have HT8 := Lib.hid (HT7.out.below b8)
        have N8 := Lib.hid (below_blk b8 N7.out)
        clear b8 HT7 N7 M7
        cases hsame : sameB y.n x.n
        case false =>
          have HG := Lib.hid (HT8.out.fork HLX.out KB.out hsame)
          have HE := Lib.hid (hearP_fork GOOD.out HG.out)
          clear hsame
          go_wp2_with fail
          go_returns
          exact ⟨by rw [HE.out] <;> rfl, by rw [HE.out]; exact UNCH2.out _ HT8.out.bel⟩
        case true =>
          have HN := Lib.hid (HT8.out.skip HLX.out (.inl ⟨_, KB.out, hsame⟩))
          clear hsame HT8
          go_upto_region 16 with fail
          have hC0 : Below w8.heap.size w8 w8.drew := (Below.refl _ _).drew
          try simp only [Act.put, lq3, lq4, lq5]
          refine wp_region_quiet (C := fun w' : World => Below w8.heap.size w8 w') (by kernel_rfl) (by kernel_rfl) hC0 ?_
          show wpQuiet _ _ _ _ (_ :: _) _
          go_big_quiet_want
          go_big_quiet_op
          go_big_quiet_on
          go_big_quiet_want
          go_big_quiet_op
          go_big_quiet_on
          go_big_quiet_skip
          go_big_quiet_skip
          go_big_quiet_skip
          go_big_quiet_skip
          go_big_quiet_skip
          go_big_quiet_skip
          go_big_quiet_skip
          go_big_quiet_skip
          go_big_quiet_want
          refine ⟨.bool true, fun w0 hC => ?_, ?_⟩
          · clear hC
            go_simp
          simp only [Act.put, lq3, lq4, lq5]
          go_big_quiet_on
          go_big_quiet_want
          go_big_quiet_op
          go_big_quiet_on
          refine wpQuiet_nil ?_
          intro w' hC
          have HN2 := Lib.hid (HN.out.below hC)
          clear hC HN
          have hk64 := HK64.out
          go_wp2_with fail
          go_roundw
          case rel => exact ⟨q + 1, GK, fr, c, fa, fc, ys, by go_num, by go_num, by omega, HN2⟩
          case measure => simp [intOf]; omega
      | none =>
        have hget : (Instr.lookup 106 (.map (some km)) (.agg #[.int .i64 x.n.house, .int .i64 x.n.num]) true).run Tryz.prog w6 = .ok (.tuple #[.agg (noteA zeroN none 0), .bool false]) w6 := by
          have := run_get_nm (t := 106) HT6.out.map Tryz.underlying106 (zero_note w6) x.n.house x.n.num NOK.out
          rw [hgk] at this; exact this
        have KB := Lib.hid (HT6.out.unknown (n := x.n) hgk)
        clear hgk
        go_upto_region 14 with (first
          | (refine wpList_store_newp w6 rfl 47 _ _ rfl w6.heap.size rfl _ (noteA zeroN none 0) rfl rfl (I43.out _ _ _) rfl (noteA_one zeroN none 0) ?_))
        have bt : Below w6.heap.size w6 (w6.alloc (.cells (noteA zeroN none 0) 47)) := (Below.refl _ _).alloc (Nat.le_refl _) _
        have HT7 := Lib.hid (HT6.out.below bt)
        have N7 := Lib.hid (below_blk bt N6.out)
        generalize w6.alloc (.cells (noteA zeroN none 0) 47) = w7 at *
        clear bt hget HT6 N6
        obtain ⟨k, hk, hk8⟩ : ∃ k : Nat, x.n.house = (k : Int) ∧ k ≤ 8 := ⟨x.n.house.toNat, by have := formed_house XF.out; omega, by have := formed_house XF.out; omega⟩
        have HK := Lib.hid hk
        have HK8 := Lib.hid hk8
        have XP := Lib.hid (show 1 ≤ x.n.num from (formed_house XF.out).2.2)
        have CB : Hid ((c (k : Int) : Int) + 1 ≤ 9223372036854775807) := Lib.hid (by
          have hl := HT7.out.nms.free XP.out (knownBy_none KB.out)
          have h1 := XO.out.num
          rw [hk] at hl
          unfold I64 at h1
          omega)
        have WR : Hid (IntKind.i64.wrap ((c (k : Int) : Int) + 1) = (c (k : Int) : Int) + 1) := Lib.hid (by have h9 := CB.out; rw [IntKind.wrap_i64]; omega)
        clear hk hk8
        go_upto_region 16 with fail
        have hC0 : Below w7.heap.size w7 w7.drew := (Below.refl _ _).drew
        have LN10 := Lib.hid (show ∀ w0, Below w7.heap.size w7 w0 → w0.heap[p10]? = some (.cells (noteA x.n x.sa x.sc) 47 (0, 0)) from fun w0 h => below_blk h N7.out)
        have LC := Lib.hid (show ∀ w0, Below w7.heap.size w7 w0 → w0.heap[pc]? = some (.cells (cntA c) 107 (0, 0)) from fun w0 h => below_blk h HT7.out.cnt)
        try simp only [Act.put, lq3, lq4, lq5]
        refine wp_region_quiet (C := fun w' : World => Below w7.heap.size w7 w') (by kernel_rfl) (by kernel_rfl) hC0 ?_
        show wpQuiet _ _ _ _ (_ :: _) _
        go_big_quiet_want
        go_big_quiet_op
        go_big_quiet_on
        go_big_quiet_want
        go_big_quiet_op
        go_big_quiet_on
        go_big_quiet_want
        refine ⟨.pointer (some ⟨p10, 1, none⟩), fun w0 hC => ?_, ?_⟩
        · clear hC
          go_simp
        simp only [Act.put, lq3, lq4, lq5]
        go_big_quiet_on
        go_big_quiet_want
        refine ⟨.int .i64 x.n.num, fun w0 hC => ?_, ?_⟩
        · have c1 := cell_of (LN10.out w0 hC) 1 (.int .i64 x.n.num) rfl
          clear hC
          go_simp
        simp only [Act.put, lq3, lq4, lq5]
        go_big_quiet_on
        go_big_quiet_want
        refine ⟨.pointer (some ⟨p10, 0, none⟩), fun w0 hC => ?_, ?_⟩
        · clear hC
          go_simp
        simp only [Act.put, lq3, lq4, lq5]
        go_big_quiet_on
        go_big_quiet_want
        refine ⟨.int .i64 (k : Int), fun w0 hC => ?_, ?_⟩
        · have c0 : w0.cell? ⟨p10, 0, none⟩ = some (.int .i64 (k : Int)) := by rw [← HK.out]; exact cell_of (LN10.out w0 hC) 0 (.int .i64 x.n.house) rfl
          clear hC
          go_simp
        simp only [Act.put, lq3, lq4, lq5]
        go_big_quiet_on
        go_big_quiet_want
        refine ⟨.pointer (some ⟨pc, k, none⟩), fun w0 hC => ?_, ?_⟩
        · have c0 := idx_cnt0 (W := w0) (p := pc) (k := k) (by have := HK8.out; omega)
          clear hC
          go_simp
        simp only [Act.put, lq3, lq4, lq5]
        go_big_quiet_on
        go_big_quiet_want
        refine ⟨.int .i64 (c (k : Int) : Int), fun w0 hC => ?_, ?_⟩
        · have c0 := cell_of (LC.out w0 hC) k (.int .i64 (c (k : Int) : Int)) (cntA_at c k HK8.out)
          clear hC
          go_simp
        simp only [Act.put, lq3, lq4, lq5]
        go_big_quiet_on
        go_big_quiet_want
        refine ⟨.int .i64 ((c (k : Int) : Int) + 1), fun w0 hC => ?_, ?_⟩
        · have c0 := WR.out
          clear hC
          go_simp
        simp only [Act.put, lq3, lq4, lq5]
        go_big_quiet_on
        go_big_quiet_want
        refine ⟨.bool (decide ((c (k : Int) : Int) + 1 < x.n.num)), fun w0 hC => ?_, ?_⟩
        · clear hC
          go_simp
        simp only [Act.put, lq3, lq4, lq5]
        go_big_quiet_on
        go_big_quiet_want
        refine ⟨.bool (decide ((c (k : Int) : Int) + 1 < x.n.num)), fun w0 hC => ?_, ?_⟩
        · clear hC
          go_simp
        simp only [Act.put, lq3, lq4, lq5]
        go_big_quiet_on
        go_big_quiet_want
        go_big_quiet_op
        go_big_quiet_on
        refine wpQuiet_nil ?_
        intro w' hC
        have H9 := Lib.hid (HT7.out.below hC)
        have N9 := Lib.hid (below_blk hC N7.out)
        clear hC LN10 LC HT7 N7
        generalize w' = w9 at *
        cases hgr : decide ((c (k : Int) : Int) + 1 < x.n.num)
        · have LT : Hid (¬ (c (k : Int) : Int) + 1 < x.n.num) := Lib.hid (of_decide_eq_false hgr)
          clear hgr
          go_upto_region 11 with fail
          refine wp_region_noPanic ?_
          refine wp_region_held_drew (S := fun w' => w'.heap[p10]? = some (.cells (noteA x.n x.sa x.sc) 47 (0, 0))) (by kernel_rfl) (show w9.drew.heap[p10]? = _ from N9.out) (fun hHeld => ?_)
          refine wpAnyH_take (i := 0) (v := .map (some km)) rfl (by kernel_rfl) (by kernel_rfl) (by kernel_rfl) (fun _ _ _ h => h) (Or.inl ⟨by kernel_rfl, by intro W _; go_simp⟩) (by assumption) ?_
          try simp only [Act.put, lq0, lq1, lq2, lq3, lq4, lq5]
          refine wpAnyH_take (i := 1) (v := .agg (noteA x.n x.sa x.sc)) rfl (by kernel_rfl) (by kernel_rfl) (by kernel_rfl) (fun _ _ _ h => h) (yields_row (by kernel_rfl) 47 _ rfl p10 rfl _ 47 (0, 0) _ (fun W h => h) Tryz.underlying47 rfl (I43.out _ _ _)) (by assumption) ?_
          try simp only [Act.put, lq0, lq1, lq2, lq3, lq4, lq5]
          refine wpAnyH_take (i := 3) (v := .agg (noteA x.n x.sa x.sc)) rfl (by kernel_rfl) (by kernel_rfl) (by kernel_rfl) (fun _ _ _ h => h) (yields_row (by kernel_rfl) 47 _ rfl p10 rfl _ 47 (0, 0) _ (fun W h => h) Tryz.underlying47 rfl (I43.out _ _ _)) (by assumption) ?_
          try simp only [Act.put, lq0, lq1, lq2, lq3, lq4, lq5]
          refine wpAnyH_ready (rs := [2]) (by kernel_rfl) (by simp) ?_
          refine AllReadyH.cons rfl (fun K hK => ?_) AllReadyH.nil
          go_simp
          go_at_call 58
          refine (nameOf2_any x.n x.sa x.sc _).mono ?_
          rintro e v2 ⟨rfl, b2⟩
          have bv := ((Below.refl w9.heap.size w9).drew).trans b2
          have HV := Lib.hid (H9.out.below bv)
          have NV := Lib.hid (below_blk bv N9.out)
          clear b2 bv
          dsimp only
          refine hK.out _ _ NV.out (fun hHeld => ?_)
          clear hK K
          try simp only [Act.put, lq0, lq1, lq2, lq3, lq4, lq5]
          refine wpAnyH_ready (rs := [4]) (by kernel_rfl) (by simp) ?_
          refine AllReadyH.cons rfl (fun K hK => ?_) AllReadyH.nil
          obtain ⟨v3, hrun, hm3, ht3⟩ := run_put_nm (t := 106) HV.out.map (by have h1 := HV.out.fl; have h2 := HLEN.out; unfold maxLen; omega) Tryz.underlying106 x.n.house x.n.num NOK.out x
          have M3 := Lib.hid hm3
          have NE1 : Hid (pc ≠ km) := Lib.hid (fun e => by
            obtain ⟨es, cl, h9⟩ := HV.out.map.blk
            rw [← e, HV.out.cnt] at h9
            cases h9)
          have N3 := Lib.hid (grown_blk ht3.grown NV.out (fun e => absurd (Option.some.inj e) (by have := KM10.out; omega)))
          have C3 := Lib.hid (grown_blk ht3.grown HV.out.cnt (fun e => absurd (Option.some.inj e) NE1.out))
          have O3 := Lib.hid (HV.out.own.kept ht3.grown (.inr (by
            obtain ⟨es, cl, h9⟩ := HV.out.map.blk
            exact (own_no HV.out.own h9 (by intro cur; simp)).symm)))
          have B3 := Lib.hid (HV.out.bel.grown ht3.grown HV.out.bel.size (fun z hz => by cases hz; exact HV.out.km_ge))
          clear hm3 ht3
          unfold LN.val at hrun
          go_simp
          refine hK.out _ _ N3.out (fun hHeld => ?_)
          clear hK K
          try simp only [Act.put, lq0, lq1, lq2, lq3, lq4, lq5]
          refine wpAnyH_done (by kernel_rfl) ?_ _
          refine NoPanic.normal ?_
          clear hrun
          have c0 : v3.cell? ⟨p10, 0, none⟩ = some (.int .i64 (k : Int)) := by rw [← HK.out]; exact cell_of N3.out 0 (.int .i64 x.n.house) rfl
          have c1 := idx_cnt0 (W := v3) (p := pc) (k := k) (by have := HK8.out; omega)
          have c2 := cell_of C3.out k (.int .i64 (c (k : Int) : Int)) (cntA_at c k HK8.out)
          have c3 := frozen_of C3.out k
          have c4 := WR.out
          go_upto_region 13 with fail
          have G4 := setCell_grown v3 pc k (.int .i64 ((c (k : Int) : Int) + 1))
          have C4 := Lib.hid (setCell_at C3.out k (.int .i64 ((c (k : Int) : Int) + 1)))
          rw [cntA_set c k HK8.out] at C4
          have N4 := Lib.hid (grown_blk G4 N3.out (fun e => absurd (Option.some.inj e) (by have := KM10.out; omega)))
          have M4 := Lib.hid (M3.out.kept G4 (fun e => absurd (Option.some.inj e).symm NE1.out))
          have O4 := Lib.hid (O3.out.kept G4 (.inr (own_no O3.out C3.out (by intro cur; simp)).symm))
          have B4 := Lib.hid (B3.out.grown G4 B3.out.size (fun z hz => by cases hz; exact HV.out.pc_ge))
          clear c0 c1 c2 c3 c4 G4
          generalize v3.setCell ⟨pc, k, none⟩ (.int .i64 ((c (k : Int) : Int) + 1)) = v4 at *
          have bn : Below v4.heap.size v4 (v4.alloc (.cells (noteA x.n x.sa x.sc) 47)) := (Below.refl _ _).alloc (Nat.le_refl _) _
          have O5 := Lib.hid (own_below O4.out bn)
          obtain ⟨a', c', v9, hrun, ho9, hg9⟩ := run_app_nt (v4.alloc (.cells (noteA x.n x.sa x.sc) 47)) w2.heap.size fa fr.length fc _ O5.out _ 1 1 _ (lit_note v4 x.n x.sa x.sc) (x.n.cells_one _ _) (by have h1 := HV.out.fl; have h2 := HLEN.out; omega) (Nat.le_trans B4.out.size bn.size)
          have M9 : MapF LN.val v9 km (S.l.length + fr.length + 1) (updF GK (nmOf x.n) x) := (M4.out.below bn).kept hg9 (by
            obtain ⟨es, cl, h9⟩ := (M4.out.below bn).blk
            exact (own_no O5.out h9 (by intro cur; simp)))
          have C9 : v9.heap[pc]? = some (.cells (cntA (bump c x.n.house)) 107 (0, 0)) := by
            have h9 := grown_blk hg9 (below_blk bn C4.out) (own_no O5.out (below_blk bn C4.out) (by intro cur; simp))
            rwa [← HK.out] at h9
          have B9 := (B4.out.trans (bn.mono B4.out.size)).grown hg9 (Nat.le_trans B4.out.size bn.size) (fun z hz => (O5.out.lt z hz).1)
          have HN := Lib.hid (HV.out.add HLX.out XM.out KB.out (by rw [HK.out]; exact LT.out) XP.out (fun W' hb => LOK2.out W' hb x XM.out) B9 M9 C9 ho9)
          clear bn ho9 hg9 M9 C9 B9 O5 M4 C4 O4 B4 HV NV M3 C3 O3 B3
          have FLE : Hid ((fr ++ [x.n]).length = fr.length + 1) := Lib.hid (by rw [List.length_append]; rfl)
          have hk64 := HK64.out
          go_wp2_with (first
            | (refine wpList_load_row rfl 47 _ rfl p10 rfl 47 (noteA x.n x.sa x.sc) (0, 0) _ N4.out Tryz.underlying47 rfl (I43.out _ _ _) ?_)
            | (refine wpList_build_note rfl _ rfl x.n x.sa x.sc rfl ?_)
            | (refine wpList_append_eq rfl _ _ _ rfl _ _ _ rfl rfl hrun ?_)
            | fail)
          go_roundw
          case rel => exact ⟨q + 1, updF GK (nmOf x.n) x, fr ++ [x.n], bump c x.n.house, a', c', ys ++ [x], by rw [FLE.out] <;> rfl, by go_num, by omega, HN⟩
          case measure => simp [intOf]; omega
        · have HN := Lib.hid (H9.out.skip HLX.out (.inr ⟨KB.out, by rw [HK.out]; exact of_decide_eq_true hgr⟩))
          clear hgr H9
          have hk64 := HK64.out
          go_wp2_with fail
          go_roundw
          case rel => exact ⟨q + 1, GK, fr, c, fa, fc, ys, by go_num, by go_num, by omega, HN⟩
          case measure => simp [intOf]; omega
    · have t0 : decide ((q : Int) < (nn : Int)) = false := by simp; omega
      have HG : Hid (hearGo S.l [] S.c l = some (fr, c)) := Lib.hid (by
        rw [HS.out.go, List.drop_of_length_le (by rw [HLN.out]; omega)]
        rfl)
      have HE := Lib.hid (hearP_ok GOOD.out HG.out)
      have SQ : Hid (seqOk S.c fr ∧ ∀ y ∈ fr, y ∈ l) := Lib.hid (by
        obtain ⟨t, h1, h2, h3⟩ := hear_seq l [] S.c (by rw [List.append_nil]; exact HI.out.nms) (fun n hn => (formed_house (FRM.out n hn)).2.2) HG.out
        rw [List.nil_append] at h1
        subst h1
        exact ⟨h2, h3⟩)
      have FL : Hid (S.l.length + fr.length ≤ 400) := Lib.hid (by have := HS.out.fl; have := HLEN.out; omega)
      have YL : Hid (ys.length = fr.length) := Lib.hid (by rw [← HS.out.eq, List.length_map])
      have MP := Lib.hid HS.out.map
      have RY := Lib.hid (RdA.of_own HS.out.own)
      have RG := Lib.hid HS.out.own
      have BW := Lib.hid HS.out.bel
      have YE := Lib.hid HS.out.eq
      have YM := Lib.hid HS.out.mem
      have PW := Lib.hid (show wr.heap[pB]? = some (.cells #[.pointer (some ⟨p, 0, none⟩)] 27 (0, 0)) from below_blk HS.out.bel P2.out)
      have CA : Hid (∀ W, Same (houF p mb G SF) wr W → ∀ y ∈ xs, y.ok W) := Lib.hid (fun W hS y hy => ls_ok (HR.out W ((Same.of_below (B2.out.trans (HS.out.bel.mono B2.out.size))).trans hS)) hy)
      have H5 := Lib.hid (HH.out.below (B2.out.trans (HS.out.bel.mono B2.out.size)))
      have BT := Lib.hid (B2.out.trans (HS.out.bel.mono B2.out.size))
      clear HS t0
      go_upto_region 18 with fail
      go_wp2_with (first
        | (at_len; refine wpList_len_nm rfl _ 106 47 rfl Tryz.underlying106 km (S.l.length + fr.length) rfl MP.out ?_; intro kk hkk; have tkk : decide ((400 : Int) < (kk : Int)) = false := (by have := FL.out; simp; omega))
        | fail)
      clear tkk hkk
      obtain ⟨fn, hfn⟩ : ∃ z, Hid (fr.length = z) := ⟨_, Lib.hid rfl⟩
      rw [hfn.out] at RY RG YL FL ⊢
      have F63 : Hid ((fn : Int) ≤ 9223372036854775807) := Lib.hid (by have := FL.out; omega)
      generalize wr = V at *
      go_loopw [83] (fun iv wr => ∃ (j : Nat) (G' : Nm → Option LN) (SF' : Nat → Prop), iv = .int .i64 (j : Int) ∧ j ≤ fn ∧ Hid (HouAt wr p mb sp G' SF' (S.adds (fr.take j)) ∧ Same (houF p mb G SF) V wr ∧ ∀ k, houF p mb G' SF' k → houF p mb G SF k ∨ V.heap.size ≤ k)) (fun iv _ => fn - (intOf iv).toNat)
      case atStart => exact ⟨0, G, SF, rfl, Nat.zero_le _, Lib.hid ⟨H5.out, Same.of_below (Below.refl _ _), fun k hk => .inl hk⟩⟩
      case round =>
        obtain ⟨j, G', SF', rfl, hj, HJ⟩ := hrel
        by_cases hjn : j < fn
        · have t0 : decide ((j : Int) < (fn : Int)) = true := by simp; omega
          obtain ⟨y, Hy⟩ : ∃ y, ys[j]? = some y := ⟨_, List.getElem?_eq_getElem (by rw [YL.out]; exact hjn)⟩
          have FY := Lib.hid (show fr[j]? = some y.n by rw [← YE.out, List.getElem?_map, Hy]; rfl)
          have YX := Lib.hid (YM.out y (List.mem_of_getElem? Hy))
          have RJ := Lib.hid (RdA.of_own (own_keep RG.out HJ.out.2.1 (fun b hb hF => absurd (HH.out.lt b hF) (by have h1 := (RG.out.lt b hb).1; have h2 := B2.out.size; omega))))
          obtain ⟨b, off, rfl, hat⟩ := ln_at RJ.out (by omega)
          obtain ⟨o, ho⟩ : ∃ o, Hid (off + j * 19 = o) := ⟨_, Lib.hid rfl⟩
          have HY := Lib.hid (hat j y Hy)
          rw [ho.out] at HY
          have hix := fun W => idx_off (W := W) (c := fc) (b := b) Tryz.underlying24 J19 hjn ho.out
          have HK64 : Hid ((j : Int) + 1 ≤ 9223372036854775807) := Lib.hid (by have := F63.out; omega)
          have PJ := Lib.hid ((HJ.out.2.1.block pB (blk_lt PW.out) (fun hF => absurd (HH.out.lt pB hF) (by have := hpB.out; omega))).trans PW.out)
          clear hat Hy
          go_upto_region 23 with (first
            | (refine wpList_load_mid rfl 47 _ rfl b o rfl (y.n.cells y.sa y.sc) _ HY.out Tryz.underlying47 rfl (size43 y.n y.sa y.sc) ?_)
            | (refine wpList_store_newp wr rfl 47 _ _ rfl wr.heap.size rfl _ (noteA y.n y.sa y.sc) rfl rfl (I43.out _ _ _) rfl (noteA_one y.n y.sa y.sc) ?_))
          clear t0 hix
          have bt : Below wr.heap.size wr (wr.alloc (.cells (noteA y.n y.sa y.sc) 47)) := (Below.refl _ _).alloc (Nat.le_refl _) _
          have N14 := Lib.hid (heap_last wr (.cells (noteA y.n y.sa y.sc) 47))
          have HT := Lib.hid (HJ.out.1.below bt)
          have ST := Lib.hid (HJ.out.2.1.trans (Same.of_below bt))
          have FT := Lib.hid HJ.out.2.2
          have PT := Lib.hid (below_blk bt PJ.out)
          obtain ⟨p14, hp14⟩ : ∃ z, Hid (wr.heap.size = z) := ⟨_, Lib.hid rfl⟩
          rw [hp14.out] at N14
          rw [hp14.out]
          generalize wr.alloc (.cells (noteA y.n y.sa y.sc) 47) = wt at *
          clear bt HJ PJ HY RJ
          have cB := cell_of PT.out 0 (.pointer (some ⟨p, 0, none⟩)) rfl
          go_wp2_with (first
            | (refine wpList_load_row rfl 47 _ rfl p14 rfl 47 (noteA y.n y.sa y.sc) (0, 0) _ N14.out Tryz.underlying47 rfl (I43.out _ _ _) ?_))
          clear cB
          have FT2 := Lib.hid (show ∀ k, houF p mb G' SF' k → houF p mb G SF k ∨ V.heap.size ≤ k from FT.out)
          have FSUB : Hid (∀ x ∈ fr.take j, formedB S.f x = true ∧ x.Ok) := Lib.hid (fun x hx => by have h1 := SQ.out.2 x (List.mem_of_mem_take hx); exact ⟨FRM.out x h1, HOK.out x h1⟩)
          have HIJ := Lib.hid (adds_inv (fr.take j) S HI.out (seqOk_take fr S.c j SQ.out.1) FSUB.out)
          have YF := Lib.hid (show formedB (S.adds (fr.take j)).f y.n = true by rw [adds_f]; exact FRM.out y.n (SQ.out.2 y.n (List.mem_of_getElem? FY.out)))
          have YO := Lib.hid (HOK.out y.n (SQ.out.2 y.n (List.mem_of_getElem? FY.out)))
          refine (hadd_any p mb sp G' SF' (S.adds (fr.take j)) y.n y.sa y.sc wt HT.out HIJ.out (fun W hS => CA.out W (same_trans2 ST.out hS FT2.out) y YX.out) YF.out YO.out (seqOk_at fr S j y.n SQ.out.1 FY.out) (by rw [adds_len, List.length_take]; have := FL.out; omega)).mono ?_
          rintro e w8 ⟨rfl, ta, tc, SF2, hh8, hs8, hf8⟩
          have HN := Lib.hid (show HouAt w8 p mb sp (updF G' (nmOf y.n) ⟨y.n, ta, tc⟩) SF2 (S.adds (fr.take (j + 1))) ∧ Same (houF p mb G SF) V w8 ∧ ∀ k, houF p mb (updF G' (nmOf y.n) ⟨y.n, ta, tc⟩) SF2 k → houF p mb G SF k ∨ V.heap.size ≤ k from ⟨by rw [take_snoc FY.out, adds_snoc]; exact hh8, same_trans2 ST.out hs8 FT2.out, fun k hk => by
            rcases hf8 k hk with h1 | h1
            · exact FT2.out k h1
            · exact .inr (Nat.le_trans ST.out.size h1)⟩)
          clear hh8 hs8 hf8 HT ST FT FT2 PT N14
          have hk64 := HK64.out
          go_wp2_with fail
          go_roundw
          case rel => exact ⟨j + 1, updF G' (nmOf y.n) ⟨y.n, ta, tc⟩, SF2, by go_num, by omega, HN⟩
          case measure => simp [intOf]; omega
        · have t0 : decide ((j : Int) < (fn : Int)) = false := by simp; omega
          have HF := Lib.hid (show HouAt wr p mb sp G' SF' (S.adds fr) by have h1 := HJ.out.1; rwa [List.take_of_length_le (by have := hfn.out; omega)] at h1)
          go_wp2_with fail
          go_returns
          exact ⟨by rw [HE.out, hfn.out] <;> rfl, by rw [HE.out]; exact ⟨G', SF', HF.out, (Same.of_below BT.out).trans HJ.out.2.1, fun k hk => (HJ.out.2.2 k hk).imp id (fun h => Nat.le_trans BT.out.size h)⟩⟩
end
end Go.Proofs.YtlnhppgfhkkidaaGreat
namespace Go.Proofs.YtlnhppgfhkkidaaGreat
open Go.RowKit
def tornR : PanicEntry := { v := .iface 233 (.agg #[]), recovered := true }
set_option maxRecDepth 100000 in
theorem catch_torn (p : Nat) (x : Bool) (w : World) (hh : w.heap[p]? = some (.cells #[.bool x] 4 (0, 0))) :
    CallsD Tryz.prog 179 #[.pointer (some ⟨p, 0, none⟩)] (.panicking [tornP]) w fun e u' w' =>
      e = .returned (.tuple #[]) ∧ u' = .panicking [tornR] ∧ w'.heap[p]? = some (.cells #[.bool false] 4 (0, 0)) ∧ Same (fun k => k = p) w w' := by
  have hc : w.cell? ⟨p, 0, none⟩ = some (.bool x) := cell_of hh 0 _ rfl
  have hz := frozen_of hh 0
  have hc' : ∀ o, (w.alloc o).cell? ⟨p, 0, none⟩ = some (.bool x) := fun o => cell_of (heap_before w o _ _ hh) 0 _ rfl
  have hz' : ∀ o, (w.alloc o).frozen? ⟨p, 0, none⟩ = false := fun o => frozen_of (heap_before w o _ _ hh) 0
  have hta : ∀ w, (Instr.typeAssert (.iface 233 (.agg #[])) 20 233 true).run Tryz.prog w = .ok (.tuple #[.agg #[], .bool true]) w := fun _ => rfl
  refine callsD_of_wpS Tryz.func179 rfl fun c₀ cs hu => ?_
  apply wpS_seq
  apply wpS_region
  simp [wpOpsS, go_sem, recoverD, hu, Tryz.ntmps179, Exit.thenS, tornP]
  refine wpS_of_wp ?_
  change Code.wp _ _ _ { tmps := #[.pointer (some ⟨p, 0, none⟩), .iface 233 (.agg #[]), undef, undef, .iface 233 (.agg #[]), undef, undef, undef, undef, undef, undef, undef, undef, undef, undef], defers := [] } w
  go_wp2_with fail
  refine ⟨rfl, ?_⟩
  simp [results, Tryz.results179]
  exact ⟨rfl, heap_setCell_same _ p 0 _ _ (.bool false) (heap_before w _ _ _ hh), (Same.of_below ((Below.refl _ _).alloc (Nat.le_refl _) _)).trans (same_at _ p 0 (.bool false))⟩
theorem catch_idle (p : Nat) (w : World) :
    CallsD Tryz.prog 179 #[.pointer (some ⟨p, 0, none⟩)] .returning w fun e u' w' => e = .returned (.tuple #[]) ∧ u' = .returning ∧ w' = w := by
  refine callsD_of_wpS Tryz.func179 rfl fun c₀ cs hu => ?_
  apply wpS_seq
  apply wpS_region
  simp [wpOpsS, go_sem, recoverD, hu, Tryz.ntmps179, Exit.thenS]
  refine wpS_of_wp ?_
  go_wp2_with fail
  cases c₀
  simp_all [bodyPostS, results, Tryz.results179]
section
attribute [local go_sem] noteA_0
set_option maxHeartbeats 2000000 in
set_option maxRecDepth 100000 in
theorem run_any (rp np : Nat) (l : List UInt8) (a : Option Addr) (n c : Nat) (w : World) (h : RdP w rp l a n c) (hl : l.length ≤ 1000000) (hnp : w.heap[np]? = some (.cells (noteA zeroN none 0) 47 (0, 0))) (hne : ¬ np = rp) :
    Calls Tryz.prog 130 #[.pointer (some ⟨rp, 0, none⟩), .pointer (some ⟨np, 0, none⟩)] w fun e w' => (∃ (m : NoteV) (t : List UInt8) (sa : Option Addr) (sc : Nat), noteF numP l = some (m, t) ∧ e = .returned (.tuple #[]) ∧ w'.heap[np]? = some (.cells (noteA m sa sc) 47 (0, 0)) ∧ w'.ownsRow w.heap.size 3 1 (.slice sa m.strokes.length sc) m.strokes.length (m.strokes.map intV) ∧ Same (fun k => k = rp ∨ k = np) w w') ∨
      (noteF numP l = none ∧ e = .panicked [tornP] ∧ Same (fun k => k = rp ∨ k = np) w w') := by
  have I43 := Lib.hid (show ∀ (m : NoteV) (a : Option Addr) (c : Nat), (Tryz.prog.info? 47).map (·.size) = some (noteA m a c).size from fun m a c => by kernel_rfl)
  go_enter Tryz.func130, Tryz.ntmps130
  go_wp2_with fail
  refine (note_any rp l a n c w h hl).mono ?_
  rintro e w1 (⟨m, t, sa, sc, a2, n2, c2, h1, rfl, h2, h3, h4⟩ | ⟨h1, rfl, h4⟩)
  · have g := Lib.hid ((h4.block np (Array.getElem?_eq_some_iff.1 hnp).1 hne).trans hnp)
    have H1 := Lib.hid h1; clear h1
    have one1 := noteA_one m sa sc
    go_wp2_with (refine wpList_store_rowN rfl 47 _ _ rfl np (noteA zeroN none 0) (noteA m sa sc) 47 rfl rfl g.out (I43.out _ _ _) rfl one1 ?_)
    have hSR : Same (fun k => k = np) w1 (w1.setRow np (noteA m sa sc)) := ⟨rfl, rfl, rfl, by simp, fun k hk hs => setRow_other w1 np k _ hs⟩
    have hnl := (Array.getElem?_eq_some_iff.1 hnp).1
    have hO := own_same h2 hSR (fun b cur fr hb => .inr (by rw [show b = np from hb]; exact hnl))
    have hg := setRow_heap w1 np _ (noteA m sa sc) _ _ g.out
    have hS := (same_imp h4 (S' := fun k => k = rp ∨ k = np) fun k e => .inl e).trans (same_imp hSR fun k e => .inr e)
    have HO := hO
    go_end0
    first
      | exact .inl ⟨m, t, sa, sc, H1.out, rfl, hg, HO, hS⟩
      | exact .inl ⟨m, ⟨t, H1.out⟩, rfl, sa, sc, hg, HO, hS⟩
  · have H1 := Lib.hid h1; clear h1
    go_wp2_with fail
    exact ⟨rfl, .inr ⟨H1.out, rfl, same_imp h4 fun k e => .inl e⟩⟩
set_option maxHeartbeats 2000000 in
set_option maxRecDepth 100000 in
theorem reading_any (np : Nat) (l : List UInt8) (a : Option Addr) (n c : Nat) (w : World) (h : RdB w a n c l) (hl : l.length ≤ 1000000) (hnp : w.heap[np]? = some (.cells (noteA zeroN none 0) 47 (0, 0))) :
    Calls Tryz.prog 129 #[.slice a n c, .func (.func 130) #[] #[.pointer (some ⟨np, 0, none⟩)]] w fun e w' => (∃ (m : NoteV) (t : List UInt8) (sa : Option Addr) (sc : Nat), noteF numP l = some (m, t) ∧ e = .returned (.bool true) ∧ w'.heap[np]? = some (.cells (noteA m sa sc) 47 (0, 0)) ∧ w'.ownsRow w.heap.size 3 1 (.slice sa m.strokes.length sc) m.strokes.length (m.strokes.map intV) ∧ Same (fun k => k = np) w w') ∨
      (noteF numP l = none ∧ e = .returned (.bool false) ∧ Same (fun k => k = np) w w') := by
  have hmf : ∀ (fn : Fn) (first cap : Array Value) (w : World), (Instr.makeFunc fn first cap).run Tryz.prog w = .ok (.func fn first cap) w := fun _ _ _ _ => rfl
  have hnl := (Array.getElem?_eq_some_iff.1 hnp).1
  go_enter_defers Tryz.func129, Tryz.ntmps129
  go_wp2_with fail
  obtain ⟨p, hp⟩ : ∃ p, Hid (w.heap.size = p) := ⟨_, Lib.hid rfl⟩
  obtain ⟨rp, hrp⟩ : ∃ rp, Hid (w.heap.size + 1 = rp) := ⟨_, Lib.hid rfl⟩
  have b2 : Below w.heap.size w ((w.alloc (.cells #[.bool false] 4)).alloc (.cells #[.slice a n c] 236)) := ((Below.refl _ _).alloc (Nat.le_refl _) _).alloc (by simp) _
  have g1 : ((w.alloc (.cells #[.bool false] 4)).alloc (.cells #[.slice a n c] 236)).heap[p]? = some (.cells #[.bool false] 4 (0, 0)) := by rw [← hp.out]; exact heap_before _ _ _ _ (heap_last _ _)
  have g2 : ((w.alloc (.cells #[.bool false] 4)).alloc (.cells #[.slice a n c] 236)).heap[rp]? = some (.cells #[.slice a n c] 236 (0, 0)) := by rw [← hrp.out]; exact heap_at _ _ _ (by simp)
  rw [hrp.out, hp.out]
  generalize (w.alloc (.cells #[.bool false] 4)).alloc (.cells #[.slice a n c] 236) = w2 at *
  have hne : ¬ np = rp ∧ ¬ p = rp ∧ ¬ p = np := by have h1 := hp.out; have h2 := hrp.out; omega
  have hnp2 := (b2.block np hnl).trans hnp
  have hpl := (Array.getElem?_eq_some_iff.1 g1).1
  refine (run_any rp np l a n c w2 ⟨g2, RdB.below h b2⟩ hl hnp2 hne.1).mono ?_
  rintro e w3 (⟨m, t, sa, sc, h1, rfl, h2, h3, h4⟩ | ⟨h1, rfl, h4⟩)
  · have k1 := (h4.block p hpl (by have h1 := hne.2.1; have h2 := hne.2.2; omega)).trans g1
    have c1 : w3.cell? ⟨p, 0, none⟩ = some (.bool false) := cell_of k1 0 _ rfl
    have f1 := frozen_of k1 0
    have hS := same_at w3 p 0 (.bool true)
    have k2 := heap_setCell_same w3 p 0 _ _ (.bool true) k1
    have c2 : (w3.setCell ⟨p, 0, none⟩ (.bool true)).cell? ⟨p, 0, none⟩ = some (.bool true) := cell_of k2 0 _ rfl
    have hn3 := (hS.block np (Array.getElem?_eq_some_iff.1 h2).1 (fun e => hne.2.2 e.symm)).trans h2
    have H1 := Lib.hid h1; clear h1
    have hFin : Same (fun k => k = np) w (w3.setCell ⟨p, 0, none⟩ (.bool true)) := by
      have hh := ((same_imp (Same.of_below (S := fun _ => False) b2) (S' := fun k => k = rp ∨ k = np ∨ k = p) (fun k e => e.elim)).trans (same_imp h4 (S' := fun k => k = rp ∨ k = np ∨ k = p) (fun k e => e.elim .inl (fun e => .inr (.inl e))))).trans (same_imp hS (S' := fun k => k = rp ∨ k = np ∨ k = p) (fun k e => .inr (.inr e)))
      exact ⟨hh.os, hh.tape, hh.output, hh.size, fun k hk hs => hh.block k hk (by have h1 := hp.out; have h2 := hrp.out; have h3 : ¬ k = np := hs; omega)⟩
    have HF := Lib.hid hFin; clear hFin
    have HR := Lib.hid (own_mono (own_same h3 hS (fun b cur fr hb => .inr (by rw [show b = p from hb]; exact hpl))) b2.size); clear h3
    go_wp2_with fail
    refine leaves_cons (f := 179) (args := #[.pointer (some ⟨p, 0, none⟩)]) (by simp) (by simp [go_sem]) ?_
    refine (catch_idle p _).mono ?_
    rintro e u' w'' ⟨rfl, rfl, rfl⟩
    simp [Leaves, settle, results, Tryz.results129, go_sem]
    exact ⟨.bool true, by rw [c2], .inl ⟨m, ⟨t, H1.out⟩, rfl, sa, sc, hn3, HR.out, HF.out⟩⟩
  · have k1 := (h4.block p hpl (by have h1 := hne.2.1; have h2 := hne.2.2; omega)).trans g1
    have H1 := Lib.hid h1; clear h1
    go_wp2_with fail
    refine leaves_cons (f := 179) (args := #[.pointer (some ⟨p, 0, none⟩)]) (by simp) (by simp [go_sem]) ?_
    refine (catch_torn p false _ k1).mono ?_
    rintro e u' w'' ⟨rfl, rfl, g3, h5⟩
    have c3 : w''.cell? ⟨p, 0, none⟩ = some (.bool false) := cell_of g3 0 _ rfl
    simp [Leaves, settle, results, Tryz.results129, go_sem, tornR]
    refine ⟨.bool false, by rw [c3], .inr ⟨H1.out, rfl, ?_⟩⟩
    have hh := ((same_imp (Same.of_below (S := fun _ => False) b2) (S' := fun k => k = rp ∨ k = np ∨ k = p) (fun k e => e.elim)).trans (same_imp h4 (S' := fun k => k = rp ∨ k = np ∨ k = p) (fun k e => e.elim .inl (fun e => .inr (.inl e))))).trans (same_imp h5 (S' := fun k => k = rp ∨ k = np ∨ k = p) (fun k e => .inr (.inr e)))
    exact ⟨hh.os, hh.tape, hh.output, hh.size, fun k hk hs => hh.block k hk (by have h1 := hp.out; have h2 := hrp.out; have h3 : ¬ k = np := hs; omega)⟩
end
end Go.Proofs.YtlnhppgfhkkidaaGreat
namespace Go.Proofs.YtlnhppgfhkkidaaGreat
open Go.RowKit
theorem noteP_len {l t : List UInt8} {m : NoteV} (h : noteF numP l = some (m, t)) : m.strokes.length ≤ l.length := by
  cases e1 : many numP 15 l with
  | none => rw [noteF_1 e1] at h; cases h
  | some p =>
    obtain ⟨x, t0⟩ := p
    cases e2 : lenF numP t0 with
    | none => rw [noteF_2 e1 e2] at h; cases h
    | some p =>
      obtain ⟨k, t1⟩ := p
      rw [noteF_3 e1 e2] at h
      have hk : k ≤ t1.length := by
        unfold lenF at e2
        split at e2
        · split at e2
          · simp only [Option.some.injEq, Prod.mk.injEq] at e2
            obtain ⟨rfl, rfl⟩ := e2
            omega
          · cases e2
        · cases e2
      have h2 := lenP_len e2
      have h3 := manyP_len _ e1
      split at h
      · rename_i y t2 e3
        split at h
        · simp only [Option.some.injEq, Prod.mk.injEq] at h
          have := many_len _ _ _ _ e3
          rw [← h.1, show (mkN x y _).strokes = y from rfl]
          omega
        · cases h
      · cases h
def decP9 (f : FrV) (l : List UInt8) : Option NoteV := match noteF numP l with
  | some (m, _) => if checkN f m = 0 ∧ encN m = l then some m else none
  | none => none
structure LocD (w W : World) (p0 p1 p2 : Nat) (f : FrV) (C : Array Value) : Prop where
  e0 : W.heap[p0]? = some (.cells #[.int .i64 f.rings, .int .i64 f.sectors, .int .i64 f.wide] 23 (0, 0))
  e1 : W.heap[p1]? = some (.cells (noteA zeroN none 0) 47 (0, 0))
  e2 : W.heap[p2]? = some (.cells C 47 (0, 0))
  b : Below p0 w W
  lt : p0 < p1 ∧ p1 < p2
theorem LocD.below {w W W' : World} {p0 p1 p2 : Nat} {f : FrV} {C : Array Value} (h : LocD w W p0 p1 p2 f C) (hb : Below W.heap.size W W') : LocD w W' p0 p1 p2 f C := by
  have g : ∀ {k : Nat} {o : Obj}, W.heap[k]? = some o → W'.heap[k]? = some o := fun {k o} hk => (hb.block k (Array.getElem?_eq_some_iff.1 hk).1).trans hk
  have h0 := (Array.getElem?_eq_some_iff.1 h.e0).1
  exact ⟨g h.e0, g h.e1, g h.e2, h.b.trans (hb.mono (by omega)), h.lt⟩
theorem LocD.done {w W : World} {p0 p1 p2 : Nat} {f : FrV} {C : Array Value} (h : LocD w W p0 p1 p2 f C) (C' : Array Value) : (W.setRow p1 C').heap[p1]? = some (.cells C' 47 (0, 0)) ∧ Below p0 w (W.setRow p1 C') := by
  have hl := h.lt
  exact ⟨setRow_heap W p1 _ C' _ _ h.e1, h.b.trans ⟨rfl, rfl, rfl, by simp, fun k hk => setRow_other W p1 k C' (by omega)⟩⟩
section
attribute [local go_sem] noteA_0
end
end Go.Proofs.YtlnhppgfhkkidaaGreat
namespace Go.Proofs.YtlnhppgfhkkidaaGreat
set_option linter.unusedSimpArgs false
open Go.RowKit

section
attribute [local go_sem] noteA_0
set_option maxHeartbeats 4000000 in
set_option maxRecDepth 100000 in
theorem decode2_any (f : FrV) (l : List UInt8) (a : Option Addr) (n c : Nat) (w : World) (h : RdB w a n c l) (hl : l.length ≤ 1000000) :
    Calls Tryz.prog 75 #[f.val, .slice a n c] w fun e w' => (∃ (m : NoteV) (sa : Option Addr) (sc : Nat), decP9 f l = some m ∧ e = .returned (.tuple #[.agg (noteA m sa sc), .int .i64 0]) ∧ w'.ownsRow w.heap.size 3 1 (.slice sa m.strokes.length sc) m.strokes.length (m.strokes.map intV) ∧ Below w.heap.size w w') ∨
      (decP9 f l = none ∧ e = .returned (.tuple #[.agg (noteA zeroN none 0), .int .i64 90]) ∧ Below w.heap.size w w') := by
  have I43 := Lib.hid (show ∀ (m : NoteV) (a : Option Addr) (c : Nat), (Tryz.prog.info? 47).map (·.size) = some (noteA m a c).size from fun m a c => by kernel_rfl)
  have hmf : ∀ (fn : Fn) (first cap : Array Value) (w : World), (Instr.makeFunc fn first cap).run Tryz.prog w = .ok (.func fn first cap) w := fun _ _ _ _ => rfl
  unfold FrV.val
  go_enter Tryz.func75, Tryz.ntmps75
  go_wp2_with fail
  rw [← noteA_zero]
  have oneZ := noteA_one zeroN none 0
  have g0 := heap_before _ (.cells (noteA zeroN none 0) 47) _ _ (heap_before _ (.cells (noteA zeroN none 0) 47) _ _ (heap_last w (.cells #[.int .i64 f.rings, .int .i64 f.sectors, .int .i64 f.wide] 23)))
  have g1 := heap_before _ (.cells (noteA zeroN none 0) 47) _ _ (heap_at (w.alloc (.cells #[.int .i64 f.rings, .int .i64 f.sectors, .int .i64 f.wide] 23)) (.cells (noteA zeroN none 0) 47) (w.heap.size + 1) (by simp))
  have g2 := heap_at ((w.alloc (.cells #[.int .i64 f.rings, .int .i64 f.sectors, .int .i64 f.wide] 23)).alloc (.cells (noteA zeroN none 0) 47)) (.cells (noteA zeroN none 0) 47) (w.heap.size + 1 + 1) (by simp)
  have bb : Below w.heap.size w (((w.alloc (.cells #[.int .i64 f.rings, .int .i64 f.sectors, .int .i64 f.wide] 23)).alloc (.cells (noteA zeroN none 0) 47)).alloc (.cells (noteA zeroN none 0) 47)) := (((Below.refl _ _).alloc (Nat.le_refl _) _).alloc (by simp) _).alloc (by simp; omega) _
  have L0 : Hid (LocD w (((w.alloc (.cells #[.int .i64 f.rings, .int .i64 f.sectors, .int .i64 f.wide] 23)).alloc (.cells (noteA zeroN none 0) 47)).alloc (.cells (noteA zeroN none 0) 47)) w.heap.size (w.heap.size + 1) (w.heap.size + 1 + 1) f (noteA zeroN none 0)) := Lib.hid ⟨g0, g1, g2, bb, by omega⟩
  clear g0 g1 g2 bb
  generalize ((w.alloc (.cells #[.int .i64 f.rings, .int .i64 f.sectors, .int .i64 f.wide] 23)).alloc (.cells (noteA zeroN none 0) 47)).alloc (.cells (noteA zeroN none 0) 47) = W3 at *
  generalize hp0 : w.heap.size = p0 at *
  generalize hp1 : p0 + 1 = p1 at *
  generalize hp2 : p1 + 1 = p2 at *
  have RB := Lib.hid (show ∀ W', Below p0 w W' → RdB W' a n c l from fun W' hb => h.below (by rw [hp0]; exact hb))
  have HP0 := Lib.hid hp0; clear hp0 hp1 hp2
  refine (reading_any p2 l a n c W3 (RB.out _ L0.out.b) hl L0.out.e2).mono ?_
  rintro e w4 (⟨m, t, sa, sc, h1, rfl, h2, h3, h4⟩ | ⟨h1, rfl, h4⟩)
  · have oneM := noteA_one m sa sc
    have hz2 := (Array.getElem?_eq_some_iff.1 L0.out.e2).1
    have P1 : Hid (p1 < W3.heap.size) := Lib.hid (Nat.lt_trans L0.out.lt.2 hz2)
    have L1 : Hid (LocD w w4 p0 p1 p2 f (noteA m sa sc)) := Lib.hid ⟨(h4.block p0 (by have := L0.out.lt; omega) (by have := L0.out.lt; omega)).trans L0.out.e0, (h4.block p1 (by have := L0.out.lt; omega) (by have := L0.out.lt; omega)).trans L0.out.e1, h2, h4.below L0.out.b (by have := L0.out.lt; omega) (fun k e => by have := L0.out.lt; rw [show k = p2 from e]; omega), L0.out.lt⟩
    have HO := Lib.hid h3; clear h3
    have HM := Lib.hid h1; clear h1 h2 h4 hz2
    have HLN := Lib.hid (Nat.le_trans (noteP_len HM.out) hl)
    have c0 := cell_of L1.out.e0 0 _ rfl
    have c1 := cell_of L1.out.e0 1 _ rfl
    have c2 := cell_of L1.out.e0 2 _ rfl
    go_wp2_with   (first
        | (refine wpList_load_row rfl 47 _ rfl p2 rfl 47 (noteA m sa sc) (0, 0) _ L1.out.e2 Tryz.underlying47 rfl (I43.out _ _ _) ?_)
        | (refine wpList_load_rowG ?hw 47 _ rfl p2 rfl 47 (noteA m sa sc) (0, 0) _ L1.out.e2 Tryz.underlying47 rfl (I43.out _ _ _) ?_; case hw => rfl))
    refine (checkNote_any f m sa sc _ (RdA.of_own HO.out)).mono ?_
    rintro e w5 ⟨rfl, b5⟩
    have L2 := Lib.hid (L1.out.below b5)
    have HO2 := Lib.hid (own_below HO.out b5)
    clear b5 c0 c1 c2
    by_cases hc : checkN f m = 0
    · have hq : (checkN f m != 0) = false := by simp [hc]
      have HC := Lib.hid hc; clear hc
      have HSM := Lib.hid (small_of HC.out)
      go_wp2_with   (first
          | (refine wpList_load_row rfl 47 _ rfl p2 rfl 47 (noteA m sa sc) (0, 0) _ L2.out.e2 Tryz.underlying47 rfl (I43.out _ _ _) ?_)
          | (refine wpList_load_rowG ?hw 47 _ rfl p2 rfl 47 (noteA m sa sc) (0, 0) _ L2.out.e2 Tryz.underlying47 rfl (I43.out _ _ _) ?_; case hw => rfl))
      refine (encoded_any m sa sc _ (RdA.of_own HO2.out) HSM.out HLN.out).mono ?_
      rintro e w6 ⟨a', c', rfl, h6, b6⟩
      have L3 := Lib.hid (L2.out.below b6)
      have HO3 := Lib.hid (own_below HO2.out b6)
      have H6 := Lib.hid h6; clear h6 b6
      go_wp2_with fail
      refine (equal_any _ _ _ (encN m) _ _ _ l _ (RdB.of_own H6.out) (RB.out _ L3.out.b)).mono ?_
      rintro e w7 ⟨r, rfl, hr, q, rfl⟩
      have L4 := Lib.hid (L3.out.below (below_drewN (Below.refl _ _) q))
      have HO4 := Lib.hid (own_below HO3.out (below_drewN (Below.refl _ _) q))
      generalize w6.drewN q = w7 at *
      cases r with
      | false =>
        have HR := Lib.hid (show decP9 f l = none by unfold decP9; rw [HM.out]; simp only; rw [if_neg (fun e => by have := hr.2 e.2; cases this)])
        clear hr
        go_wp2_with (refine wpList_store_rowN rfl 47 _ _ rfl p1 (noteA zeroN none 0) (noteA zeroN none 0) 47 rfl rfl L4.out.e1 (I43.out _ _ _) rfl oneZ ?_)
        refine bodyPost_ret (results_cell_row_tmp rfl _ _ p1 47 (noteA zeroN none 0) (0, 0) _ rfl (L4.out.done _).1 Tryz.underlying47 rfl (I43.out _ _ _)) rfl ?_
        exact .inr ⟨HR.out, rfl, by rw [HP0.out]; exact (L4.out.done _).2⟩
      | true =>
        have HR := Lib.hid (show decP9 f l = some m by unfold decP9; rw [HM.out]; simp only; rw [if_pos ⟨HC.out, hr.1 rfl⟩])
        clear hr
        go_wp2_with (first
          | (refine wpList_load_row rfl 47 _ rfl p2 rfl 47 (noteA m sa sc) (0, 0) _ L4.out.e2 Tryz.underlying47 rfl (I43.out _ _ _) ?_)
          | (refine wpList_store_rowN rfl 47 _ _ rfl p1 (noteA zeroN none 0) (noteA m sa sc) 47 rfl rfl L4.out.e1 (I43.out _ _ _) rfl oneM ?_))
        refine bodyPost_ret (results_cell_row_tmp rfl _ _ p1 47 (noteA m sa sc) (0, 0) _ rfl (L4.out.done _).1 Tryz.underlying47 rfl (I43.out _ _ _)) rfl ?_
        have hO := own_same (S := fun k => k = p1) HO4.out (W' := World.setRow _ p1 (noteA m sa sc)) ⟨rfl, rfl, rfl, by simp, fun k hk hs => setRow_other _ p1 k _ hs⟩ (fun b cur fr hb => .inr (by rw [show b = p1 from hb]; exact P1.out))
        exact .inl ⟨m, sa, sc, HR.out, rfl, own_mono hO L0.out.b.size, by rw [HP0.out]; exact (L4.out.done _).2⟩
    · have hq : (checkN f m != 0) = true := by simp [hc]
      have HR := Lib.hid (show decP9 f l = none by unfold decP9; rw [HM.out]; simp only; rw [if_neg (fun e => hc e.1)])
      clear hc
      go_wp2_with (refine wpList_store_rowN rfl 47 _ _ rfl p1 (noteA zeroN none 0) (noteA zeroN none 0) 47 rfl rfl L2.out.e1 (I43.out _ _ _) rfl oneZ ?_)
      refine bodyPost_ret (results_cell_row_tmp rfl _ _ p1 47 (noteA zeroN none 0) (0, 0) _ rfl (L2.out.done _).1 Tryz.underlying47 rfl (I43.out _ _ _)) rfl ?_
      exact .inr ⟨HR.out, rfl, by rw [HP0.out]; exact (L2.out.done _).2⟩
  · have HR := Lib.hid (show decP9 f l = none by unfold decP9; rw [h1])
    have hz2 := (Array.getElem?_eq_some_iff.1 L0.out.e2).1
    have k0 := (h4.block p0 (by have := L0.out.lt; omega) (by have := L0.out.lt; omega)).trans L0.out.e0
    have k1 := Lib.hid ((h4.block p1 (by have := L0.out.lt; omega) (by have := L0.out.lt; omega)).trans L0.out.e1)
    have kb := Lib.hid (h4.below L0.out.b (by have := L0.out.lt; omega) (fun k e => by have := L0.out.lt; rw [show k = p2 from e]; omega))
    have kl := Lib.hid L0.out.lt
    clear h1 h4 hz2 k0
    go_wp2_with (refine wpList_store_rowN rfl 47 _ _ rfl p1 (noteA zeroN none 0) (noteA zeroN none 0) 47 rfl rfl k1.out (I43.out _ _ _) rfl oneZ ?_)
    refine bodyPost_ret (results_cell_row_tmp rfl _ _ p1 47 (noteA zeroN none 0) (0, 0) _ rfl (setRow_heap w4 p1 _ _ _ _ k1.out) Tryz.underlying47 rfl (I43.out _ _ _)) rfl ?_
    exact .inr ⟨HR.out, rfl, by rw [HP0.out]; exact kb.out.trans ⟨rfl, rfl, rfl, by simp, fun k hk => setRow_other _ p1 k _ (by have := kl.out; omega)⟩⟩
end
end Go.Proofs.YtlnhppgfhkkidaaGreat
namespace Go.Proofs.YtlnhppgfhkkidaaGreat
set_option linter.unusedSimpArgs false
set_option linter.unusedVariables false
open Go.RowKit

def HouV.sync (S : HouV) : HouV := { S with sd := S.sb.length, fd := S.fb.length }
theorem HInv.sync {S : HouV} (h : HInv S) : HInv S.sync := ⟨h.v, h.id, h.srt, h.frm, h.ok, h.nms, h.len, h.sbl, h.fbl⟩
def recOne (A : HouV) : Option NoteV → Option HouV
  | none => none
  | some n => if (hearP A [n]).2.2 = 0 ∧ (hearP A [n]).2.1 = 1 then some (hearP A [n]).1 else none
def recov (A : HouV) : List (List UInt8) → HouV
  | [] => A
  | b :: bs => ((recOne A (decP9 A.f b)).map (fun A' => recov A' bs)).getD A
def CrP (S : HouV) (stock foil flip : Int) (S' : HouV) (code : Int) : Prop :=
  (¬ CrashOk S.sb S.fb S.sd S.fd stock foil flip ∧ S' = S ∧ code = 1) ∨
  (CrashOk S.sb S.fb S.sd S.fd stock foil flip ∧ S' = (recov (HouV.new S.f S.id) (joinOf (crashS S.sb S.sd stock.toNat flip) (crashF S.fb S.fd stock.toNat foil.toNat flip))).sync ∧ code = 0)
theorem decP9_enc {f : FrV} (hv : f.valid = true) {n : NoteV} (h : formedB f n = true) : decP9 f (encN n) = some n := by
  unfold decP9
  rw [decode_of_enc hv n h]
  simp only
  rw [if_pos ⟨by unfold checkN; rw [if_pos hv, if_pos h], trivial⟩]
theorem decP9_ok {f : FrV} {b : List UInt8} {n : NoteV} (h : decP9 f b = some n) : checkN f n = 0 ∧ encN n = b := by
  unfold decP9 at h
  split at h
  · split at h
    · rename_i h2
      cases h
      exact h2
    · cases h
  · cases h
theorem insG_last (lt : NoteV → NoteV → Bool) {n : NoteV} : ∀ {l : List NoteV}, (∀ y ∈ l, lt y n = true) → insG lt n l = l ++ [n]
  | [], _ => rfl
  | y :: ys, h => by
    rw [insG, if_pos (h y (List.mem_cons_self ..)), insG_last lt (fun z hz => h z (List.mem_cons_of_mem _ hz))]
    rfl
structure PwOwn (S : HouV) : Prop where
  inv : HInv S
  lad : S.l = S.ad
  cnt : S.c S.id = S.ad.length
  nam : ∀ (i : Nat) (x : NoteV), S.ad[i]? = some x → x.house = S.id ∧ x.num = (i : Int) + 1
  sb : S.sb = csOf (S.ad.map encN)
  fb : S.fb = cfOf (S.ad.map encN)
theorem PwOwn.new {f : FrV} {id : Int} (hv : f.valid = true) (h : 1 ≤ id ∧ id ≤ 8) : PwOwn (HouV.new f id) :=
  ⟨HInv.new hv h, rfl, rfl, fun i x hx => by simp [HouV.new] at hx, rfl, rfl⟩
theorem PwOwn.add {S : HouV} {n : NoteV} (h : PwOwn S) (hf : formedB S.f n = true) (hok : n.Ok) (hh : n.house = S.id) (hn : n.num = (S.c S.id : Int) + 1) : PwOwn (S.add n) := by
  have hi := (h.inv.add hf hok (by rw [hh]; exact hn)).1
  have hlt : ∀ y ∈ S.l, nmLt (nmOf y) (nmOf n) = true := fun y hy => by
    rw [h.lad] at hy
    obtain ⟨i, hi⟩ := List.getElem?_of_mem hy
    obtain ⟨h1, h2⟩ := h.nam i y hi
    have h3 := (List.getElem?_eq_some_iff.1 hi).1
    rw [nmLt_iff]
    refine .inr ⟨?_, ?_⟩
    · show y.house = n.house
      rw [h1, hh]
    · show y.num < n.num
      rw [h2, hn, h.cnt]
      omega
  have hl : insN S.l n = S.l ++ [n] := insG_last _ hlt
  refine ⟨hi, ?_, ?_, fun i x hx => ?_, ?_, ?_⟩
  · show insN S.l n = S.ad ++ [n]
    rw [hl, h.lad]
  · show bump S.c n.house S.id = (S.ad ++ [n]).length
    rw [hh, List.length_append, ← h.cnt]
    simp [bump]
  · have hx2 : (S.ad ++ [n])[i]? = some x := hx
    rcases Nat.lt_or_ge i S.ad.length with hi | hi
    · rw [List.getElem?_append_left hi] at hx2
      exact h.nam i x hx2
    · rw [List.getElem?_append_right hi] at hx2
      have h0 : i - S.ad.length = 0 := by
        have := (List.getElem?_eq_some_iff.1 hx2).1
        simp at this
        omega
      rw [h0] at hx2
      simp only [List.getElem?_cons_zero, Option.some.injEq] at hx2
      subst hx2
      refine ⟨hh, ?_⟩
      rw [hn, h.cnt]
      omega
  · show S.sb ++ stockOf (encN n) = csOf ((S.ad ++ [n]).map encN)
    rw [List.map_append, csOf_append, ← h.sb]
    simp [csOf]
  · show S.fb ++ foilOf (encN n) = cfOf ((S.ad ++ [n]).map encN)
    rw [List.map_append, cfOf_append, ← h.fb]
    simp [cfOf]
def OwnL (f : FrV) (id : Int) : Nat → List NoteV → Prop
  | _, [] => True
  | k, n :: ns => (formedB f n = true ∧ n.Ok ∧ n.house = id ∧ n.num = (k : Int) + 1) ∧ OwnL f id (k + 1) ns
theorem OwnL.of {f : FrV} {id : Int} : ∀ (l : List NoteV) (k : Nat), (∀ x ∈ l, formedB f x = true ∧ x.Ok) → (∀ i x, l[i]? = some x → x.house = id ∧ x.num = ((k + i : Nat) : Int) + 1) → OwnL f id k l
  | [], _, _, _ => trivial
  | n :: ns, k, h1, h2 => ⟨⟨(h1 n (List.mem_cons_self ..)).1, (h1 n (List.mem_cons_self ..)).2, (h2 0 n rfl).1, (h2 0 n rfl).2⟩, OwnL.of ns (k + 1) (fun x hx => h1 x (List.mem_cons_of_mem _ hx)) (fun i x hx => by
    have := h2 (i + 1) x (by simpa using hx)
    rwa [show k + (i + 1) = k + 1 + i by omega] at this)⟩
theorem hear_one {A : HouV} {n : NoteV} (h : PwOwn A) (hf : formedB A.f n = true) (hok : n.Ok) (hh : n.house = A.id) (hn : n.num = (A.c A.id : Int) + 1) : hearP A [n] = (A.add n, 1, 0) := by
  have hb : [n].any (fun n => !decide (checkN A.f n = 0)) = false := by
    have : checkN A.f n = 0 := by unfold checkN; rw [if_pos h.inv.v, if_pos hf]
    simp [this]
  have hfree := (h.inv.add hf hok (by rw [hh]; exact hn)).2
  have hg : hearGo A.l [] A.c [n] = some ([n], bump A.c n.house) := by
    rw [hearGo, List.append_nil, knownBy_no hfree]
    simp only
    rw [if_neg (by rw [hh]; omega)]
    rfl
  rw [hearP_ok hb hg]
  rfl
theorem adds_cons (A : HouV) (n : NoteV) (ns : List NoteV) : A.adds (n :: ns) = (A.add n).adds ns := by unfold HouV.adds; rw [List.foldl_cons]
theorem recov_cons {A A' : HouV} {n : NoteV} {b : List UInt8} {bs : List (List UInt8)} (h1 : decP9 A.f b = some n) (h2 : hearP A [n] = (A', 1, 0)) : recov A (b :: bs) = recov A' bs := by
  have e : recOne A (some n) = some A' := by
    show (if (hearP A [n]).2.2 = 0 ∧ (hearP A [n]).2.1 = 1 then some (hearP A [n]).1 else none) = some A'
    rw [h2]
    exact if_pos ⟨rfl, rfl⟩
  rw [recov, h1, e]
  rfl
theorem recov_stop {A : HouV} {b : List UInt8} {bs : List (List UInt8)} (h : recOne A (decP9 A.f b) = none) : recov A (b :: bs) = A := by
  rw [recov, h]
  rfl
theorem recov_adds {f : FrV} {id : Int} : ∀ (l : List NoteV) (A : HouV), PwOwn A → A.f = f → A.id = id → OwnL f id A.ad.length l → recov A (l.map encN) = A.adds l ∧ PwOwn (A.adds l)
  | [], A, h, _, _, _ => ⟨rfl, h⟩
  | n :: ns, A, h, hf, hid, ho => by
    have h1 : formedB A.f n = true := by rw [hf]; exact ho.1.1
    have h2 := ho.1.2.1
    have h3 : n.house = A.id := by rw [hid]; exact ho.1.2.2.1
    have hn : n.num = (A.c A.id : Int) + 1 := by rw [h.cnt]; exact ho.1.2.2.2
    have e := hear_one h h1 h2 h3 hn
    have hp := h.add h1 h2 h3 hn
    have e2 : (A.add n).ad.length = A.ad.length + 1 := by
      show (A.ad ++ [n]).length = _
      rw [List.length_append, List.length_singleton]
    have h5 := ho.2
    rw [← e2] at h5
    have ih := recov_adds ns (A.add n) hp hf hid h5
    rw [adds_cons, List.map_cons, recov_cons (decP9_enc h.inv.v h1) e]
    exact ih
theorem adds_ad : ∀ (l : List NoteV) (A : HouV), (A.adds l).ad = A.ad ++ l
  | [], A => by simp [HouV.adds]
  | n :: ns, A => by
    show ((A.add n).adds ns).ad = _
    rw [adds_ad ns (A.add n)]
    show (A.ad ++ [n]) ++ ns = _
    simp
structure PwSt (s : Nat) (S : HouV) : Prop where
  own : PwOwn S
  le : s ≤ S.ad.length
  sd : S.sd = (csOf ((S.ad.take s).map encN)).length
  fd : S.fd = (cfOf ((S.ad.take s).map encN)).length
theorem PwSt.new {f : FrV} {id : Int} (hv : f.valid = true) (h : 1 ≤ id ∧ id ≤ 8) : PwSt 0 (HouV.new f id) := ⟨PwOwn.new hv h, Nat.zero_le _, rfl, rfl⟩
theorem PwSt.sync {s : Nat} {S : HouV} (h : PwSt s S) : PwSt S.ad.length S.sync :=
  ⟨⟨h.own.inv.sync, h.own.lad, h.own.cnt, h.own.nam, h.own.sb, h.own.fb⟩, Nat.le_refl _, by
    show S.sb.length = (csOf ((S.ad.take S.ad.length).map encN)).length
    rw [List.take_length, h.own.sb], by
    show S.fb.length = (cfOf ((S.ad.take S.ad.length).map encN)).length
    rw [List.take_length, h.own.fb]⟩
theorem PwSt.add {s : Nat} {S : HouV} {n : NoteV} (h : PwSt s S) (hf : formedB S.f n = true) (hok : n.Ok) (hh : n.house = S.id) (hn : n.num = (S.c S.id : Int) + 1) : PwSt s (S.add n) := by
  have e : (S.add n).ad.take s = S.ad.take s := by
    show (S.ad ++ [n]).take s = _
    rw [List.take_append_of_le_length h.le]
  exact ⟨h.own.add hf hok hh hn, by show s ≤ (S.ad ++ [n]).length; rw [List.length_append]; have := h.le; omega, by rw [e]; exact h.sd, by rw [e]; exact h.fd⟩
theorem PwSt.do {s : Nat} {S : HouV} (h : PwSt s S) {n : NoteV} (hok : n.Ok) (hm : ∀ m, formedB S.f (doN S n) = true → m = doN S n → m.Ok) : PwSt s (doP S n).1 := by
  unfold doP
  split
  · exact h
  · split
    · exact h
    · rename_i h2
      split
      · exact h
      · have hf : formedB S.f (doN S n) = true := by
          have h3 : checkN S.f (doN S n) = 0 := by
            by_cases h3 : checkN S.f (doN S n) = 0
            · exact h3
            · exact absurd h3 (by simpa using h2)
          unfold checkN at h3
          rw [if_pos h.own.inv.v] at h3
          by_cases h4 : formedB S.f (doN S n) = true
          · exact h4
          · rw [if_neg h4] at h3; cases h3
        exact h.add hf (hm _ hf rfl) rfl rfl
theorem doP_len (S : HouV) (n : NoteV) : (doP S n).1.l.length ≤ S.l.length + 1 ∧ S.l.length ≤ (doP S n).1.l.length := by
  unfold doP
  split
  · exact ⟨Nat.le_succ _, Nat.le_refl _⟩
  · split
    · exact ⟨Nat.le_succ _, Nat.le_refl _⟩
    · split
      · exact ⟨Nat.le_succ _, Nat.le_refl _⟩
      · show (insN S.l (doN S n)).length ≤ _ ∧ _
        rw [insN, (insG_perm _ _ S.l).length_eq, List.length_cons]
        refine ⟨Nat.le_refl _, ?_⟩
        show _ ≤ (insN S.l (doN S n)).length
        rw [insN, (insG_perm _ _ S.l).length_eq, List.length_cons]
        exact Nat.le_succ _
theorem PwSt.crash {s : Nat} {S S' : HouV} {stock foil flip code : Int} (h : PwSt s S) (hc : CrP S stock foil flip S' code) :
    (code = 1 ∧ S' = S) ∨ (code = 0 ∧ ∃ k, s ≤ k ∧ k ≤ S.l.length ∧ S'.l = S.l.take k ∧ PwSt S'.ad.length S') := by
  rcases hc with ⟨_, h1, h2⟩ | ⟨hc, h1, h2⟩
  · exact .inl ⟨h2, h1⟩
  refine .inr ⟨h2, ?_⟩
  have hs : S.ad = S.ad.take s ++ S.ad.drop s := (List.take_append_drop s S.ad).symm
  have e1 : S.ad.map encN = (S.ad.take s).map encN ++ (S.ad.drop s).map encN := by rw [← List.map_append, List.take_append_drop]
  have hcs : 0 ≤ stock ∧ 0 ≤ foil := ⟨hc.1, hc.2.2.1⟩
  obtain ⟨st, rfl⟩ := Int.eq_ofNat_of_zero_le hcs.1
  obtain ⟨fo, rfl⟩ := Int.eq_ofNat_of_zero_le hcs.2
  have hfm : ∀ x ∈ S.ad, formedB S.f x = true ∧ x.Ok := fun x hx => by
    rw [← h.own.lad] at hx
    exact ⟨h.own.inv.frm x hx, h.own.inv.ok x hx⟩
  have hl : ∀ x ∈ (S.ad.take s).map encN ++ (S.ad.drop s).map encN, x.length ≤ 8192 := fun x hx => by
    rw [← e1] at hx
    obtain ⟨y, hy, rfl⟩ := List.mem_map.1 hx
    have := formed_enc h.own.inv.v (hfm y hy).1
    omega
  rw [h.own.sb, h.own.fb, h.sd, h.fd, e1] at hc
  obtain ⟨k, hk, e⟩ := crash_tells _ _ hl st fo flip hc
  simp only [Int.toNat_natCast] at h1
  rw [h.own.sb, h.own.fb, h.sd, h.fd, e1, e, ← List.map_take, ← List.map_append] at h1
  have e2 : S.ad.take s ++ (S.ad.drop s).take k = S.ad.take (s + k) := by rw [List.take_add]
  rw [e2] at h1
  have hol : OwnL S.f S.id (HouV.new S.f S.id).ad.length (S.ad.take (s + k)) := OwnL.of _ _ (fun x hx => hfm x (List.mem_of_mem_take hx)) (fun i x hx => by
    rw [List.getElem?_take] at hx
    split at hx
    · have := h.own.nam i x hx
      have e0 : (HouV.new S.f S.id).ad.length = 0 := rfl
      rw [e0, Nat.zero_add]
      exact this
    · cases hx)
  obtain ⟨r1, r2⟩ := recov_adds (S.ad.take (s + k)) (HouV.new S.f S.id) (PwOwn.new h.own.inv.v h.own.inv.id) rfl rfl hol
  rw [r1] at h1
  have hsk : s + k ≤ S.ad.length := by
    rw [List.length_map, List.length_drop] at hk
    have := h.le
    omega
  have e3 : ((HouV.new S.f S.id).adds (S.ad.take (s + k))).ad = S.ad.take (s + k) := by rw [adds_ad]; rfl
  refine ⟨s + k, Nat.le_add_right _ _, by rw [h.own.lad]; exact hsk, ?_, ?_⟩
  · rw [h1]
    show ((HouV.new S.f S.id).adds (S.ad.take (s + k))).l = _
    rw [r2.lad, e3, h.own.lad]
  · have r3 : PwSt 0 ((HouV.new S.f S.id).adds (S.ad.take (s + k))) ∨ True := .inr trivial
    rw [h1]
    exact ⟨⟨r2.inv.sync, r2.lad, r2.cnt, r2.nam, r2.sb, r2.fb⟩, Nat.le_refl _, by
      show ((HouV.new S.f S.id).adds (S.ad.take (s + k))).sb.length = (csOf ((((HouV.new S.f S.id).adds (S.ad.take (s + k))).ad.take ((HouV.new S.f S.id).adds (S.ad.take (s + k))).ad.length).map encN)).length
      rw [List.take_length, r2.sb], by
      show ((HouV.new S.f S.id).adds (S.ad.take (s + k))).fb.length = (cfOf ((((HouV.new S.f S.id).adds (S.ad.take (s + k))).ad.take ((HouV.new S.f S.id).adds (S.ad.take (s + k))).ad.length).map encN)).length
      rw [List.take_length, r2.fb]⟩
theorem PwSt.again {S S' : HouV} {code : Int} (h : PwSt S.ad.length S) (hc : CrP S 0 0 (-1) S' code) : code = 0 ∧ S'.l = S.l ∧ PwSt S'.ad.length S' := by
  have hok : CrashOk S.sb S.fb S.sd S.fd 0 0 (-1) := by
    have h1 := h.sd
    have h2 := h.fd
    rw [List.take_length, ← h.own.sb] at h1
    rw [List.take_length, ← h.own.fb] at h2
    unfold CrashOk
    omega
  rcases h.crash hc with ⟨h1, h2⟩ | ⟨h1, k, hk1, hk2, h3, h4⟩
  · rcases hc with ⟨h5, _⟩ | ⟨_, _, h5⟩
    · exact absurd hok h5
    · omega
  · refine ⟨h1, ?_, h4⟩
    rw [h.own.lad] at hk2
    have : k = S.ad.length := by omega
    rw [h3, this, h.own.lad, List.take_length]
end Go.Proofs.YtlnhppgfhkkidaaGreat
namespace Go.Proofs.YtlnhppgfhkkidaaGreat
set_option linter.unusedSimpArgs false
open Go.RowKit

def Kept (lo hi : Nat) (W : World) (a : Option Addr) (n c : Nat) (zs : List LN) : Prop := hi ≤ W.heap.size ∧ ∀ W2, Same (fun k => k < lo ∨ hi ≤ k) W W2 → RdLs W2 a n c zs
theorem Kept.rd {lo hi : Nat} {W : World} {a : Option Addr} {n c : Nat} {zs : List LN} (h : Kept lo hi W a n c zs) : RdLs W a n c zs := h.2 W (Same.refl _ _)
theorem Kept.step {X : Nat → Prop} {lo hi : Nat} {W W' : World} {a : Option Addr} {n c : Nat} {zs : List LN} (h : Kept lo hi W a n c zs) (hs : Same X W W') (hx : ∀ k, X k → k < lo ∨ hi ≤ k) : Kept lo hi W' a n c zs :=
  ⟨Nat.le_trans h.1 hs.size, fun W2 h2 => h.2 W2 ((hs.weaken hx).trans h2)⟩
theorem Kept.below {lo hi : Nat} {W W' : World} {a : Option Addr} {n c : Nat} {zs : List LN} (h : Kept lo hi W a n c zs) (hb : Below W.heap.size W W') : Kept lo hi W' a n c zs := h.step (X := fun _ => False) (Same.of_below hb) (fun _ h => h.elim)
theorem rdLs_of {W : World} {a : Option Addr} {n c : Nat} {xs : List LN} (h : RdA W 19 a n c (lnCells xs)) (hs : ∀ x ∈ xs, x.ok W) : RdLs W a n c xs := by
  have hl : xs.length = n := by have := h.len; rw [lnCells_len] at this; omega
  refine ⟨hl, h.2.1, h.2.2.1, ?_⟩
  rcases h.2.2.2 with h0 | ⟨b, off, rfl, h4⟩
  · exact .inl h0
  · refine .inr ⟨b, off, rfl, fun i x hx => ?_⟩
    have hi := (List.getElem?_eq_some_iff.1 hx).1
    obtain ⟨b', off', e, hat⟩ := ln_at h (by omega)
    cases e
    exact ⟨hat i x hx, hs x (List.mem_of_getElem? hx)⟩
theorem MgAt.kept {V W : World} {a : Option Addr} {c n : Nat} {ys : List LN} (h : MgAt V W a c n ys) : Kept V.heap.size W.heap.size W a n c ys :=
  ⟨Nat.le_refl _, fun W2 hs => rdLs_of (RdA.of_own (own_keep h.own hs (fun b hb hx => by have := h.own.lt b hb; omega)))
    (fun y hy => RdA.of_own (own_keep (h.str y hy) hs (fun b hb hx => by have := (h.str y hy).lt b hb; omega)))⟩
def MergeRet2 (f : FrV) (l m : List NoteV) (w : World) (e : Ending) (W : World) : Prop :=
  (e = .returned (.tuple #[.slice none 0 0, .int .i64 (mergeE f l m)]) ∧ mergeE f l m ≠ 0) ∨
  ∃ (ua : Option Addr) (un uc : Nat) (zs : List LN), e = .returned (.tuple #[.slice ua un uc, .int .i64 0]) ∧ mergeE f l m = 0 ∧ MgAt w W ua uc un zs ∧ IsU l m (zs.map LN.n)
theorem MergeRet2.bad {f : FrV} {l m : List NoteV} {w W : World} {e : Ending} (he : e = .returned (.tuple #[.slice none 0 0, .int .i64 (mergeE f l m)])) (h : mergeE f l m ≠ 0) : MergeRet2 f l m w e W := .inl ⟨he, h⟩
end Go.Proofs.YtlnhppgfhkkidaaGreat
namespace Go.Proofs.YtlnhppgfhkkidaaGreat
set_option linter.unusedSimpArgs false
open Go.RowKit

theorem validFrame2_any (r s d : Int) (w : World) : Calls Tryz.prog 52 #[.agg #[.int .i64 r, .int .i64 s, .int .i64 d]] w fun e w' => e = .returned (.bool (FrV.valid ⟨r, s, d⟩)) ∧ Below w.heap.size w w' := by
  have hb := (Below.refl w.heap.size w).alloc (Nat.le_refl _) (.cells #[.int .i64 r, .int .i64 s, .int .i64 d] 23)
  have hv : FrV.valid ⟨r, s, d⟩ = (decide (1 ≤ r) && (decide (r ≤ 24) && (decide (2 ≤ s) && (decide (s ≤ 96) && (decide (1 ≤ d) && decide (d ≤ s)))))) := by
    simp only [FrV.valid, inB]
    grind
  rw [hv]
  clear hv
  cases h0 : decide (1 ≤ r)
  · go_enter Tryz.func52, Tryz.ntmps52
    go_wp2_with fail
    go_ret
    exact ⟨rfl, hb⟩
  · cases h1 : decide (r ≤ 24)
    · go_enter Tryz.func52, Tryz.ntmps52
      go_wp2_with fail
      go_ret
      exact ⟨rfl, hb⟩
    · cases h2 : decide (2 ≤ s)
      · go_enter Tryz.func52, Tryz.ntmps52
        go_wp2_with fail
        go_ret
        exact ⟨rfl, hb⟩
      · cases h3 : decide (s ≤ 96)
        · go_enter Tryz.func52, Tryz.ntmps52
          go_wp2_with fail
          go_ret
          exact ⟨rfl, hb⟩
        · cases h4 : decide (1 ≤ d)
          · go_enter Tryz.func52, Tryz.ntmps52
            go_wp2_with fail
            go_ret
            exact ⟨rfl, hb⟩
          · cases h5 : decide (d ≤ s)
            · go_enter Tryz.func52, Tryz.ntmps52
              go_wp2_with fail
              go_ret
              exact ⟨rfl, hb⟩
            · go_enter Tryz.func52, Tryz.ntmps52
              go_wp2_with fail
              go_ret
              exact ⟨rfl, hb⟩

theorem cut4 {P T : Nat → Nat → Nat → World → Prop} {G : Prop} (h1 : (∀ a b c W, P a b c W → T a b c W) → G) (h2 : ∀ a b c W, P a b c W → T a b c W) : G := h1 h2
set_option maxHeartbeats 4000000 in
set_option maxRecDepth 100000 in
theorem hnotes2_any (p mb sp : Nat) (G : Nm → Option LN) (SF : Nat → Prop) (S : HouV) (w : World) (hh : HouAt w p mb sp G SF S) (hi : HInv S) (hlen : S.l.length ≤ 400) :
    Calls Tryz.prog 14 #[.pointer (some ⟨p, 0, none⟩)] w fun e w' => (∃ a un c zs, e = .returned (.slice a un c) ∧ MgAt w w' a c un zs ∧ zs.map LN.n = S.l) ∧ Below w.heap.size w w' := by
  have LI := Lib.hid (list_any mb S.l.length G w hh.map (by omega) (hh.gok hi))
  have HH := Lib.hid hh
  have HI := Lib.hid hi
  have c4 := cell_of hh.blk 4 (.map (some mb)) rfl
  have MD := Lib.hid (made_any w p mb sp S.f S.id S.c hh.blk)
  clear hh hi hlen
  go_enter Tryz.func14, Tryz.ntmps14
  go_wp2_with fail
  refine MD.out.mono ?_
  rintro e w1 ⟨rfl, rfl⟩
  go_wp2_with fail
  refine LI.out.mono ?_
  rintro e w2 ⟨⟨a, un, c, zs, ks, rfl, h1, h2, h3, h4, h5, h6⟩, b2⟩
  have M := Lib.hid h1
  have E : Hid (zs.map LN.n = S.l) := Lib.hid (h2.trans (HH.out.list HI.out h3 h4 h5))
  have B := Lib.hid b2
  clear h1 h2 h3 h4 h5 h6 b2 c4
  go_wp2_with fail
  go_ret
  exact ⟨⟨a, un, c, zs, rfl, M.out, E.out⟩, B.out⟩
end Go.Proofs.YtlnhppgfhkkidaaGreat
namespace Go.Proofs.YtlnhppgfhkkidaaGreat
set_option linter.unusedSimpArgs false
open Go.RowKit

def NewRet9 (f : FrV) (id : Int) (w : World) (e : Ending) (W : World) : Prop :=
  (¬ (f.valid = true ∧ 1 ≤ id ∧ id ≤ 8) ∧ e = .returned (.tuple #[.pointer none, .int .i64 1])) ∨
  (f.valid = true ∧ (1 ≤ id ∧ id ≤ 8) ∧ ∃ p mb sp, e = .returned (.tuple #[.pointer (some ⟨p, 0, none⟩), .int .i64 0]) ∧ HouAt W p mb sp (fun _ => none) (fun k => k = sp) (HouV.new f id) ∧ ∀ k, houF p mb (fun _ => none) (fun k => k = sp) k → w.heap.size ≤ k)
set_option maxHeartbeats 8000000 in
set_option maxRecDepth 100000 in
theorem newHouse8_any (f : FrV) (id : Int) (w : World) (hid : 1 ≤ id ∧ id ≤ 8) :
    Calls Tryz.prog 12 #[f.val, .int .i64 id] w fun e w' => NewRet9 f id w e w' ∧ Below w.heap.size w w' := by
  have VF := Lib.hid (fun W => validFrame2_any f.rings f.sectors f.wide W)
  have hvl : f.val = .agg #[.int .i64 f.rings, .int .i64 f.sectors, .int .i64 f.wide] := rfl
  have HID := Lib.hid (show 1 ≤ id ∧ id ≤ 8 by omega)
  rw [hvl]
  clear hvl
  have B0 := Lib.hid ((Below.refl w.heap.size w).alloc (Nat.le_refl _) (.cells #[.int .i64 f.rings, .int .i64 f.sectors, .int .i64 f.wide] 23))
  have F0 := Lib.hid (heap_last w (.cells #[.int .i64 f.rings, .int .i64 f.sectors, .int .i64 f.wide] 23))
  have q1 : decide (id < 1) = false := by simp; omega
  have q2 : decide (8 < id) = false := by simp; omega
  clear hid
  go_enter Tryz.func12, Tryz.ntmps12
  go_upto_region 1 with fail
  obtain ⟨p2, hp2⟩ : ∃ q, Hid (w.heap.size = q) := ⟨_, Lib.hid rfl⟩
  rw [hp2.out] at F0
  rw [hp2.out]
  generalize w.alloc (.cells #[.int .i64 f.rings, .int .i64 f.sectors, .int .i64 f.wide] 23) = w0 at *
  have c0 := cell_of F0.out 0 (.int .i64 f.rings) rfl
  have c1 := cell_of F0.out 1 (.int .i64 f.sectors) rfl
  have c2 := cell_of F0.out 2 (.int .i64 f.wide) rfl
  go_wp2_with fail
  refine (VF.out w0).mono ?_
  rintro e w1 ⟨rfl, b1⟩
  have B1 := Lib.hid (B0.out.trans (b1.mono B0.out.size))
  have F1 := Lib.hid (below_blk b1 F0.out)
  clear b1 c0 c1 c2 q1 q2
  cases hv : FrV.valid ⟨f.rings, f.sectors, f.wide⟩
  · have HV : Hid (¬ (f.valid = true ∧ 1 ≤ id ∧ id ≤ 8)) := Lib.hid (fun h => by
      have h1 : FrV.valid ⟨f.rings, f.sectors, f.wide⟩ = true := h.1
      rw [hv] at h1
      cases h1)
    clear hv
    go_wp2_with fail
    go_returns
    exact ⟨.inl ⟨HV.out, rfl⟩, B1.out⟩
  have HV : Hid (f.valid = true) := Lib.hid hv
  clear hv
  have hmm := @run_makeMap Tryz.prog
  go_upto_region 3 with fail
  apply cut4 (P := fun mb sp p W => Hid (Below w1.heap.size w1 W ∧ HouAt W p mb sp (fun _ => none) (fun k => k = sp) (HouV.new f id) ∧ w.heap.size ≤ mb ∧ w.heap.size ≤ sp ∧ w.heap.size ≤ p))
  · intro REST
    refine wp_region_noPanic ?_
    refine wp_region_held_drew (S := fun w' => Below w1.heap.size w1 w') (by kernel_rfl) (show Below w1.heap.size w1 w1.drew from (Below.refl _ _).drew) (fun hHeld => ?_)
    have HB0 := Lib.hid (show Below w1.heap.size w1 w1.drew from (Below.refl _ _).drew)
    generalize w1.drew = V0 at *
    refine wpAnyH_take (i := 0) (v := .agg #[.int .i64 f.rings, .int .i64 f.sectors, .int .i64 f.wide]) rfl (by kernel_rfl) (by kernel_rfl) (by kernel_rfl) (fun _ _ _ h => h) (yields_row (by kernel_rfl) 23 _ rfl p2 rfl _ 23 (0, 0) _ (fun W h => below_blk h F1.out) Tryz.underlying23 rfl (by kernel_rfl)) (by assumption) ?_
    try simp only [Act.put, lq0, lq1, lq2, lq3, lq4, lq5]
    refine wpAnyH_take (i := 1) (v := .int .i64 id) rfl (by kernel_rfl) (by kernel_rfl) (by kernel_rfl) (fun _ _ _ h => h) (Or.inl ⟨by kernel_rfl, by intro W _; go_simp⟩) (by assumption) ?_
    try simp only [Act.put, lq0, lq1, lq2, lq3, lq4, lq5]
    refine wpAnyH_ready (rs := [2, 3]) (by kernel_rfl) (by simp) ?_
    refine AllReadyH.cons rfl (fun K hK => ?_) ?_
    · have bz : Below V0.heap.size V0 (V0.alloc (.map #[] 0)) := (Below.refl _ _).alloc (Nat.le_refl _) _
      have HB1 := Lib.hid (HB0.out.trans (bz.mono HB0.out.size))
      have HM1 := Lib.hid (MapF.made (enc := LN.val) V0)
      have KGE : Hid (w.heap.size ≤ V0.heap.size) := Lib.hid (Nat.le_trans B1.out.size HB0.out.size)
      clear bz
      go_simp
      obtain ⟨mb, hmb⟩ : ∃ z, Hid (V0.heap.size = z) := ⟨_, Lib.hid rfl⟩
      rw [hmb.out] at HM1 KGE
      rw [hmb.out]
      generalize V0.alloc (.map #[] 0) = V1 at *
      refine hK.out _ _ HB1.out (fun hHeld => ?_)
      clear hK K
      try simp only [Act.put, lq0, lq1, lq2, lq3, lq4, lq5]
      refine wpAnyH_ready (rs := [3]) (by kernel_rfl) (by simp) ?_
      refine AllReadyH.cons rfl (fun K hK => ?_) AllReadyH.nil
      go_simp
      go_at_call 48
      refine (newStick_any V1).mono ?_
      rintro e V2 ⟨rfl, hk, b1⟩
      have SGE : Hid (w.heap.size ≤ V1.heap.size) := Lib.hid (Nat.le_trans B1.out.size HB1.out.size)
      obtain ⟨sp, hsp⟩ : ∃ z, Hid (V1.heap.size = z) := ⟨_, Lib.hid rfl⟩
      have HB2 := Lib.hid (HB1.out.trans (b1.mono HB1.out.size))
      have HM2 := Lib.hid (HM1.out.below b1)
      clear b1
      rw [hsp.out] at hk SGE
      rw [hsp.out]
      have HK2 := Lib.hid hk
      clear hk
      dsimp only
      refine hK.out _ _ HB2.out (fun hHeld => ?_)
      clear hK K
      try simp only [Act.put, lq0, lq1, lq2, lq3, lq4, lq5]
      refine wpAnyH_take (i := 4) (v := .agg (houA f id mb (fun _ => 0) sp)) rfl (by kernel_rfl) (by kernel_rfl) (by kernel_rfl) (fun _ _ _ h => h) (Or.inl ⟨by kernel_rfl, by intro W _; kernel_rfl⟩) (by assumption) ?_
      try simp only [Act.put, lq0, lq1, lq2, lq3, lq4, lq5]
      refine wpAnyH_ready (rs := [5]) (by kernel_rfl) (by simp) ?_
      refine AllReadyH.cons rfl (fun K hK => ?_) AllReadyH.nil
      have bz : Below V2.heap.size V2 (V2.alloc (.cells (houA f id mb (fun _ => 0) sp) 109)) := (Below.refl _ _).alloc (Nat.le_refl _) _
      have HB3 := Lib.hid (HB2.out.trans (bz.mono HB2.out.size))
      have HM3 := Lib.hid (HM2.out.below bz)
      have HK3 := Lib.hid (HK2.out.same (S := fun _ => False) (Same.of_below bz) (fun _ h => h.elim))
      have HP3 := Lib.hid (heap_last V2 (.cells (houA f id mb (fun _ => 0) sp) 109))
      have PGE : Hid (w.heap.size ≤ V2.heap.size) := Lib.hid (Nat.le_trans B1.out.size HB2.out.size)
      clear bz
      go_simp
      obtain ⟨p, hp⟩ : ∃ z, Hid (V2.heap.size = z) := ⟨_, Lib.hid rfl⟩
      rw [hp.out] at HP3 PGE
      rw [hp.out]
      generalize V2.alloc (.cells (houA f id mb (fun _ => 0) sp) 109) = V3 at *
      refine hK.out _ _ HB3.out (fun hHeld => ?_)
      clear hK K
      try simp only [Act.put, lq0, lq1, lq2, lq3, lq4, lq5]
      refine wpAnyH_take (i := 6) (v := .pointer (some ⟨p, 0, none⟩)) rfl (by kernel_rfl) (by kernel_rfl) (by kernel_rfl) (fun _ _ _ h => h) (Or.inl ⟨by kernel_rfl, by intro W _; go_simp⟩) (by assumption) ?_
      try simp only [Act.put, lq0, lq1, lq2, lq3, lq4, lq5]
      refine wpAnyH_take (i := 7) (oi := { dst := some 5, op := .assign (.const (Value.int IntKind.i64 0)), type := _, pos := _, after := _, guard := none }) (v := .int .i64 0) rfl (by kernel_rfl) (by kernel_rfl) (by kernel_rfl) (fun _ _ _ h => h) (Or.inl ⟨by kernel_rfl, by intro W _; go_simp⟩) (by assumption) ?_
      try simp only [Act.put, lq0, lq1, lq2, lq3, lq4, lq5]
      refine wpAnyH_done (by kernel_rfl) ?_ _
      refine NoPanic.normal ?_
      exact REST mb sp p V3 (Lib.hid ⟨HB3.out, ⟨HP3.out, HM3.out, (fun k x h => by cases h), (fun n h => by cases h), (fun k x h => by cases h), HK3.out⟩, KGE.out, SGE.out, PGE.out⟩)
    refine AllReadyH.cons rfl (fun K hK => ?_) AllReadyH.nil
    go_simp
    go_at_call 48
    refine (newStick_any V0).mono ?_
    rintro e V1 ⟨rfl, hk, b1⟩
    have SGE : Hid (w.heap.size ≤ V0.heap.size) := Lib.hid (Nat.le_trans B1.out.size HB0.out.size)
    obtain ⟨sp, hsp⟩ : ∃ z, Hid (V0.heap.size = z) := ⟨_, Lib.hid rfl⟩
    have HB1 := Lib.hid (HB0.out.trans (b1.mono HB0.out.size))
    clear b1
    rw [hsp.out] at hk SGE
    rw [hsp.out]
    have HK1 := Lib.hid hk
    clear hk
    dsimp only
    refine hK.out _ _ HB1.out (fun hHeld => ?_)
    clear hK K
    try simp only [Act.put, lq0, lq1, lq2, lq3, lq4, lq5]
    refine wpAnyH_ready (rs := [2]) (by kernel_rfl) (by simp) ?_
    refine AllReadyH.cons rfl (fun K hK => ?_) AllReadyH.nil
    have bz : Below V1.heap.size V1 (V1.alloc (.map #[] 0)) := (Below.refl _ _).alloc (Nat.le_refl _) _
    have HB2 := Lib.hid (HB1.out.trans (bz.mono HB1.out.size))
    have HM2 := Lib.hid (MapF.made (enc := LN.val) V1)
    have KGE : Hid (w.heap.size ≤ V1.heap.size) := Lib.hid (Nat.le_trans B1.out.size HB1.out.size)
    have HK2 := Lib.hid (HK1.out.same (S := fun _ => False) (Same.of_below bz) (fun _ h => h.elim))
    clear bz
    go_simp
    obtain ⟨mb, hmb⟩ : ∃ z, Hid (V1.heap.size = z) := ⟨_, Lib.hid rfl⟩
    rw [hmb.out] at HM2 KGE
    rw [hmb.out]
    generalize V1.alloc (.map #[] 0) = V2 at *
    refine hK.out _ _ HB2.out (fun hHeld => ?_)
    clear hK K
    try simp only [Act.put, lq0, lq1, lq2, lq3, lq4, lq5]
    refine wpAnyH_take (i := 4) (v := .agg (houA f id mb (fun _ => 0) sp)) rfl (by kernel_rfl) (by kernel_rfl) (by kernel_rfl) (fun _ _ _ h => h) (Or.inl ⟨by kernel_rfl, by intro W _; kernel_rfl⟩) (by assumption) ?_
    try simp only [Act.put, lq0, lq1, lq2, lq3, lq4, lq5]
    refine wpAnyH_ready (rs := [5]) (by kernel_rfl) (by simp) ?_
    refine AllReadyH.cons rfl (fun K hK => ?_) AllReadyH.nil
    have bz : Below V2.heap.size V2 (V2.alloc (.cells (houA f id mb (fun _ => 0) sp) 109)) := (Below.refl _ _).alloc (Nat.le_refl _) _
    have HB3 := Lib.hid (HB2.out.trans (bz.mono HB2.out.size))
    have HM3 := Lib.hid (HM2.out.below bz)
    have HK3 := Lib.hid (HK2.out.same (S := fun _ => False) (Same.of_below bz) (fun _ h => h.elim))
    have HP3 := Lib.hid (heap_last V2 (.cells (houA f id mb (fun _ => 0) sp) 109))
    have PGE : Hid (w.heap.size ≤ V2.heap.size) := Lib.hid (Nat.le_trans B1.out.size HB2.out.size)
    clear bz
    go_simp
    obtain ⟨p, hp⟩ : ∃ z, Hid (V2.heap.size = z) := ⟨_, Lib.hid rfl⟩
    rw [hp.out] at HP3 PGE
    rw [hp.out]
    generalize V2.alloc (.cells (houA f id mb (fun _ => 0) sp) 109) = V3 at *
    refine hK.out _ _ HB3.out (fun hHeld => ?_)
    clear hK K
    try simp only [Act.put, lq0, lq1, lq2, lq3, lq4, lq5]
    refine wpAnyH_take (i := 6) (v := .pointer (some ⟨p, 0, none⟩)) rfl (by kernel_rfl) (by kernel_rfl) (by kernel_rfl) (fun _ _ _ h => h) (Or.inl ⟨by kernel_rfl, by intro W _; go_simp⟩) (by assumption) ?_
    try simp only [Act.put, lq0, lq1, lq2, lq3, lq4, lq5]
    refine wpAnyH_take (i := 7) (oi := { dst := some 5, op := .assign (.const (Value.int IntKind.i64 0)), type := _, pos := _, after := _, guard := none }) (v := .int .i64 0) rfl (by kernel_rfl) (by kernel_rfl) (by kernel_rfl) (fun _ _ _ h => h) (Or.inl ⟨by kernel_rfl, by intro W _; go_simp⟩) (by assumption) ?_
    try simp only [Act.put, lq0, lq1, lq2, lq3, lq4, lq5]
    refine wpAnyH_done (by kernel_rfl) ?_ _
    refine NoPanic.normal ?_
    exact REST mb sp p V3 (Lib.hid ⟨HB3.out, ⟨HP3.out, HM3.out, (fun k x h => by cases h), (fun n h => by cases h), (fun k x h => by cases h), HK3.out⟩, KGE.out, SGE.out, PGE.out⟩)
  intro mb sp p W QQ
  go_wp2_with fail
  go_returns
  exact ⟨.inr ⟨HV.out, HID.out, p, mb, sp, rfl, QQ.out.2.1, fun k hk => by
    have hp := QQ.out.2.2
    rcases hk with h | h | h | ⟨a, x, h, _⟩
    · omega
    · omega
    · have h2 : k = sp := h
      omega
    · cases h⟩, B1.out.trans (QQ.out.1.mono B1.out.size)⟩

set_option maxHeartbeats 4000000 in
set_option maxRecDepth 100000 in
theorem newHouse0_any (f : FrV) (id : Int) (w : World) (hid : ¬ (1 ≤ id ∧ id ≤ 8)) :
    Calls Tryz.prog 12 #[f.val, .int .i64 id] w fun e w' => e = .returned (.tuple #[.pointer none, .int .i64 1]) ∧ Below w.heap.size w w' := by
  have hvl : f.val = .agg #[.int .i64 f.rings, .int .i64 f.sectors, .int .i64 f.wide] := rfl
  rw [hvl]
  clear hvl
  have B0 := Lib.hid ((Below.refl w.heap.size w).alloc (Nat.le_refl _) (.cells #[.int .i64 f.rings, .int .i64 f.sectors, .int .i64 f.wide] 23))
  by_cases h1 : id < 1
  · have q1 : decide (id < 1) = true := by simp [h1]
    clear h1 hid
    go_enter Tryz.func12, Tryz.ntmps12
    go_wp2_with fail
    go_returns
    exact ⟨rfl, B0.out⟩
  · have q1 : decide (id < 1) = false := by simp; omega
    have q2 : decide (8 < id) = true := by simp; omega
    clear h1 hid
    go_enter Tryz.func12, Tryz.ntmps12
    go_wp2_with fail
    go_returns
    exact ⟨rfl, B0.out⟩
theorem newHouse9_any (f : FrV) (id : Int) (w : World) : Calls Tryz.prog 12 #[f.val, .int .i64 id] w fun e w' => NewRet9 f id w e w' ∧ Below w.heap.size w w' := by
  by_cases hid : 1 ≤ id ∧ id ≤ 8
  · exact newHouse8_any f id w hid
  · refine (newHouse0_any f id w hid).mono fun e w' h => ⟨.inl ⟨fun h2 => hid h2.2, h.1⟩, h.2⟩
set_option maxHeartbeats 4000000 in
set_option maxRecDepth 100000 in
theorem hsync_any (p mb sp : Nat) (G : Nm → Option LN) (SF : Nat → Prop) (S : HouV) (w : World) (hh : HouAt w p mb sp G SF S) :
    Calls Tryz.prog 20 #[.pointer (some ⟨p, 0, none⟩)] w fun e w' => e = .returned (.tuple #[]) ∧ HouAt w' p mb sp G SF S.sync ∧ Same (fun k => k = sp) w w' := by
  have HH := Lib.hid hh
  have DIS := Lib.hid hh.dis
  have SP := Lib.hid hh.stk.self
  have c14 := cell_of hh.blk 14 (.pointer (some ⟨sp, 0, none⟩)) rfl
  have MD := Lib.hid (made_any w p mb sp S.f S.id S.c hh.blk)
  have SY := Lib.hid (sync_any w sp SF S.sb S.fb S.sd S.fd hh.stk)
  clear hh
  go_enter Tryz.func20, Tryz.ntmps20
  go_wp2_with fail
  refine MD.out.mono ?_
  rintro e w1 ⟨rfl, rfl⟩
  go_wp2_with fail
  refine SY.out.mono ?_
  rintro e w2 ⟨rfl, hk, hs⟩
  have K := Lib.hid hk
  have HS := Lib.hid hs
  clear hk hs c14
  go_wp2_with fail
  go_end0
  have hne : ∀ k, SF k → k ≠ p ∧ k ≠ mb := fun k hk => ⟨fun e => DIS.out.ps (e ▸ hk), fun e => DIS.out.ms (e ▸ hk)⟩
  exact ⟨rfl, ⟨(HS.out.block p (blk_lt HH.out.blk) (fun e => (hne sp SP.out).1 e.symm)).trans HH.out.blk, HH.out.map.of_block (HS.out.block mb HH.out.map.lt (fun e => (hne sp SP.out).2 e.symm)), HH.out.gs, HH.out.gl,
    fun k x hk => own_keep (HH.out.str k x hk) HS.out (fun b hb e => (DIS.out.st k x hk b hb).2.2 (by rw [show b = sp from e]; exact SP.out)), K.out⟩, HS.out⟩
end Go.Proofs.YtlnhppgfhkkidaaGreat
