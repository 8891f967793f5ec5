/- Parts of the proof, in this order: The names of a set: the iterator over its map, gathered and sorted; The program's maps.Copy of sets, and two sets of two lists; Grow and Concat of events; Which registers are right, in the program: right itself; Which cells strokes cover, in the program: covers. The plain law of it; SameInts, SameNames of the reference; What the samples' register is; What Merge gives back, of both sides; a list of notes that are copies; The program's fork and Fork; The reference's SameEvents and SameRegister say true of equal values; What Fold and AsOf give back, as one predicate; registers of one value are the same; The tallies package's nameOf, copied, compareNames, and the names of its map of notes; The tallies package's list: a map's notes by name, in memory of their own. -/
import Derived.Sort.MapsRangeIn
import Derived.Lib.AppendZerosOnto
import Derived.Laws.MakeOwn
import Derived.Test.YtlnhppgfhkkidaaGreatKPgp6
set_option linter.unusedSimpArgs false
set_option linter.unusedVariables false
open List renaming getElem_toArray → lq0, getElem_cons_succ → lq1, getElem_cons_zero → lq2, setIfInBounds_toArray → lq3, set_cons_zero → lq4, set_cons_succ → lq5
namespace Go.Proofs.YtlnhppgfhkkidaaGreat
set_option linter.unusedSimpArgs false
open Go.RowKit
attribute [local go_sem] Oper.semAt_some

section
variable {α : Type} {enc : α → Value} {f : Nm → Option α} {F : Fence} {m : Nat} (w : World) {ops : Array Oper} {rest : List Oper} {o : Oper} {a : Act} {Q : Exit → Act → World → Prop}
theorem wpListIn_range_nm (hg : o.guard = none) (x : Operand) (t e : TypeId) (hop : o.op = Op.range t x) (ht : Tryz.prog.underlying t = some (.map 45 e)) (b n : Nat) (hm : a.eval x = .map (some b)) (hmap : MapF enc w b n f)
    (hK : ∀ w' cnt, RangeF enc w' b w.heap.size n f [] cnt → w.grownBy w' none → w'.heap.size = w.heap.size + 1 → wpListIn F m Tryz.prog ops Q rest (a.put o.dst (.pointer (some ⟨w.heap.size, 0, none⟩))) w') : wpListIn F m Tryz.prog ops Q (o :: rest) a w := by
  obtain ⟨D, h1, h2⟩ := hmap
  exact wpListIn_range_own w hg x t hop 45 e nm_keyed ht heldR b n D hm h1 (fun w' h3 h4 h5 => hK w' _ ⟨D, _, h3, h2, fun k hk => by rw [h2.has k hk]; simp, List.nodup_nil, by have := h1.size_le; simpa using this⟩ h4 h5)
theorem wpListIn_next_nm (hg : o.guard = none) (it : Operand) (hop : o.op = Op.next it false) (b r n cnt : Nat) (ks : List Nm) (hit : a.eval it = .pointer (some ⟨r, 0, none⟩)) (h : RangeF enc w b r n f ks cnt)
    (hDone : AllIn f ks → wpListIn F m Tryz.prog ops Q rest (a.put o.dst (.tuple #[.bool false])) w)
    (hMore : ∀ kh km y w' cnt', Hid (NextF enc w b r n cnt f ks kh km y w' cnt') →
      (Instr.entry (.pointer (some ⟨r, 0, none⟩))).run Tryz.prog w' = .ok (.tuple #[.agg #[.int .i64 kh, .int .i64 km], enc y]) w' → wpListIn F m Tryz.prog ops Q rest (a.put o.dst (.tuple #[.bool true, .agg #[.int .i64 kh, .int .i64 km], enc y])) w') : wpListIn F m Tryz.prog ops Q (o :: rest) a w := by
  obtain ⟨D, left, h1, h2, h3, h4, hcn⟩ := h
  refine wpListIn_next_ranges (α := Nm) (β := Value) w hg it hop 45 nm_keyed heldR nmV id (fun key kl hk => by obtain ⟨a, rfl, _⟩ := keyOf_inv hk; exact ⟨a, rfl⟩) (fun v _ _ => ⟨v, rfl⟩) b r n D left cnt hit h1 (fun _ hl => hDone (fun k hk => ?_)) (fun k c kl y w' cnt' hkey hlk hv hat hrg hlt hgr hsz hen => ?_)
  · have := hl (nmL k)
    rw [h3 k (h2.ok k hk), hk] at this
    simpa using this
  · obtain ⟨k', e1, hk', rfl⟩ := keyOf_inv hkey
    cases nmV_inj e1
    rw [h3 k hk'] at hlk
    simp only [Bool.and_eq_true, Bool.not_eq_true', decide_eq_false_iff_not] at hlk
    obtain ⟨x, hx⟩ := Option.isSome_iff_exists.1 hlk.1
    have hy := hat (.lit (.bool true))
    rw [h2.val k x hx] at hy
    simp only [heldR, Option.some.injEq] at hv
    rw [← hv] at hy
    simp only [DataW.held.injEq, id_eq] at hy
    subst hy
    refine hMore k.1 k.2 x w' cnt' (Lib.hid ⟨hx, hlk.2, hk', ⟨D, _, hrg, h2, fun a ha => ?_, ?_, by rw [List.length_append, List.length_singleton]; omega⟩, hlt, hgr, hsz⟩) hen
    · rw [h3 a ha]
      by_cases e : a = k
      · subst e
        have : (nmL a).sameKey (nmL a) = true := WideAt.sameKey_self (nmL_key _)
        simp [this]
      · have : (nmL a).sameKey (nmL k) = false := Maps.sameKey_ne (fun he => e (nmL_inj ha hk' he))
        simp [this, e]
    · exact List.nodup_append.2 ⟨h4, by simp, fun a ha b hb e => hlk.2 (by rw [List.mem_singleton] at hb; rw [← show b = k from hb, ← e]; exact ha)⟩
end
theorem LoopAt.turn {rec : LoopState → Option Code → Loop} {D : Nat} {st : LoopState} {pe : Option Code} {W W' : World} {r : Nat} {o : Obj} (h : LoopAt rec D st pe W) (hr : W.heap[r]? = some o) (ho1 : ∀ l, o ≠ .loop l) (ho2 : ∀ l, o ≠ .deferred l) (hg : W.grownBy W' (some r)) : LoopAt rec D st pe W' :=
  ⟨grown_blk hg h.1 (fun e => by have h1 := h.1; rw [Option.some.inj e, hr] at h1; exact ho1 _ (Option.some.inj h1)), grown_blk hg h.2 (fun e => by have h1 := h.2; rw [Option.some.inj e, hr] at h1; exact ho2 _ (Option.some.inj h1))⟩
structure NpAt (Wb : World) (p : Nat) (ks : List Nm) (W : World) : Prop where
  blk : ∃ a c, W.heap[p]? = some (.cells #[.slice a ks.length c] 75 (0, 0)) ∧ W.ownsRow Wb.heap.size 45 2 (.slice a ks.length c) ks.length (nmCells ks)
  same : Same (fun k => k = p) Wb W
theorem NpAt.below {Wb W W' : World} {p : Nat} {ks : List Nm} (h : NpAt Wb p ks W) (hb : Below W.heap.size W W') : NpAt Wb p ks W' := by
  obtain ⟨⟨a, c, h1, h2⟩, h3⟩ := h
  exact ⟨⟨a, c, below_blk hb h1, own_below h2 hb⟩, h3.trans (Same.of_below hb)⟩
theorem NpAt.turn {Wb W W' : World} {p r : Nat} {ks : List Nm} {o : Obj} (h : NpAt Wb p ks W) (hr : W.heap[r]? = some o) (ho : ∀ c t fr, o ≠ .cells c t fr) (hg : W.grownBy W' (some r)) (hge : Wb.heap.size ≤ r) : NpAt Wb p ks W' := by
  obtain ⟨⟨a, c, h1, h2⟩, h3⟩ := h
  exact ⟨⟨a, c, grown_blk hg h1 (fun e => by rw [Option.some.inj e, hr] at h1; exact ho _ _ _ (Option.some.inj h1)), h2.kept hg (.inr (own_no h2 hr (fun cur => ho _ _ _)).symm)⟩, h3.reg (Same.of_grown hg (fun k e => by cases e; exact .inr hge))⟩
theorem NpAt.putObj {Wb W : World} {p : Nat} {ks : List Nm} (h : NpAt Wb p ks W) (o : Loop) (hl : ∃ r, W.heap[Wb.heap.size + 1]? = some (.loop r)) : NpAt Wb p ks (W.putObj (Wb.heap.size + 1) (.loop o)) := by
  obtain ⟨r, hl⟩ := hl
  exact h.turn hl (fun _ _ _ => by simp) (grownBy_putObj' W _ _) (by omega)
theorem NpAt.add {Wb W V : World} {p : Nat} {ks : List Nm} {k : Nm} {a a' : Option Addr} {c c' : Nat} (hs : Same (fun k => k = p) Wb W) (hp : W.heap[p]? = some (.cells #[.slice a ks.length c] 75 (0, 0))) (how : W.ownsRow Wb.heap.size 45 2 (.slice a ks.length c) ks.length (nmCells ks))
    (ho : V.ownsRow Wb.heap.size 45 2 (.slice a' (ks.length + 1) c') (ks.length + 1) (nmCells ks ++ [.int .i64 k.1, .int .i64 k.2])) (hg : W.grownBy V (Value.ownBlock (.slice a ks.length c))) :
    NpAt Wb p (ks ++ [k]) (V.setCell ⟨p, 0, none⟩ (.slice a' (ks.length + 1) c')) ∧ V.heap[p]? = some (.cells #[.slice a ks.length c] 75 (0, 0)) := by
  have hb2 := grown_blk hg hp (own_no how hp (by intro cur; simp))
  have G := setCell_grown V p 0 (.slice a' (ks.length + 1) c')
  refine ⟨⟨⟨a', c', ?_, ?_⟩, hs.reg ((Same.of_grown hg (fun k e => .inr (how.lt k e).1)).trans (Same.of_grown G (fun k e => by cases e; exact .inl rfl)))⟩, hb2⟩
  · rw [setCell_at hb2 0 (.slice a' (ks.length + 1) c'), List.length_append]; rfl
  · rw [nmCells_snoc, List.length_append]
    exact ho.kept G (.inr (own_no ho hb2 (by intro cur; simp)).symm)
theorem RangeF.turn {W W' : World} {b r n cnt : Nat} {f : Nm → Option LN} {ks : List Nm} {row : Option Nat} (h : RangeF LN.val W b r n f ks cnt) (hg : W.grownBy W' row) (hrow : ∀ q, row = some q → ∃ o, W.heap[q]? = some o ∧ (∀ e c, o ≠ .map e c) ∧ ∀ a1 a2 a3 a4, o ≠ .mapIter a1 a2 a3 a4) : RangeF LN.val W' b r n f ks cnt := by
  obtain ⟨es, clock, hsb⟩ := h.map.blk
  obtain ⟨bb, since, seen, c0, hr⟩ := h.blk
  refine h.of_blocks ((grown_blk hg hsb (fun e => ?_)).trans hsb.symm) ((grown_blk hg hr (fun e => ?_)).trans hr.symm)
  · obtain ⟨o, h1, h2, h3⟩ := hrow b e.symm
    rw [hsb] at h1
    exact h2 _ _ (Option.some.inj h1).symm
  · obtain ⟨o, h1, h2, h3⟩ := hrow r e.symm
    rw [hr] at h1
    exact h3 _ _ _ _ (Option.some.inj h1).symm
abbrev KSt := List Nm × Nm × Nat × Nat
def KAt (Wb : World) (p b n : Nat) (f : Nm → Option LN) (ks js : List Nm) (r cnt : Nat) (W : World) : Prop := NpAt Wb p js W ∧ RangeF LN.val W b r n f ks cnt ∧ Wb.heap.size ≤ r ∧ ∀ k ∈ ks, (f k).isSome = true

set_option maxHeartbeats 8000000 in
set_option maxRecDepth 100000 in
theorem keysIter (m : Nat) (Wb : World) (p pB b n : Nat) (f : Nm → Option LN) (hpB : Wb.heap[pB]? = some (.cells #[.map (some b)] 119 (0, 0))) (hne : pB ≠ p) (hmap : MapF LN.val Wb b n f) (hbp : b ≠ p)
    (rec : LoopState → Option Code → Loop) (W1 : World) (h0 : NpAt Wb p [] W1) (hl : LoopAt rec Wb.heap.size .ready none W1)
    (hY : ∀ (s : KSt) W, KAt Wb p b n f (s.1 ++ [s.2.1]) s.1 s.2.2.1 s.2.2.2 W → LoopAt rec Wb.heap.size .ready none W → YieldAt Fence.wide (m - 1) Tryz.prog (Wb.heap.size + 1) #[.agg #[.int .i64 s.2.1.1, .int .i64 s.2.1.2]] W fun e W' =>
        e = .returned (.bool true) ∧ KAt Wb p b n f (s.1 ++ [s.2.1]) (s.1 ++ [s.2.1]) s.2.2.1 s.2.2.2 W' ∧ LoopAt rec Wb.heap.size .ready none W') :
    CallsIn Fence.wide m Tryz.prog 177 #[.func (.yield (Wb.heap.size + 1)) #[] #[], .pointer (some ⟨pB, 0, none⟩)] W1 fun e W' =>
        (∃ v, e = .returned v) ∧ (∃ ks, NpAt Wb p ks W' ∧ AllIn f ks ∧ ks.Nodup ∧ (∀ k ∈ ks, (f k).isSome = true) ∧ ks.length ≤ n) ∧ LoopAt rec Wb.heap.size .ready none W' := by
  have HY := Lib.hid hY; clear hY
  have M1 := Lib.hid (hmap.of_block (h0.same.block b hmap.lt hbp))
  have hlc := cell_of ((h0.same.block pB (blk_lt hpB) hne).trans hpB) 0 (.map (some b)) rfl
  have R0 := Lib.hid h0; clear h0
  have L0 := Lib.hid hl; clear hl
  clear hpB hne hmap hbp
  refine callsIn_of_wp Tryz.func177 rfl trivial ?_
  simp only [Tryz.ntmps177, List.size_toArray, List.length_cons, List.length_nil, Nat.reduceAdd, Nat.reduceSub, Array.replicate_succ, Array.replicate_zero, List.push_toArray, List.append_toArray, List.nil_append, List.cons_append]
  gi_wp2_with (first
    | (gi_at_range; refine wpListIn_range_nm _ rfl _ 119 47 rfl Tryz.underlying119 b n rfl M1.out ?_; intro w0 cnt0 hrg0 hg0 hs0)
    | gi_in)
  go_frame
  obtain ⟨r, hr⟩ : ∃ r, Hid (W1.heap.size = r) := ⟨_, Lib.hid rfl⟩
  have b0 : Below W1.heap.size W1 w0 := (Below.refl _ _).grown hg0 (Nat.le_refl _) (fun q hq => by cases hq)
  have S0 : Hid (KAt Wb p b n f [] [] r cnt0 w0) := Lib.hid ⟨R0.out.below b0, by rw [← hr.out]; exact hrg0, by rw [← hr.out]; exact R0.out.same.size, fun k hk => by cases hk⟩
  have LL0 := Lib.hid (L0.out.of_below b0)
  rw [hr.out]
  clear hrg0 hg0 hs0 b0 hlc M1 R0 L0
  gi_loopw [3] (fun _ wr => ∃ (ks : List Nm) (cnt : Nat), Hid (KAt Wb p b n f ks ks r cnt wr) ∧ Hid (LoopAt rec Wb.heap.size .ready none wr)) (fun _ wr => wr.rangeLeft b r)
  case atStart => exact ⟨[], cnt0, S0, LL0⟩
  case round =>
    obtain ⟨ks, cnt, HS, HL⟩ := hrel
    gi_wp2_with (first
      | (gi_at_next; refine wpListIn_next_nm _ rfl _ rfl b r n cnt ks rfl HS.out.2.1 ?_ ?_)
      | gi_in)
    · intro hall
      have HALL := Lib.hid hall; clear hall
      gi_wp2
      go_end0
      exact ⟨⟨_, rfl⟩, ⟨ks, HS.out.1, HALL.out, HS.out.2.1.nodup, HS.out.2.2.2, by have := HS.out.2.1.count; omega⟩, HL.out⟩
    · intro kh km y w2 cnt2 HN hen
      obtain ⟨bb, since, seen, c0, hrb⟩ := HS.out.2.1.blk
      have np2 := HS.out.1.turn hrb (fun _ _ _ => by simp) HN.out.grown HS.out.2.2.1
      have bn : Below w2.heap.size w2 (w2.alloc (.cells #[.int .i64 kh, .int .i64 km] 45)) := (Below.refl _ _).alloc (Nat.le_refl _) _
      have L3 := Lib.hid ((HL.out.turn hrb (fun _ => by simp) (fun _ => by simp) HN.out.grown).of_below bn)
      have K3 : Hid (KAt Wb p b n f (ks ++ [(kh, km)]) ks r cnt2 (w2.alloc (.cells #[.int .i64 kh, .int .i64 km] 45))) := Lib.hid ⟨np2.below bn, HN.out.range.below bn, HS.out.2.2.1, fun k hk => by
        rcases List.mem_append.1 hk with hk | hk
        · exact HS.out.2.2.2 k hk
        · rw [List.mem_singleton.1 hk, HN.out.at_]; rfl⟩
      have HM := Lib.hid (show wr.rangeLeft b r = cnt from HS.out.2.1.left_eq)
      have HLT := Lib.hid HN.out.lt
      clear np2 bn HS HL HN hrb
      unfold LN.val at hen
      obtain ⟨fn, tmps, assign, body, hy, hRo⟩ := HY.out (ks, (kh, km), r, cnt2) _ K3.out L3.out
      dsimp only at hy
      gi_wp2
      refine ⟨fun h => by simp [Fence.wide] at h, ?_⟩
      refine hRo.mono ?_
      rintro e W6 ⟨rfl, hK6, hL6⟩
      have HK6 := Lib.hid hK6
      have HL6 := Lib.hid hL6
      clear hRo hy hK6 hL6 hen
      gi_wp2
      go_roundw
      case rel => exact ⟨_, cnt2, HK6, HL6⟩
      case measure => rw [HK6.out.2.1.left_eq, HM.out]; exact HLT.out

set_option maxHeartbeats 16000000 in
set_option maxRecDepth 100000 in
theorem appSeqNm_any (pB b n : Nat) (f : Nm → Option LN) (w : World) (hpB : w.heap[pB]? = some (.cells #[.map (some b)] 119 (0, 0))) (hmap : MapF LN.val w b n f) (hn : n ≤ 1000) :
    Calls Tryz.prog 203 #[.slice none 0 0, .func (.func 177) #[] #[.pointer (some ⟨pB, 0, none⟩)]] w fun e w' =>
      (∃ a' c' ks, e = .returned (.slice a' ks.length c') ∧ w'.ownsRow w.heap.size 45 2 (.slice a' ks.length c') ks.length (nmCells ks) ∧ AllIn f ks ∧ ks.Nodup ∧ (∀ k ∈ ks, (f k).isSome = true) ∧ ks.length ≤ n) ∧ Below w.heap.size w w' := by
  have HLEN := Lib.hid hn; clear hn
  have B0 := Lib.hid ((Below.refl w.heap.size w).alloc (Nat.le_refl _) (.cells #[.slice none 0 0] 75))
  have P0 := Lib.hid (heap_last w (.cells #[.slice none 0 0] 75))
  have HB := Lib.hid (below_blk B0.out hpB)
  have HM := Lib.hid (hmap.below B0.out)
  have NE : Hid (pB ≠ w.heap.size ∧ b ≠ w.heap.size) := Lib.hid (by have := blk_lt hpB; have := hmap.lt; omega)
  clear hpB hmap
  refine (callsIn_wide (n := 4)).1 ?_
  refine callsIn_of_wp_marks Tryz.func203 rfl trivial ?_
  simp only [Tryz.ntmps203, List.size_toArray, List.length_cons, List.length_nil, Nat.reduceAdd, Nat.reduceSub, Array.replicate_succ, Array.replicate_zero, List.push_toArray, List.append_toArray, List.nil_append, List.cons_append]
  refine wpIn_wide.2 ?_
  go_upto_region 1 with fail
  obtain ⟨p, hp⟩ : ∃ p, Hid (w.heap.size = p) := ⟨_, Lib.hid rfl⟩
  rw [hp.out] at P0 NE ⊢
  generalize w.alloc (.cells #[.slice none 0 0] 75) = w3 at *
  go_wp2_with fail
  refine (wpIn_wide (n := 4)).1 ?_
  refine wp_range_own2 (n := 3) (σ := KSt) (w := w3) (gf := 177) (lb := #[.pointer (some ⟨pB, 0, none⟩)]) rfl (enters_of Tryz.func177 (by kernel_rfl) rfl)
    (fun s => #[.agg #[.int .i64 s.2.1.1, .int .i64 s.2.1.2]]) (fun _ => rfl) (fun s W => KAt w3 p b n f (s.1 ++ [s.2.1]) s.1 s.2.2.1 s.2.2.2 W) (fun s W => KAt w3 p b n f (s.1 ++ [s.2.1]) (s.1 ++ [s.2.1]) s.2.2.1 s.2.2.2 W)
    (fun s a₁ W => ∃ pX, a₁ = { tmps := #[.slice none 0 0, .func (.func 177) #[] #[.pointer (some ⟨pB, 0, none⟩)], .pointer (some ⟨p, 0, none⟩), undef, .slice none 0 0, .pointer (some ⟨pX, 0, none⟩), .func (.func 177) #[] #[.pointer (some ⟨pB, 0, none⟩)], .agg #[.int .i64 s.2.1.1, .int .i64 s.2.1.2], undef, undef, undef, undef, undef], defers := [] } ∧ W.heap[pX]? = some (.cells #[.int .i64 s.2.1.1, .int .i64 s.2.1.2] 45 (0, 0)) ∧ KAt w3 p b n f (s.1 ++ [s.2.1]) s.1 s.2.2.1 s.2.2.2 W)
    (fun W => ∃ ks, NpAt w3 p ks W ∧ AllIn f ks ∧ ks.Nodup ∧ (∀ k ∈ ks, (f k).isSome = true) ∧ ks.length ≤ n) ?hA' ?hB ?hD ?assign ?body ?iter ?done
  case hA' =>
    rintro s a₁ W o ⟨pX, rfl, h1, h2, h3, h4⟩ ⟨r, hr⟩
    refine ⟨pX, rfl, (World.putObj_heap_other (fun e => ?_)).trans h1, h2.putObj o ⟨r, hr⟩, h3.turn (grownBy_putObj' W _ _) (fun q e => by cases e; exact ⟨_, hr, by simp, by simp⟩), h4⟩
    rw [e, hr] at h1
    simp at h1
  case hB =>
    rintro s W o ⟨h2, h3, h4⟩ ⟨r, hr⟩
    exact ⟨h2.putObj o ⟨r, hr⟩, h3.turn (grownBy_putObj' W _ _) (fun q e => by cases e; exact ⟨_, hr, by simp, by simp⟩), h4⟩
  case hD =>
    rintro W o ⟨ks, h, h2⟩ hl
    exact ⟨ks, h.putObj o hl, h2⟩
  case assign =>
    rintro ⟨ks, k, r, cnt⟩ W h1
    have H1 := Lib.hid h1
    clear h1
    dsimp only
    have hb5 : Below W.heap.size W (W.alloc (.cells #[.int .i64 k.1, .int .i64 k.2] 45)) := (Below.refl W.heap.size W).alloc (Nat.le_refl _) _
    have HG := Lib.hid (show KeepsFrom w3.heap.size W (W.alloc (.cells #[.int .i64 k.1, .int .i64 k.2] 45)) ∧ (W.alloc (.cells #[.int .i64 k.1, .int .i64 k.2] 45)).heap[W.heap.size]? = some (.cells #[.int .i64 k.1, .int .i64 k.2] 45 (0, 0)) ∧ KAt w3 p b n f (ks ++ [k]) ks r cnt (W.alloc (.cells #[.int .i64 k.1, .int .i64 k.2] 45)) from
      ⟨(keeps_below hb5).from _, heap_last W _, H1.out.1.below hb5, H1.out.2.1.below hb5, H1.out.2.2⟩)
    clear hb5 H1
    have hf : ∀ t : Array Value, (#[7].zip #[Value.agg #[.int .i64 k.1, .int .i64 k.2]]).foldl (fun t (p, v) => t.setIfInBounds p v) t = t.setIfInBounds 7 (.agg #[.int .i64 k.1, .int .i64 k.2]) := fun t => by simp
    rw [hf]
    simp only [List.setIfInBounds_toArray, List.set_cons_succ, List.set_cons_zero]
    clear hf
    refine wpIn_region_plain (wide_round _) (not_lets (fun a w h => h)) ?hnd ?_
    case hnd => rfl
    go_wp2_with fail
    exact ⟨HG.out.1, W.heap.size, rfl, HG.out.2⟩
  case body =>
    rintro ⟨ks, k, r, cnt⟩ a₁ W ⟨pX, rfl, hX, h1⟩
    have HX := Lib.hid hX
    have H1 := Lib.hid (show KAt w3 p b n f (ks ++ [k]) ks r cnt W from h1)
    clear hX h1
    dsimp only
    have HKL : Hid (ks.length ≤ 1000) := Lib.hid (by have h1 := H1.out.2.1.count; have := HLEN.out; rw [List.length_append] at h1; omega)
    obtain ⟨⟨ea, ec, hblk, how⟩, hsm⟩ := H1.out.1
    have bn : Below W.heap.size W (W.alloc (.cells #[.int .i64 k.1, .int .i64 k.2] 45)) := (Below.refl _ _).alloc (Nat.le_refl _) _
    obtain ⟨a', c', v9, hrun, ho9, hg9⟩ := run_app_nm (W.alloc (.cells #[.int .i64 k.1, .int .i64 k.2] 45)) w3.heap.size ea ks.length ec _ (own_below how bn) _ 1 1 _ (lit_rd W _ _) (fun u hu => by simp only [List.mem_cons, List.not_mem_nil, or_false] at hu; rcases hu with rfl | rfl <;> rfl) (by have := HKL.out; omega) (Nat.le_trans hsm.size bn.size)
    have hadd := NpAt.add (hsm.trans (Same.of_below bn)) (below_blk bn hblk) (own_below how bn) ho9 hg9
    have HK : Hid (KeepsFrom w3.heap.size W (v9.setCell ⟨p, 0, none⟩ (.slice a' (ks.length + 1) c'))) := Lib.hid (by
      refine KeepsOthers.from ⟨?_, fun k o hk ho => ?_⟩ _
      · exact Nat.le_trans bn.size (Nat.le_trans hg9.size (by simp [World.setCell]))
      · have hk1 := below_blk bn hk
        have hk2 := grown_blk hg9 hk1 (fun e => by have := own_cells (own_below how bn) e.symm hk1; rw [this] at ho; cases ho)
        exact grown_blk (setCell_grown v9 p 0 _) hk2 (fun e => by rw [Option.some.inj e, hadd.2] at hk2; cases hk2; cases ho))
    have RA : RangeF LN.val (v9.setCell ⟨p, 0, none⟩ (.slice a' (ks.length + 1) c')) b r n f (ks ++ [k]) cnt := by
      have h2 := H1.out.2.1.below bn
      have h3 : RangeF LN.val v9 b r n f (ks ++ [k]) cnt := h2.turn hg9 (fun q e => by
        rcases (own_below how bn).2 with ⟨h4, _⟩ | ⟨g, cap, cur, h4, _, h5, _⟩
        · rw [h4] at e; cases e
        · rw [h4] at e
          cases e
          exact ⟨_, h5, by simp, by simp⟩)
      exact h3.turn (setCell_grown v9 p 0 _) (fun q e => by cases e; exact ⟨_, hadd.2, by simp, by simp⟩)
    have HA := Lib.hid (show KAt w3 p b n f (ks ++ [k]) (ks ++ [k]) r cnt (v9.setCell ⟨p, 0, none⟩ (.slice a' (ks.length + 1) c')) from ⟨hadd.1, RA, H1.out.2.2⟩)
    have hcl := cell_of hblk 0 (.slice ea ks.length ec) rfl
    have hx0 := cell_of HX.out 0 (.int .i64 k.1) rfl
    have hx1 := cell_of HX.out 1 (.int .i64 k.2) rfl
    have hcl3 := cell_of hadd.2 0 (.slice ea ks.length ec) rfl
    have hfz := frozen_of hadd.2 0
    clear hadd how hsm bn ho9 hg9 hblk RA
    apply wpIn_block
    refine wpIn_region_plain (wide_round _) (not_lets (fun a w h => h)) ?hnd ?_
    case hnd => rfl
    go_wp2_with (first
      | (refine wpList_append_eq rfl _ _ _ rfl _ _ _ rfl rfl hrun ?_)
      | fail)
    exact ⟨HK.out, HA.out⟩
  case iter =>
    intro rec hlr hY
    have hbb := ((Below.refl w3.heap.size w3).alloc (Nat.le_refl _) (.deferred (some []))).alloc (by simp) (.loop (rec .ready none))
    exact keysIter 3 w3 p pB b n f HB.out NE.out.1 HM.out NE.out.2 rec _ ⟨⟨none, 0, below_blk hbb P0.out, World.ownsRow_nil _ _ _ _⟩, Same.of_below hbb⟩ hlr hY
  case done =>
    rintro W ⟨ks, ⟨⟨a', c', hblk, how⟩, hsm⟩, hks⟩ hD0
    dsimp only
    have HD0 := Lib.hid hD0
    have HOW := Lib.hid how
    have HSM := Lib.hid hsm
    have HKS := Lib.hid hks
    have hcl := cell_of hblk 0 (.slice a' ks.length c') rfl
    clear hD0 how hsm hblk hks
    go_wp2_with fail
    have hb : Below w.heap.size w W := HSM.out.below B0.out B0.out.size (fun k hk => by have := hp.out; omega)
    have hbz : Below w.heap.size w (W.putObj w3.heap.size (.deferred none)) := hb.grown (grownBy_putObj' W _ _) hb.size (fun k e => by cases e; exact B0.out.size)
    have hoz := own_mono (ownsRow_putObj HOW.out (.deferred none) HD0.out rfl) B0.out.size
    refine ⟨by simp, .inl ⟨_, _, rfl, run_takeDeferred HD0.out, ?_⟩⟩
    exact ⟨.slice a' ks.length c', by kernel_rfl, ⟨a', c', ks, rfl, hoz, HKS.out⟩, hbz⟩

def NamesRet (f : Nm → Option LN) (n : Nat) (w : World) (e : Ending) (W : World) : Prop :=
  ∃ (a : Option Addr) (c : Nat) (ks : List Nm), e = .returned (.slice a ks.length c) ∧ W.ownsRow w.heap.size 45 2 (.slice a ks.length c) ks.length (nmCells ks) ∧ AllIn f ks ∧ ks.Pairwise (fun x y => nmLt x y = true) ∧ (∀ k ∈ ks, (f k).isSome = true) ∧ ks.length ≤ n
theorem nm_strict {zs : List Nm} (hn : zs.Nodup) (hs : zs.Pairwise (fun x y => nmLt y x = false)) : zs.Pairwise (fun x y => nmLt x y = true) := by
  refine (hs.and hn).imp (fun {x y} h => ?_)
  cases h2 : nmLt x y with
  | true => rfl
  | false => exact absurd (nm_total h2 h.1) h.2
set_option maxHeartbeats 8000000 in
set_option maxRecDepth 100000 in
theorem collectNm_any (pB b n : Nat) (f : Nm → Option LN) (w : World) (hpB : w.heap[pB]? = some (.cells #[.map (some b)] 119 (0, 0))) (hmap : MapF LN.val w b n f) (hn : n ≤ 1000) :
    Calls Tryz.prog 169 #[.func (.func 177) #[] #[.pointer (some ⟨pB, 0, none⟩)]] w fun e w' =>
      (∃ a' c' ks, e = .returned (.slice a' ks.length c') ∧ w'.ownsRow w.heap.size 45 2 (.slice a' ks.length c') ks.length (nmCells ks) ∧ AllIn f ks ∧ ks.Nodup ∧ (∀ k ∈ ks, (f k).isSome = true) ∧ ks.length ≤ n) ∧ Below w.heap.size w w' := by
  have HA := Lib.hid (appSeqNm_any pB b n f w hpB hmap hn)
  clear hpB hmap hn
  go_enter Tryz.func169, Tryz.ntmps169
  go_wp2_with fail
  refine HA.out.mono ?_
  rintro e w1 ⟨⟨a', c', ks, rfl, h1⟩, h2⟩
  have H := Lib.hid (And.intro h1 h2)
  clear h1 h2
  go_wp2_with fail
  go_ret
  exact ⟨⟨a', c', ks, rfl, H.out.1⟩, H.out.2⟩
set_option maxHeartbeats 8000000 in
set_option maxRecDepth 100000 in
theorem sortedNm_any (pB b n : Nat) (f : Nm → Option LN) (w : World) (hpB : w.heap[pB]? = some (.cells #[.map (some b)] 119 (0, 0))) (hmap : MapF LN.val w b n f) (hn : n ≤ 1000) :
    Calls Tryz.prog 118 #[.func (.func 177) #[] #[.pointer (some ⟨pB, 0, none⟩)], .func (.func 124) #[] #[]] w fun e w' => NamesRet f n w e w' ∧ Below w.heap.size w w' := by
  have HA := Lib.hid (collectNm_any pB b n f w hpB hmap hn)
  have HN := Lib.hid hn
  clear hpB hmap hn
  go_enter Tryz.func118, Tryz.ntmps118
  go_wp2_with fail
  refine HA.out.mono ?_
  rintro e w1 ⟨⟨a', c', ks, rfl, h1, h2, h3, h4, h5⟩, hb⟩
  have HO := Lib.hid h1
  have HAL := Lib.hid h2
  have HND := Lib.hid h3
  have HIN := Lib.hid h4
  have HL := Lib.hid h5
  have HB := Lib.hid hb
  clear h1 h2 h3 h4 h5 hb
  go_wp2_with fail
  refine (sortName_all (V := Nm) ord_nm nmRow (fun _ => rfl) (fun x v hv => by simp only [nmRow, List.mem_cons, List.not_mem_nil, or_false] at hv; rcases hv with rfl | rfl <;> rfl) (fun x y => namesC x.1 x.2 y.1 y.2) (fun _ _ => rfl) 124 nmCmp_fn nmCmp w.heap.size ks.length c' a' ks _ (by rw [← nmCells_eq]; exact HO.out) rfl (by have := HL.out; have := HN.out; omega)).mono ?_
  rintro e w10 ⟨rfl, zs, hz1, hz2, hz3, hz4⟩
  have Z1 := Lib.hid hz1
  have Z2 := Lib.hid hz2
  have Z3 := Lib.hid hz3
  have B2 := Lib.hid (hz4.below HB.out HB.out.size (fun k hk => (HO.out.lt k hk).1))
  clear hz1 hz2 hz3 hz4
  have ZL : Hid (zs.length = ks.length) := Lib.hid Z2.out.length_eq
  go_wp2_with fail
  go_ret
  exact ⟨⟨a', c', zs, by rw [ZL.out] <;> rfl, by rw [nmCells_eq, ZL.out]; exact Z1.out, fun k hk => Z2.out.symm.subset (HAL.out k hk), nm_strict (Z2.out.nodup_iff.2 HND.out) Z3.out, fun k hk => HIN.out k (Z2.out.subset hk), by rw [ZL.out]; exact HL.out⟩, B2.out⟩
set_option maxHeartbeats 8000000 in
set_option maxRecDepth 100000 in
theorem names_any (b n : Nat) (f : Nm → Option LN) (w : World) (hmap : MapF LN.val w b n f) (hn : n ≤ 1000) :
    Calls Tryz.prog 65 #[.map (some b)] w fun e w' => NamesRet f n w e w' ∧ Below w.heap.size w w' := by
  have HM := Lib.hid hmap
  have HN := Lib.hid hn
  clear hmap hn
  have hmf : ∀ (fn : Fn) (first cap : Array Value) (w : World), (Instr.makeFunc fn first cap).run Tryz.prog w = .ok (.func fn first cap) w := fun _ _ _ _ => rfl
  have KY : Hid (∀ W, Calls Tryz.prog 123 #[.map (some b)] W fun e W' => e = .returned (.func (.func 177) #[] #[.pointer (some ⟨W.heap.size, 0, none⟩)]) ∧ W' = W.alloc (.cells #[.map (some b)] 119)) := Lib.hid (fun W => by
    go_enter Tryz.func123, Tryz.ntmps123
    go_wp2_with fail
    go_ret
    exact ⟨rfl, rfl⟩)
  clear hmf
  go_enter Tryz.func65, Tryz.ntmps65
  go_wp2_with fail
  refine (KY.out w).mono ?_
  rintro e w1 ⟨rfl, rfl⟩
  have B1 := Lib.hid ((Below.refl w.heap.size w).alloc (Nat.le_refl _) (.cells #[.map (some b)] 119))
  have P1 := Lib.hid (heap_last w (.cells #[.map (some b)] 119))
  have M1 := Lib.hid (HM.out.below B1.out)
  obtain ⟨pB, hpB⟩ : ∃ p, Hid (w.heap.size = p) := ⟨_, Lib.hid rfl⟩
  rw [hpB.out] at P1
  rw [hpB.out]
  generalize w.alloc (.cells #[.map (some b)] 119) = w1 at *
  go_wp2_with fail
  refine (sortedNm_any pB b n f w1 P1.out M1.out HN.out).mono ?_
  rintro e w2 ⟨⟨a, c, ks, rfl, h1, h2⟩, hb⟩
  have HO := Lib.hid (own_mono h1 B1.out.size)
  have H2 := Lib.hid h2
  have B2 := Lib.hid (B1.out.trans (hb.mono B1.out.size))
  clear h1 h2 hb
  go_wp2_with fail
  go_ret
  exact ⟨⟨a, c, ks, rfl, HO.out, H2.out⟩, B2.out⟩
end Go.Proofs.YtlnhppgfhkkidaaGreat
namespace Go.Proofs.YtlnhppgfhkkidaaGreat
set_option linter.unusedSimpArgs false
open Go.RowKit

theorem run_get1_nm {α : Type} {enc : α → Value} {f : Nm → Option α} {w : World} {b n : Nat} {t e : TypeId} (hmap : MapF enc w b n f) (ht : Tryz.prog.underlying t = some (.map 45 e)) {z : Value} (hz : (zeroValue e).run Tryz.prog w = .ok z w) (h m : Int) (hk : nmOk (h, m)) {y : α} (hy : f (h, m) = some y) :
    (Instr.lookup t (.map (some b)) (.agg #[.int .i64 h, .int .i64 m]) false).run Tryz.prog w = .ok (enc y) w := by
  obtain ⟨D, h1, h2⟩ := hmap
  obtain ⟨v, ps, h3, h4⟩ := h1.lookup nm_keyed ht hz (zd := .held z) (zp := []) rfl (keyOf_nm (h, m) hk)
  rw [h2.val (h, m) y hy] at h4
  simp only [heldR, Option.some.injEq, Prod.mk.injEq] at h4
  have h5 := h4.1
  simp only [DataW.held.injEq] at h5
  rw [← h5]
  exact h3
theorem wpList_len_nm {α : Type} {enc : α → Value} {f : Nm → Option α} {w : World} {ops : Array Oper} {rest : List Oper} {o : Oper} {a : Act} {Q : Exit → Act → World → Prop} (hg : o.guard = none) (m : Operand) (t e : TypeId) (hop : o.op = Op.call { callee := Callee.builtin Builtin.len, args := #[m], argTypes := #[t] }) (ht : Tryz.prog.underlying t = some (.map 45 e)) (b n : Nat)
    (hm : a.eval m = .map (some b)) (hmap : MapF enc w b n f) (hK : ∀ k : Nat, k ≤ n → wpList Tryz.prog ops Q rest (a.put o.dst (.int .i64 (k : Int))) w) : wpList Tryz.prog ops Q (o :: rest) a w := by
  obtain ⟨D, h1, h2⟩ := hmap
  exact wpList_len_own w hg m t hop 45 e ht heldR b n D hm h1 (hK _ h1.size_le)
def mrgF (f g : Nm → Option LN) (ks : List Nm) : Nm → Option LN := fun k => if k ∈ ks then g k else f k
theorem mrgF_nil (f g : Nm → Option LN) : mrgF f g [] = f := by
  funext a
  simp [mrgF]
theorem mrgF_snoc {f g : Nm → Option LN} {ks : List Nm} {k : Nm} {y : LN} (h : g k = some y) : mrgF f g (ks ++ [k]) = updF (mrgF f g ks) k y := by
  funext a
  unfold mrgF updF
  by_cases e : a = k
  · subst e; simp [h]
  · simp [e]
theorem mrgF_all {f g : Nm → Option LN} {ks : List Nm} (h : AllIn g ks) (h2 : ∀ k ∈ ks, (g k).isSome = true) : mrgF f g ks = bothF f g := by
  funext a
  unfold mrgF bothF
  by_cases e : a ∈ ks
  · obtain ⟨y, hy⟩ := Option.isSome_iff_exists.1 (h2 a e)
    simp [e, hy]
  · cases hg : g a with
    | none => simp [e]
    | some y => exact absurd (h a (by rw [hg]; rfl)) e
structure CpAt (w wr : World) (bd bs r nd n : Nat) (f g : Nm → Option LN) (kr ks : List Nm) (cnt : Nat) : Prop where
  rng : RangeF LN.val wr bs r n g kr cnt
  dst : MapF LN.val wr bd (nd + ks.length) (mrgF f g ks)
  same : Same (fun k => k = bd) w wr
  r_ge : w.heap.size ≤ r
  all : ∀ k ∈ ks, (g k).isSome = true
  bd_lt : bd < w.heap.size
  ne : bd ≠ bs
section
variable {w wr W' : World} {bd bs r nd n : Nat} {f g : Nm → Option LN} {kr ks : List Nm} {cnt : Nat}
theorem CpAt.below (h : CpAt w wr bd bs r nd n f g kr ks cnt) (hb : Below wr.heap.size wr W') : CpAt w W' bd bs r nd n f g kr ks cnt :=
  ⟨h.rng.below hb, h.dst.below hb, h.same.trans (Same.of_below hb), h.r_ge, h.all, h.bd_lt, h.ne⟩
theorem CpAt.came (h : CpAt w wr bd bs r nd n f g kr ks cnt) {kh km : Int} {y : LN} {cnt' : Nat} (hN : NextF LN.val wr bs r n cnt g kr kh km y W' cnt') : CpAt w W' bd bs r nd n f g (kr ++ [(kh, km)]) ks cnt' :=
  ⟨hN.range, h.dst.kept hN.grown (fun e => by have h1 := h.r_ge; have h2 := h.bd_lt; have := Option.some.inj e; omega), h.same.reg (Same.of_grown hN.grown (fun k e => by cases e; exact .inr h.r_ge)), h.r_ge, h.all, h.bd_lt, h.ne⟩
theorem CpAt.put {k : Nm} {y : LN} (h : CpAt w wr bd bs r nd n f g (ks ++ [k]) ks cnt) (hk : g k = some y) (hm : MapF LN.val W' bd (nd + ks.length + 1) (updF (mrgF f g ks) k y)) (ht : wr.mapTurned W' bd) : CpAt w W' bd bs r nd n f g (ks ++ [k]) (ks ++ [k]) cnt := by
  have h1 := h.r_ge
  have h2 := h.bd_lt
  refine ⟨h.rng.of_blocks (ht.grown.block _ h.rng.map.lt (fun e => h.ne (Option.some.inj e).symm)) (ht.grown.block _ h.rng.lt (fun e => by have := Option.some.inj e; omega)), ?_, h.same.reg (Same.of_grown ht.grown (fun k e => by cases e; exact .inl rfl)), h.r_ge, fun a ha => ?_, h.bd_lt, h.ne⟩
  · rw [mrgF_snoc hk, List.length_append]
    exact hm
  · rcases List.mem_append.1 ha with ha | ha
    · exact h.all a ha
    · rw [List.mem_singleton.1 ha, hk]; rfl
end
set_option maxHeartbeats 8000000 in
set_option maxRecDepth 100000 in
theorem mapsCopy_any (bd nd bs n : Nat) (f g : Nm → Option LN) (w : World) (hd : MapF LN.val w bd nd f) (hs : MapF LN.val w bs n g) (hne : bd ≠ bs) (hlen : nd + n ≤ 1000000) :
    Calls Tryz.prog 64 #[.map (some bd), .map (some bs)] w fun e w' => e = .returned (.tuple #[]) ∧ MapF LN.val w' bd (nd + n) (bothF f g) ∧ Same (fun k => k = bd) w w' := by
  have I43 := Lib.hid (show ∀ (m : NoteV) (a : Option Addr) (c : Nat), (Tryz.prog.info? 47).map (·.size) = some (noteA m a c).size from fun m a c => by kernel_rfl)
  have HLEN := Lib.hid hlen; clear hlen
  go_enter Tryz.func64, Tryz.ntmps64
  go_wp2_with (first
    | (at_range; refine wpList_range_nm _ rfl _ 119 47 rfl Tryz.underlying119 bs n rfl hs ?_; intro w0 cnt0 hrg0 hg0 hs0)
    | fail)
  go_frame
  obtain ⟨r, hr⟩ : ∃ r, Hid (w.heap.size = r) := ⟨_, Lib.hid rfl⟩
  have b0 : Below w.heap.size w w0 := (Below.refl _ _).grown hg0 (Nat.le_refl _) (fun q hq => by cases hq)
  have S0 : Hid (CpAt w w0 bd bs r nd n f g [] [] cnt0) := Lib.hid ⟨by rw [← hr.out]; exact hrg0, by rw [mrgF_nil]; exact hd.below b0, Same.of_below b0, by rw [← hr.out]; exact Nat.le_refl _, (fun k hk => by cases hk), hd.lt, hne⟩
  rw [hr.out]
  clear hrg0 hg0 hs0 b0 hd hs hne
  go_loopw [10] (fun _ wr => ∃ (ks : List Nm) (cnt : Nat), Hid (CpAt w wr bd bs r nd n f g ks ks cnt)) (fun _ wr => wr.rangeLeft bs r)
  case atStart => exact ⟨_, _, S0⟩
  case round =>
    clear S0
    obtain ⟨ks, cnt, HS⟩ := hrel
    go_upto_region 2 with (first
      | (at_next; refine wpList_next_nm wr rfl _ rfl bs r n cnt ks rfl HS.out.rng ?_ ?_)
      | fail)
    · intro hall
      have HALL := Lib.hid hall; clear hall
      go_wp2_with fail
      go_end0
      exact ⟨rfl, by have h1 := HS.out.dst.mono (m := nd + n) (by have := HS.out.rng.count; omega); rwa [mrgF_all HALL.out HS.out.all] at h1, HS.out.same⟩
    · intro kh km y w1 cnt1 HN hen
      have HF := Lib.hid HN.out.at_
      have HKok := Lib.hid HN.out.ok
      have S1 := Lib.hid (HS.out.came HN.out)
      have HKL : Hid (ks.length + 1 ≤ n) := Lib.hid (by have := HN.out.range.count; rw [List.length_append] at this; simp at this; omega)
      have HM := Lib.hid (show wr.rangeLeft bs r = cnt from HS.out.rng.left_eq)
      have HLT := Lib.hid HN.out.lt
      clear HS HN
      unfold LN.val at hen
      go_upto_region 3 with (first
        | (refine wpList_store_newp (w1.alloc (.cells #[.int .i64 kh, .int .i64 km] 45)) rfl 47 _ _ rfl (w1.heap.size + 1) (by simp) _ (noteA y.n y.sa y.sc) rfl rfl (I43.out _ _ _) rfl (noteA_one y.n y.sa y.sc) ?_))
      clear hen
      have hbt : Below w1.heap.size w1 ((w1.alloc (.cells #[.int .i64 kh, .int .i64 km] 45)).alloc (.cells (noteA y.n y.sa y.sc) 47)) := ((Below.refl _ _).alloc (Nat.le_refl _) _).alloc (by simp) _
      have CS := Lib.hid (S1.out.below hbt)
      have CN := Lib.hid (heap_before _ (.cells (noteA y.n y.sa y.sc) 47) _ _ (heap_last w1 (.cells #[.int .i64 kh, .int .i64 km] 45)))
      have CT := Lib.hid (heap_at (w1.alloc (.cells #[.int .i64 kh, .int .i64 km] 45)) (.cells (noteA y.n y.sa y.sc) 47) (w1.heap.size + 1) (by simp))
      obtain ⟨p4, hp4⟩ : ∃ p4, Hid (w1.heap.size = p4) := ⟨_, Lib.hid rfl⟩
      obtain ⟨p5, hp5⟩ : ∃ p5, Hid (p4 + 1 = p5) := ⟨_, Lib.hid rfl⟩
      rw [hp4.out] at CN CT ⊢
      rw [hp5.out] at CT ⊢
      generalize (w1.alloc (.cells #[.int .i64 kh, .int .i64 km] 45)).alloc (.cells (noteA y.n y.sa y.sc) 47) = wt at *
      clear hbt S1
      have n0 := cell_of CN.out 0 (.int .i64 kh) rfl
      have n1 := cell_of CN.out 1 (.int .i64 km) rfl
      obtain ⟨w5, hrun, hm5, ht5⟩ := run_put_nm (t := 119) CS.out.dst (by have := HLEN.out; have := HKL.out; unfold maxLen; omega) Tryz.underlying119 kh km HKok.out y
      have S5 := Lib.hid (CS.out.put HF.out hm5 ht5)
      clear hm5 ht5
      unfold LN.val at hrun
      go_wp2_with (first
        | (refine wpList_load_row rfl 47 _ rfl p5 rfl 47 (noteA y.n y.sa y.sc) (0, 0) _ CT.out Tryz.underlying47 rfl (I43.out _ _ _) ?_)
        | fail)
      go_roundw
      case rel => exact ⟨_, _, S5⟩
      case measure => rw [S5.out.rng.left_eq, HM.out]; exact HLT.out
theorem ok_same {W W' : World} {x : LN} {b : Nat} (h : x.ok W) (hs : Same (fun k => k = b) W W') (hb : ∃ es cl, W.heap[b]? = some (.map es cl)) : x.ok W' := by
  obtain ⟨es, cl, hb⟩ := hb
  unfold LN.ok RdI at *
  refine ⟨h.1, h.2.1, h.2.2.1, h.2.2.2.imp id ?_⟩
  rintro ⟨g, off, hsa, hat⟩
  refine ⟨g, off, hsa, fun j v hv => ?_⟩
  have h1 := hat j v hv
  simp only [World.cell?] at h1 ⊢
  have hg : g ≠ b := fun e => by subst e; rw [hb] at h1; simp at h1
  have hlt : g < W.heap.size := by
    by_cases h2 : g < W.heap.size
    · exact h2
    · rw [Array.getElem?_eq_none (by omega)] at h1; simp at h1
  rw [hs.block g hlt hg]
  exact h1
structure SetAt (w W : World) (l : List NoteV) (b : Nat) (xs : List LN) : Prop where
  eq : xs.map LN.n = l
  ok : ∀ x ∈ xs, x.ok W
  map : MapF LN.val W b l.length (setF xs)
  ge : w.heap.size ≤ b
theorem SetAt.below {w W W' : World} {l : List NoteV} {b : Nat} {xs : List LN} (h : SetAt w W l b xs) (hb : Below W.heap.size W W') : SetAt w W' l b xs := ⟨h.eq, fun x hx => (h.ok x hx).below hb, h.map.below hb, h.ge⟩
def BothRet (f : FrV) (l m : List NoteV) (w : World) (e : Ending) (W : World) : Prop :=
  (¬ ((checkSetP f l).1 = 0 ∧ (checkSetP f m).1 = 0) ∧ ∃ o1 o2, e = .returned (.tuple #[.map o1, .map o2, .bool false])) ∨
  ((checkSetP f l).1 = 0 ∧ (checkSetP f m).1 = 0 ∧ ∃ b xs c ys, e = .returned (.tuple #[.map (some b), .map (some c), .bool true]) ∧ SetAt w W l b xs ∧ SetAt w W m c ys ∧ b ≠ c)
set_option maxHeartbeats 8000000 in
set_option maxRecDepth 100000 in
theorem both_any (f : FrV) (a : Option Addr) (nn nc : Nat) (l : List NoteV) (ma : Option Addr) (mn mc : Nat) (m : List NoteV) (w : World) (hr : RdNs w a nn nc l) (hok : ∀ x ∈ l, x.Ok) (hm : RdNs w ma mn mc m) (hokm : ∀ x ∈ m, x.Ok) :
    Calls Tryz.prog 62 #[f.val, .slice a nn nc, .slice ma mn mc] w fun e w' => BothRet f l m w e w' ∧ Below w.heap.size w w' := by
  have S1 := Lib.hid (fun W hb => setOf_any f a nn nc l W (hr.below (show Below w.heap.size w W from hb)) hok)
  have S2 := Lib.hid (fun W hb => setOf_any f ma mn mc m W (hm.below (show Below w.heap.size w W from hb)) hokm)
  clear hr hok hm hokm
  have hvl : f.val = .agg #[.int .i64 f.rings, .int .i64 f.sectors, .int .i64 f.wide] := rfl
  rw [hvl] at S1 S2 ⊢
  clear hvl
  have B0 := Lib.hid ((Below.refl w.heap.size w).alloc (Nat.le_refl _) (.cells #[.int .i64 f.rings, .int .i64 f.sectors, .int .i64 f.wide] 23))
  have F0 := Lib.hid (heap_last w (.cells #[.int .i64 f.rings, .int .i64 f.sectors, .int .i64 f.wide] 23))
  go_enter Tryz.func62, Tryz.ntmps62
  go_upto_region 1 with fail
  obtain ⟨pF, hpF⟩ : ∃ pF, Hid (w.heap.size = pF) := ⟨_, Lib.hid rfl⟩
  rw [hpF.out] at F0 ⊢
  generalize w.alloc (.cells #[.int .i64 f.rings, .int .i64 f.sectors, .int .i64 f.wide] 23) = w0 at *
  have f0 := cell_of F0.out 0 (.int .i64 f.rings) rfl
  have f1 := cell_of F0.out 1 (.int .i64 f.sectors) rfl
  have f2 := cell_of F0.out 2 (.int .i64 f.wide) rfl
  go_wp2_with fail
  refine (S1.out w0 B0.out).mono ?_
  clear f0 f1 f2
  rintro e w1 ⟨h1, hb1⟩
  have B1 := Lib.hid (B0.out.trans (hb1.mono B0.out.size))
  have F1 := Lib.hid (below_blk hb1 F0.out)
  clear hb1 F0
  have f0 := cell_of F1.out 0 (.int .i64 f.rings) rfl
  have f1 := cell_of F1.out 1 (.int .i64 f.sectors) rfl
  have f2 := cell_of F1.out 2 (.int .i64 f.wide) rfl
  rcases h1 with ⟨hbad, rfl⟩ | ⟨hset, xs, b, rfl, h2, h3, h4, h5⟩
  · have BAD := Lib.hid hbad; clear hbad
    go_wp2_with fail
    refine (S2.out w1 B1.out).mono ?_
    clear f0 f1 f2
    rintro e w2 ⟨h1, hb2⟩
    have B2 := Lib.hid (B1.out.trans (hb2.mono B1.out.size))
    clear hb2
    rcases h1 with ⟨_, rfl⟩ | ⟨_, ys, c, rfl, _, _, _, _⟩
    · go_wp2_with fail
      go_returns
      exact ⟨.inl ⟨fun h => BAD.out h.1, none, none, rfl⟩, B2.out⟩
    · go_wp2_with fail
      go_returns
      exact ⟨.inl ⟨fun h => BAD.out h.1, none, some c, rfl⟩, B2.out⟩
  · have SA := Lib.hid (show SetAt w w1 l b xs from ⟨h2, h3, h4, Nat.le_trans B0.out.size h5⟩)
    have HS := Lib.hid hset
    clear hset h2 h3 h4 h5
    go_wp2_with fail
    refine (S2.out w1 B1.out).mono ?_
    clear f0 f1 f2
    rintro e w2 ⟨h1, hb2⟩
    have B2 := Lib.hid (B1.out.trans (hb2.mono B1.out.size))
    have SA2 := Lib.hid (SA.out.below hb2)
    clear hb2
    rcases h1 with ⟨hbad, rfl⟩ | ⟨hset, ys, c, rfl, h2, h3, h4, h5⟩
    · have BAD := Lib.hid hbad; clear hbad
      go_wp2_with fail
      go_returns
      exact ⟨.inl ⟨fun h => BAD.out h.2, some b, none, rfl⟩, B2.out⟩
    · have HS2 := Lib.hid hset
      have SB := Lib.hid (show SetAt w w2 m c ys from ⟨h2, h3, h4, Nat.le_trans B1.out.size h5⟩)
      have NE : Hid (b ≠ c) := Lib.hid (by have := SA.out.map.lt; omega)
      clear hset h2 h3 h4 h5
      go_wp2_with fail
      go_returns
      exact ⟨.inr ⟨HS.out, HS2.out, b, xs, c, ys, rfl, SA2.out, SB.out, NE.out⟩, B2.out⟩
end Go.Proofs.YtlnhppgfhkkidaaGreat
namespace Go.Proofs.YtlnhppgfhkkidaaGreat
set_option linter.unusedSimpArgs false
open Go.RowKit

theorem evCells_len (l : List EvV) : (evCells l).length = l.length * 21 := by
  rw [evCells, flat_len 21 _ (by intro r hr; obtain ⟨e, _, rfl⟩ := List.mem_map.1 hr; rfl), List.length_map]
theorem RdEs.of_rd {W : World} {a : Option Addr} {n c : Nat} {l : List EvV} (h : RdA W 21 a n c (evCells l)) : RdEs W a n c l := by
  refine ⟨by have := h.len; rw [evCells_len] at this; omega, h.le, h.max, h.2.2.2.imp id ?_⟩
  rintro ⟨b, off, rfl, h4⟩
  refine ⟨b, off, rfl, fun i x hx j v hv => ?_⟩
  have hj : j < 21 := (List.getElem?_eq_some_iff.1 hv).1
  have h5 := flat_at 21 (l.map EvV.cells) (by intro r hr; obtain ⟨y, _, rfl⟩ := List.mem_map.1 hr; rfl) i x.cells (by rw [List.getElem?_map, hx]; rfl) j hj
  have h6 := h4 (i * 21 + j) v (h5.trans hv)
  rwa [← Nat.add_assoc] at h6
end Go.Proofs.YtlnhppgfhkkidaaGreat
namespace Go.Proofs.YtlnhppgfhkkidaaGreat
set_option linter.unusedSimpArgs false
open Go.RowKit

theorem quiet_load_note {C : World → Prop} {w : World} {o : Oper} {a : Act} (x : Operand) (ho : o.op = .load 47 x) (p off : Nat) (hx : a.eval x = .pointer (some ⟨p, off, none⟩)) (n : NoteV) (sa : Option Addr) (sc : Nat)
    (h : w.rangeAt p off (n.cells sa sc)) : o.quietAt Tryz.prog a C w (.agg (noteA n sa sc)) := by
  unfold Oper.quietAt execOp
  simp only [ho, hx, Instr.loadAt, Instr.sureAddr, Sem.run_bind, Sem.run_pure, Result.andThen_ok, run_loadVar_mid w p off 47 (n.cells sa sc) _ h Tryz.underlying47 rfl (size43 n sa sc)]
  exact ⟨rfl, rfl⟩
theorem cell_same {W W' : World} {b : Nat} {es : Array MapEntry} {ck : Nat} (hs : Same (fun q => q = b) W W') (hb : W.heap[b]? = some (.map es ck)) {d : Addr} {v : Value} (h : W.cell? d = some v) : W'.cell? d = some v := by
  have hlt : d.block < W.heap.size := World.block_lt_of_cell? W _ h
  by_cases e : d.block = b
  · simp [World.cell?, e, hb] at h
  · rw [← h]
    simp only [World.cell?, hs.block d.block hlt e]
theorem RdEs.same {W W' : World} {b : Nat} {es : Array MapEntry} {ck : Nat} {a : Option Addr} {n c : Nat} {l : List EvV} (h : RdEs W a n c l) (hs : Same (fun q => q = b) W W') (hb : W.heap[b]? = some (.map es ck)) : RdEs W' a n c l := by
  refine ⟨h.1, h.2.1, h.2.2.1, h.2.2.2.imp id ?_⟩
  rintro ⟨b', off, rfl, h4⟩
  exact ⟨b', off, rfl, fun i x hx j v hv => cell_same hs hb (h4 i x hx j v hv)⟩
theorem RdA.same {W W' : World} {b k : Nat} {es : Array MapEntry} {ck : Nat} {a : Option Addr} {n c : Nat} {l : List Value} (h : RdA W k a n c l) (hs : Same (fun q => q = b) W W') (hb : W.heap[b]? = some (.map es ck)) : RdA W' k a n c l := by
  refine ⟨h.1, h.2.1, h.2.2.1, h.2.2.2.imp id ?_⟩
  rintro ⟨b', off, rfl, h4⟩
  exact ⟨b', off, rfl, fun i x hx => cell_same hs hb (h4 i x hx)⟩
end Go.Proofs.YtlnhppgfhkkidaaGreat
namespace Go.Proofs.YtlnhppgfhkkidaaGreat
set_option linter.unusedSimpArgs false
open Go.RowKit

def TAt (w : World) (b : Nat) (T : List Int) : Prop := w.heap[b]? = some (.cells (T.map intV).toArray 3 (0, 0))
theorem TAt.at {w : World} {b : Nat} {T : List Int} (h : TAt w b T) {i : Nat} {v : Int} (hv : T[i]? = some v) : w.cell? ⟨b, i, none⟩ = some (.int .i64 v) := cell_of h i _ (by simp [hv, intV])
theorem TAt.set {w : World} {b : Nat} {T : List Int} (h : TAt w b T) (i : Nat) (v : Int) : TAt (w.setCell ⟨b, i, none⟩ (.int .i64 v)) b (T.set i v) := by
  unfold TAt at *
  have hb := blk_lt h
  simp only [World.setCell, Array.getElem?_modify, h]
  simp [intV, List.map_set]
theorem TAt.free {w : World} {b : Nat} {T : List Int} (h : TAt w b T) (i : Nat) : w.frozen? ⟨b, i, none⟩ = false := by
  unfold TAt at h
  simp [World.frozen?, h]
theorem RdI.ne {S : Nat → Prop} {W W' : World} {a : Option Addr} {n c : Nat} {l : List Int} (h : RdI W a n c l) (hs : Same S W W') (hne : ∀ x off, a = some ⟨x, off, none⟩ → ¬ S x) : RdI W' a n c l := by
  refine ⟨h.1, h.2.1, h.2.2.1, h.2.2.2.imp id ?_⟩
  rintro ⟨b', off, rfl, h4⟩
  refine ⟨b', off, rfl, fun i x hx => ?_⟩
  have h5 := h4 i x hx
  rw [← h5]
  simp only [World.cell?, hs.block b' (World.block_lt_of_cell? W _ h5) (hne b' off rfl)]

end Go.Proofs.YtlnhppgfhkkidaaGreat
namespace Go.Proofs.YtlnhppgfhkkidaaGreat
set_option linter.unusedSimpArgs false
open Go.RowKit

theorem rdNm_at {W : World} {a : Option Addr} {n c : Nat} {l : List Nm} (h : RdA W 2 a n c (nmCells l)) (h0 : 0 < n) : ∃ b off, a = some ⟨b, off, none⟩ ∧ ∀ i x, l[i]? = some x → W.cell? ⟨b, off + i * 2, none⟩ = some (.int .i64 x.1) ∧ W.cell? ⟨b, off + i * 2 + 1, none⟩ = some (.int .i64 x.2) := by
  rcases h.2.2.2 with h5 | ⟨b, off, rfl, h4⟩
  · have := h.2.1; omega
  · refine ⟨b, off, rfl, fun i x hx => ?_⟩
    rw [nmCells_eq] at h4
    have hf := fun j hj => flat_at 2 (l.map nmRow) (by intro r hr; obtain ⟨y, _, rfl⟩ := List.mem_map.1 hr; rfl) i (nmRow x) (by rw [List.getElem?_map, hx]; rfl) j hj
    have h6 := h4 (i * 2 + 0) _ ((hf 0 (by omega)).trans rfl)
    have h7 := h4 (i * 2 + 1) _ ((hf 1 (by omega)).trans rfl)
    exact ⟨h6, by rwa [← Nat.add_assoc] at h7⟩
end Go.Proofs.YtlnhppgfhkkidaaGreat
namespace Go.Proofs.YtlnhppgfhkkidaaGreat
set_option linter.unusedSimpArgs false
open Go.RowKit

theorem lnCells_len (xs : List LN) : (lnCells xs).length = xs.length * 19 := by
  rw [lnCells, flat_len 19 _ (by intro r hr; obtain ⟨e, _, rfl⟩ := List.mem_map.1 hr; rfl), List.length_map]
theorem rdNs_of {W : World} {a : Option Addr} {n c : Nat} {xs : List LN} (h : RdA W 19 a n c (lnCells xs)) (hs : ∀ x ∈ xs, x.ok W) : RdNs W a n c (xs.map LN.n) := by
  have hl : xs.length = n := by have := h.len; rw [lnCells_len] at this; omega
  refine ⟨by rw [List.length_map, hl], h.2.1, h.2.2.1, ?_⟩
  rcases h.2.2.2 with h0 | ⟨b, off, rfl, h4⟩
  · exact .inl h0
  · rcases Nat.eq_zero_or_pos n with hn | hn
    · refine .inr ⟨b, off, rfl, fun i x hx => ?_⟩
      have : xs = [] := List.eq_nil_of_length_eq_zero (by omega)
      subst this
      simp at hx
    · obtain ⟨b', off', e, hat⟩ := ln_at h hn
      cases e
      refine .inr ⟨b, off, rfl, fun i x hx => ?_⟩
      rw [List.getElem?_map] at hx
      cases hy : xs[i]? with
      | none => simp [hy] at hx
      | some y =>
        simp only [hy, Option.map_some, Option.some.injEq] at hx
        subst hx
        exact ⟨y.sa, y.sc, hat i y hy, hs y (List.mem_of_getElem? hy)⟩
section
variable (s1 : Option Addr) (c1 : Nat) (s2 : Option Addr) (c2 : Nat) (s3 : Option Addr) (c3 : Nat)
end
end Go.Proofs.YtlnhppgfhkkidaaGreat
namespace Go.Proofs.YtlnhppgfhkkidaaGreat
set_option linter.unusedSimpArgs false
open Go.RowKit

def forkV (f : FrV) (l m : List NoteV) : Nm × Int := if (checkSetP f l).1 = 0 ∧ (checkSetP f m).1 = 0 then (match forkAt l m with | some a => (a, 0) | none => ((0, 0), 3)) else ((0, 0), 1)
theorem forkV_bad {f : FrV} {l m : List NoteV} (h : ¬ ((checkSetP f l).1 = 0 ∧ (checkSetP f m).1 = 0)) : forkV f l m = ((0, 0), 1) := by unfold forkV; rw [if_neg h]
theorem forkV_none {f : FrV} {l m : List NoteV} (h : (checkSetP f l).1 = 0) (h2 : (checkSetP f m).1 = 0) (h3 : forkAt l m = none) : forkV f l m = ((0, 0), 3) := by unfold forkV; rw [if_pos ⟨h, h2⟩, h3]
theorem forkV_some {f : FrV} {l m : List NoteV} {a : Nm} (h : (checkSetP f l).1 = 0) (h2 : (checkSetP f m).1 = 0) (h3 : forkAt l m = some a) : forkV f l m = (a, 0) := by unfold forkV; rw [if_pos ⟨h, h2⟩, h3]
def mergeE (f : FrV) (l m : List NoteV) : Int := if (checkSetP f l).1 = 0 ∧ (checkSetP f m).1 = 0 then (match forkAt l m with | some _ => 81 | none => 0) else 1
def MergeRet (f : FrV) (l m : List NoteV) (e : Ending) (W : World) : Prop :=
  ∃ (ua : Option Addr) (un uc : Nat) (u : List NoteV), e = .returned (.tuple #[.slice ua un uc, .int .i64 (mergeE f l m)]) ∧ RdNs W ua un uc u ∧ (mergeE f l m = 0 → IsU l m u) ∧ (mergeE f l m ≠ 0 → u = [])
theorem forkV_cases (f : FrV) (l m : List NoteV) : (¬ ((checkSetP f l).1 = 0 ∧ (checkSetP f m).1 = 0) ∧ forkV f l m = ((0, 0), 1) ∧ mergeE f l m = 1) ∨
    ((checkSetP f l).1 = 0 ∧ (checkSetP f m).1 = 0 ∧ ((∃ a, forkAt l m = some a ∧ forkV f l m = (a, 0) ∧ mergeE f l m = 81) ∨ (forkAt l m = none ∧ forkV f l m = ((0, 0), 3) ∧ mergeE f l m = 0))) := by
  by_cases h : (checkSetP f l).1 = 0 ∧ (checkSetP f m).1 = 0
  · refine .inr ⟨h.1, h.2, ?_⟩
    cases h2 : forkAt l m with
    | none => exact .inr ⟨rfl, forkV_none h.1 h.2 h2, by unfold mergeE; rw [if_pos h, h2]⟩
    | some a => exact .inl ⟨a, rfl, forkV_some h.1 h.2 h2, by unfold mergeE; rw [if_pos h, h2]⟩
  · exact .inl ⟨h, forkV_bad h, by unfold mergeE; rw [if_neg h]⟩
theorem rdNs_nil (W : World) : RdNs W none 0 0 [] := ⟨rfl, Nat.le_refl _, Nat.zero_le _, .inl rfl⟩
theorem MergeRet.bad {f : FrV} {l m : List NoteV} {W : World} {e : Ending} (he : e = .returned (.tuple #[.slice none 0 0, .int .i64 (mergeE f l m)])) (h : mergeE f l m ≠ 0) : MergeRet f l m e W :=
  ⟨none, 0, 0, [], he, rdNs_nil W, fun h2 => absurd h2 h, fun _ => rfl⟩
theorem MergeRet.good {f : FrV} {l m : List NoteV} {W : World} {e : Ending} {ua : Option Addr} {un uc : Nat} {u : List NoteV} (he : e = .returned (.tuple #[.slice ua un uc, .int .i64 (mergeE f l m)])) (h : mergeE f l m = 0) (hr : RdNs W ua un uc u) (hu : IsU l m u) : MergeRet f l m e W :=
  ⟨ua, un, uc, u, he, hr, fun _ => hu, fun h2 => absurd h h2⟩
structure MgAt (V W : World) (a : Option Addr) (c n : Nat) (ys : List LN) : Prop where
  bel : Below V.heap.size V W
  own : W.ownsRow V.heap.size 47 19 (.slice a n c) n (lnCells ys)
  str : EvOwn W V.heap.size ys
  len : ys.length = n
theorem MgAt.start (V : World) : MgAt V V none 0 0 [] := ⟨Below.refl _ _, World.ownsRow_nil _ _ _ _, (fun x hx => by cases hx), rfl⟩
theorem MgAt.below {V W W' : World} {a : Option Addr} {c n : Nat} {ys : List LN} (h : MgAt V W a c n ys) (hb : Below W.heap.size W W') : MgAt V W' a c n ys := ⟨h.bel.trans (hb.mono h.bel.size), own_below h.own hb, h.str.below hb, h.len⟩
theorem MgAt.add {V W W' : World} {a a' : Option Addr} {c c' n : Nat} {ys : List LN} {x : LN} (h : MgAt V W a c n ys) (hx : W.ownsRow V.heap.size 3 1 (.slice x.sa x.n.strokes.length x.sc) x.n.strokes.length (x.n.strokes.map intV))
    (ho : W'.ownsRow V.heap.size 47 19 (.slice a' (n + 1) c') (n + 1) (lnCells ys ++ x.n.cells x.sa x.sc)) (hg : (W.alloc (.cells (noteA x.n x.sa x.sc) 47)).grownBy W' (Value.ownBlock (.slice a n c))) : MgAt V W' a' c' (n + 1) (ys ++ [x]) := by
  have bn : Below W.heap.size W (W.alloc (.cells (noteA x.n x.sa x.sc) 47)) := (Below.refl _ _).alloc (Nat.le_refl _) _
  have h2 := h.below bn
  refine ⟨h2.bel.grown hg h2.bel.size (fun k hk => (h2.own.lt k hk).1), by rw [lnCells_snoc]; exact ho, fun y hy => ?_, by rw [List.length_append, h.len]; rfl⟩
  have h0 : (W.alloc (.cells (noteA x.n x.sa x.sc) 47)).ownsRow V.heap.size 3 1 (.slice y.sa y.n.strokes.length y.sc) y.n.strokes.length (y.n.strokes.map intV) := by
    rcases List.mem_append.1 hy with hy | hy
    · exact h2.str y hy
    · rw [List.mem_singleton.1 hy]; exact own_below hx bn
  exact h0.kept hg (own_apart h0 h2.own (by decide))
theorem MgAt.rd {V W : World} {a : Option Addr} {c n : Nat} {ys : List LN} (h : MgAt V W a c n ys) : RdNs W a n c (ys.map LN.n) := rdNs_of (RdA.of_own h.own) (fun y hy => RdA.of_own (h.str y hy))
end Go.Proofs.YtlnhppgfhkkidaaGreat
namespace Go.Proofs.YtlnhppgfhkkidaaGreat
set_option linter.unusedSimpArgs false
open Go.RowKit

def forkP (l m : List NoteV) : Nm × Bool := match forkAt l m with | some a => (a, true) | none => ((0, 0), false)
theorem nmCells_at {W : World} {a : Option Addr} {n c : Nat} {l : List Nm} (h : RdA W 2 a n c (nmCells l)) {q : Nat} {k : Nm} (hk : l[q]? = some k) : ∃ b off, a = some ⟨b, off, none⟩ ∧ W.cell? ⟨b, off + q * 2, none⟩ = some (.int .i64 k.1) ∧ W.cell? ⟨b, off + q * 2 + 1, none⟩ = some (.int .i64 k.2) := by
  have hl : l.length = n := by have := h.len; rw [nmCells_len] at this; omega
  have hq := (List.getElem?_eq_some_iff.1 hk).1
  obtain ⟨b, off, rfl, hat⟩ := rdNm_at h (by omega)
  exact ⟨b, off, rfl, hat q k hk⟩
set_option maxHeartbeats 16000000 in
set_option maxRecDepth 100000 in
theorem fork_any (b c : Nat) (l m : List NoteV) (xs ys : List LN) (w0 w : World) (ha : SetAt w0 w l b xs) (hb : SetAt w0 w m c ys) (hp : l.Pairwise ltN) (hd : (m.map nmOf).Nodup) (hokl : ∀ x ∈ l, x.Ok) (h4 : l.length ≤ 1000) :
    Calls Tryz.prog 63 #[.map (some b), .map (some c)] w fun e w' => e = .returned (.tuple #[.agg #[.int .i64 (forkP l m).1.1, .int .i64 (forkP l m).1.2], .bool (forkP l m).2]) ∧ Below w.heap.size w w' := by
  have I43 := Lib.hid (show ∀ (m : NoteV) (a : Option Addr) (c : Nat), (Tryz.prog.info? 47).map (·.size) = some (noteA m a c).size from fun m a c => by kernel_rfl)
  have I2 := Lib.hid (show ∀ (x y : Value), (Tryz.prog.info? 45).map (·.size) = some (#[x, y] : Array Value).size from fun x y => by kernel_rfl)
  have J2 : (Tryz.prog.info? 45).map (·.size) = some 2 := by kernel_rfl
  have SA := Lib.hid ha
  have SB := Lib.hid hb
  have HP := Lib.hid hp
  have HD := Lib.hid hd
  have HOK := Lib.hid hokl
  have H4 := Lib.hid h4
  have NDL : Hid (((xs.map LN.n).map nmOf).Nodup) := Lib.hid (by rw [SA.out.eq]; exact set_nodup HP.out)
  have NDM : Hid (((ys.map LN.n).map nmOf).Nodup) := Lib.hid (by rw [SB.out.eq]; exact HD.out)
  clear ha hb hp hd hokl h4
  have B0 := Lib.hid ((Below.refl w.heap.size w).alloc (Nat.le_refl _) (.cells #[.int .i64 0, .int .i64 0] 45))
  have P0 := Lib.hid (heap_last w (.cells #[.int .i64 0, .int .i64 0] 45))
  have SZ : Hid (w.heap.size ≤ w.heap.size) := Lib.hid (Nat.le_refl _)
  go_enter Tryz.func63, Tryz.ntmps63
  go_upto_region 1 with fail
  obtain ⟨p4, hp4⟩ : ∃ p, Hid (w.heap.size = p) := ⟨_, Lib.hid rfl⟩
  replace SZ : Hid (w.heap.size ≤ p4) := Lib.hid (by rw [hp4.out]; exact Nat.le_refl _)
  rw [hp4.out] at P0
  rw [hp4.out]
  generalize w.alloc (.cells #[.int .i64 0, .int .i64 0] 45) = W0 at *
  go_wp2_with fail
  refine (names_any b l.length (setF xs) W0 (SA.out.map.below B0.out) H4.out).mono ?_
  rintro e W1 ⟨⟨na, nc, ks, rfl, h1, h2, h3, h4, h5⟩, b1⟩
  have B1 := Lib.hid (B0.out.trans (b1.mono B0.out.size))
  have P1 := Lib.hid (below_blk b1 P0.out)
  have RN := Lib.hid (RdA.of_own h1)
  have KE : Hid (ks = l.map nmOf) := Lib.hid (by
    have := names_of (xs := xs) (by rw [SA.out.eq]; exact HP.out) h2 h4 h3
    rwa [SA.out.eq] at this)
  have KL : Hid (ks.length = l.length) := Lib.hid (by rw [KE.out, List.length_map])
  obtain ⟨kn, hkn⟩ : ∃ kn, Hid (ks.length = kn) := ⟨_, Lib.hid rfl⟩
  rw [hkn.out] at RN KL ⊢
  clear b1 h1 h2 h3 h4 h5 B0 P0
  have HK4 : Hid (kn ≤ 1000) := Lib.hid (by have := H4.out; have := KL.out; omega)
  go_wp2_with fail
  go_loopw [13] (fun i wr => ∃ (q : Nat), i = .int .i64 (q : Int) ∧ q ≤ kn ∧ Hid (∀ j y, j < q → l[j]? = some y → badB m y = false) ∧ Hid (Below W1.heap.size W1 wr)) (fun i _ => kn - (intOf i).toNat)
  case atStart => exact ⟨0, rfl, Nat.zero_le _, Lib.hid (fun j y h => by omega), Lib.hid (Below.refl _ _)⟩
  case round =>
    obtain ⟨q, rfl, hq, HA, BB⟩ := hrel
    have BW := Lib.hid (B1.out.trans (BB.out.mono B1.out.size))
    by_cases hlt : q < kn
    · have t0 : decide ((q : Int) < (kn : Int)) = true := by simp; omega
      obtain ⟨xn, Hx⟩ : ∃ xn, l[q]? = some xn := ⟨_, List.getElem?_eq_getElem (by rw [← KL.out]; exact hlt)⟩
      obtain ⟨x, hxm, hxn⟩ : ∃ x ∈ xs, x.n = xn := by
        have h1 := List.mem_of_getElem? Hx
        rw [← SA.out.eq] at h1
        obtain ⟨x, h2, h3⟩ := List.mem_map.1 h1
        exact ⟨x, h2, h3⟩
      subst hxn
      have HLX := Lib.hid Hx
      have GX : Hid (setF xs (x.n.house, x.n.num) = some x) := Lib.hid (setF_mem NDL.out hxm)
      have XOK := Lib.hid (SA.out.ok x hxm)
      have NOK : Hid (nmOk (x.n.house, x.n.num)) := Lib.hid (by have := HOK.out x.n (List.mem_of_getElem? Hx); exact ⟨this.house, this.num⟩)
      obtain ⟨kb, koff, rfl, hk1, hk2⟩ := nmCells_at (RN.out.below BB.out) (show ks[q]? = some (x.n.house, x.n.num) by rw [KE.out, List.getElem?_map, Hx]; rfl)
      obtain ⟨o, ho⟩ : ∃ o, Hid (koff + q * 2 = o) := ⟨_, Lib.hid rfl⟩
      rw [ho.out] at hk1 hk2
      have hix := fun W => idx_off (W := W) (c := nc) (b := kb) Tryz.underlying75 J2 hlt ho.out
      have HK64 : Hid ((q : Int) + 1 ≤ 9223372036854775807) := Lib.hid (by have := HK4.out; omega)
      clear Hx hxm
      go_upto_region 4 with fail
      clear t0 hix hk1 hk2
      have bt : Below wr.heap.size wr (wr.alloc (.cells #[.int .i64 x.n.house, .int .i64 x.n.num] 45)) := (Below.refl _ _).alloc (Nat.le_refl _) _
      have P7 := Lib.hid (heap_last wr (.cells #[.int .i64 x.n.house, .int .i64 x.n.num] 45))
      have BW2 := Lib.hid (BW.out.trans (bt.mono BW.out.size))
      have BB2 := Lib.hid (BB.out.trans (bt.mono BB.out.size))
      obtain ⟨p7, hp7⟩ : ∃ p, Hid (wr.heap.size = p) := ⟨_, Lib.hid rfl⟩
      rw [hp7.out] at P7 ⊢
      generalize wr.alloc (.cells #[.int .i64 x.n.house, .int .i64 x.n.num] 45) = wt at *
      clear bt BW BB
      have MY := Lib.hid (SB.out.map.below BW2.out)
      have MX := Lib.hid (SA.out.map.below BW2.out)
      have n0 := cell_of P7.out 0 (.int .i64 x.n.house) rfl
      have n1 := cell_of P7.out 1 (.int .i64 x.n.num) rfl
      cases hfr : setF ys (x.n.house, x.n.num) with
      | none =>
        have hget : (Instr.lookup 119 (.map (some c)) (.agg #[.int .i64 x.n.house, .int .i64 x.n.num]) true).run Tryz.prog wt = .ok (.tuple #[.agg (noteA zeroN none 0), .bool false]) wt := by
          have := run_get_nm (t := 119) MY.out Tryz.underlying119 (zero_note wt) x.n.house x.n.num NOK.out
          rw [hfr] at this; exact this
        have BAD : Hid (badB m x.n = false) := Lib.hid (badB_no (fun y hy e => by
          rw [← SB.out.eq] at hy
          obtain ⟨z, hz, rfl⟩ := List.mem_map.1 hy
          have h1 := setF_mem NDM.out hz
          rw [show z.nm = (x.n.house, x.n.num) from e, hfr] at h1
          cases h1))
        clear hfr
        go_upto_region 5 with (first
          | (refine wpList_store_newp wt rfl 47 _ _ rfl wt.heap.size rfl _ (noteA zeroN none 0) rfl rfl (I43.out _ _ _) rfl (noteA_one zeroN none 0) ?_))
        have bt : Below wt.heap.size wt (wt.alloc (.cells (noteA zeroN none 0) 47)) := (Below.refl _ _).alloc (Nat.le_refl _) _
        have BB3 := Lib.hid (BB2.out.trans (bt.mono BB2.out.size))
        generalize wt.alloc (.cells (noteA zeroN none 0) 47) = wz at *
        clear bt hget n0 n1 MX MY BW2 BB2 P7
        have hC0 : Below wz.heap.size wz wz.drew := (Below.refl _ _).drew
        try simp only [Act.put, lq3, lq4, lq5]
        refine wp_region_quiet (C := fun w' : World => Below wz.heap.size wz w') (by kernel_rfl) (by kernel_rfl) hC0 ?_
        show wpQuiet _ _ _ _ (_ :: _) _
        go_big_quiet_want
        go_big_quiet_op
        go_big_quiet_on
        go_big_quiet_want
        go_big_quiet_op
        go_big_quiet_on
        go_big_quiet_skip
        go_big_quiet_skip
        go_big_quiet_skip
        go_big_quiet_skip
        go_big_quiet_skip
        go_big_quiet_skip
        go_big_quiet_want
        refine ⟨.bool false, fun w0 hC => ?_, ?_⟩
        · clear hC
          go_simp
        simp only [Act.put, lq3, lq4, lq5]
        go_big_quiet_on
        refine wpQuiet_nil ?_
        intro w' hC
        have BB5 := Lib.hid (BB3.out.trans (hC.mono BB3.out.size))
        clear hC
        have hk64 := HK64.out
        go_wp2_with fail
        go_roundw
        case rel => exact ⟨q + 1, by go_num, by omega, Lib.hid (fun i z hi hz => by
          rcases Nat.lt_or_ge i q with h' | h'
          · exact HA.out i z h' hz
          · have e : i = q := by omega
            subst e
            rw [HLX.out] at hz
            cases hz
            exact BAD.out), BB5⟩
        case measure => simp [intOf]; omega
      | some y =>
        have hget : (Instr.lookup 119 (.map (some c)) (.agg #[.int .i64 x.n.house, .int .i64 x.n.num]) true).run Tryz.prog wt = .ok (.tuple #[.agg (noteA y.n y.sa y.sc), .bool true]) wt := by
          have := run_get_nm (t := 119) MY.out Tryz.underlying119 (zero_note wt) x.n.house x.n.num NOK.out
          rw [hfr] at this; exact this
        have BAD : Hid (badB m x.n = !sameB y.n x.n) := Lib.hid (by
          rw [sameB_comm]
          exact badB_at HD.out (by rw [← SB.out.eq]; exact List.mem_map_of_mem (setF_some hfr).1) (setF_some hfr).2)
        have YOK := Lib.hid (SB.out.ok y (setF_some hfr).1)
        clear hfr
        go_upto_region 5 with (first
          | (refine wpList_store_newp wt rfl 47 _ _ rfl wt.heap.size rfl _ (noteA y.n y.sa y.sc) rfl rfl (I43.out _ _ _) rfl (noteA_one y.n y.sa y.sc) ?_))
        have bt : Below wt.heap.size wt (wt.alloc (.cells (noteA y.n y.sa y.sc) 47)) := (Below.refl _ _).alloc (Nat.le_refl _) _
        have P8 := Lib.hid (heap_last wt (.cells (noteA y.n y.sa y.sc) 47))
        have BB3 := Lib.hid (BB2.out.trans (bt.mono BB2.out.size))
        have BW3 := Lib.hid (BW2.out.trans (bt.mono BW2.out.size))
        have MX3 := Lib.hid (MX.out.below bt)
        have P73 := Lib.hid (below_blk bt P7.out)
        obtain ⟨p8, hp8⟩ : ∃ p, Hid (wt.heap.size = p) := ⟨_, Lib.hid rfl⟩
        rw [hp8.out] at P8 ⊢
        generalize wt.alloc (.cells (noteA y.n y.sa y.sc) 47) = wz at *
        clear bt hget n0 n1 MX MY BW2 BB2 P7
        have hC0 : Below wz.heap.size wz wz.drew := (Below.refl _ _).drew
        have L7 := Lib.hid (show ∀ w0, Below wz.heap.size wz w0 → w0.heap[p7]? = some (.cells #[.int .i64 x.n.house, .int .i64 x.n.num] 45 (0, 0)) from fun w0 h => below_blk h P73.out)
        have L8 := Lib.hid (show ∀ w0, Below wz.heap.size wz w0 → w0.heap[p8]? = some (.cells (noteA y.n y.sa y.sc) 47 (0, 0)) from fun w0 h => below_blk h P8.out)
        try simp only [Act.put, lq3, lq4, lq5]
        refine wp_region_quiet (C := fun w' : World => Below wz.heap.size wz w') (by kernel_rfl) (by kernel_rfl) hC0 ?_
        show wpQuiet _ _ _ _ (_ :: _) _
        go_big_quiet_want
        go_big_quiet_op
        go_big_quiet_on
        go_big_quiet_want
        go_big_quiet_op
        go_big_quiet_on
        go_big_quiet_want
        refine ⟨.agg (noteA y.n y.sa y.sc), fun w0 hC => quiet_load43 (.tmp 8) rfl p8 rfl y.n y.sa y.sc (L8.out w0 hC), ?_⟩
        simp only [Act.put, lq3, lq4, lq5]
        go_big_quiet_on
        go_big_quiet_want
        go_big_quiet_op
        go_big_quiet_on
        go_big_quiet_want
        refine ⟨.agg #[.int .i64 x.n.house, .int .i64 x.n.num], fun w0 hC => ?_, ?_⟩
        · have c0 := cell_of (L7.out w0 hC) 0 (.int .i64 x.n.house) rfl
          have c1 := cell_of (L7.out w0 hC) 1 (.int .i64 x.n.num) rfl
          clear hC
          go_simp
        simp only [Act.put, lq3, lq4, lq5]
        go_big_quiet_on
        go_big_quiet_want
        refine ⟨.agg (noteA x.n x.sa x.sc), fun w0 hC => ?_, ?_⟩
        · have hg : (Instr.lookup 119 (.map (some b)) (.agg #[.int .i64 x.n.house, .int .i64 x.n.num]) false).run Tryz.prog w0 = .ok (.agg (noteA x.n x.sa x.sc)) w0 := run_get1_nm (t := 119) (MX3.out.below hC) Tryz.underlying119 (zero_note w0) x.n.house x.n.num NOK.out GX.out
          clear hC
          go_simp
        simp only [Act.put, lq3, lq4, lq5]
        go_big_quiet_on
        go_big_quiet_want
        refine ⟨.bool (sameB y.n x.n), fun w0 hC => ?_, ?_⟩
        · go_simp
          refine (same_any y.n x.n y.sa y.sc x.sa x.sc w0 ((YOK.out.below BW3.out).below hC) ((XOK.out.below BW3.out).below hC)).mono ?_
          rintro e w1 ⟨rfl, b1⟩
          exact ⟨rfl, hC.trans (b1.mono hC.size)⟩
        simp only [Act.put, lq3, lq4, lq5]
        go_big_quiet_on
        go_big_quiet_want
        refine ⟨.bool (!sameB y.n x.n), fun w0 hC => ?_, ?_⟩
        · clear hC
          go_simp
        simp only [Act.put, lq3, lq4, lq5]
        go_big_quiet_on
        go_big_quiet_want
        refine ⟨.bool (!sameB y.n x.n), fun w0 hC => ?_, ?_⟩
        · clear hC
          go_simp
        simp only [Act.put, lq3, lq4, lq5]
        go_big_quiet_on
        refine wpQuiet_nil ?_
        intro w' hC
        have BB5 := Lib.hid (BB3.out.trans (hC.mono BB3.out.size))
        have BW5 := Lib.hid (BW3.out.trans (hC.mono BW3.out.size))
        have P75 := Lib.hid (L7.out w' hC)
        clear hC L7 L8 P73 P8 MX3 BB3 BW3 XOK YOK
        cases hq2 : (!sameB y.n x.n)
        · replace BAD := Lib.hid (BAD.out.trans hq2)
          clear hq2
          have hk64 := HK64.out
          go_wp2_with fail
          go_roundw
          case rel => exact ⟨q + 1, by go_num, by omega, Lib.hid (fun i z hi hz => by
            rcases Nat.lt_or_ge i q with h' | h'
            · exact HA.out i z h' hz
            · have e : i = q := by omega
              subst e
              rw [HLX.out] at hz
              cases hz
              exact BAD.out), BB5⟩
          case measure => simp [intOf]; omega
        · have CE : Hid (forkP l m = ((x.n.house, x.n.num), true)) := Lib.hid (by
            unfold forkP
            rw [forkAt_first HLX.out HA.out (BAD.out.trans hq2)]
            rfl)
          have PW := Lib.hid (below_blk BB5.out P1.out)
          have n0 := cell_of P75.out 0 (.int .i64 x.n.house) rfl
          have n1 := cell_of P75.out 1 (.int .i64 x.n.num) rfl
          clear hq2 BAD
          go_wp2_with (first
            | (refine wpList_store_blkP rfl 45 _ _ rfl p4 #[.int .i64 0, .int .i64 0] #[.int .i64 x.n.house, .int .i64 x.n.num] 45 rfl rfl PW.out (I2.out _ _) rfl (by simp [Value.oneCell']) ?_; intro w9 hr1 hr2 hr3)
            | fail)
          have HR1 := Lib.hid hr1
          have HR2 := Lib.hid hr2
          clear hr1 hr2 hr3
          refine bodyPost_ret (results_cell_row_tmp rfl _ _ p4 45 #[.int .i64 x.n.house, .int .i64 x.n.num] (0, 0) _ rfl HR1.out Tryz.underlying45 rfl (I2.out _ _)) rfl ?_
          exact ⟨by rw [CE.out] <;> rfl, BW5.out.grown HR2.out BW5.out.size (fun q e => by cases e; exact SZ.out)⟩
    · have t0 : decide ((q : Int) < (kn : Int)) = false := by simp; omega
      have CE : Hid (forkP l m = ((0, 0), false)) := Lib.hid (by
        unfold forkP
        rw [forkAt_all (l := l) (m := m) (fun j y hj hy => HA.out j y (by rw [← KL.out] at hj; omega) hy)])
      have PW := Lib.hid (below_blk BB.out P1.out)
      go_wp2_with (first
        | (refine wpList_store_blkP rfl 45 _ _ rfl p4 #[.int .i64 0, .int .i64 0] #[.int .i64 0, .int .i64 0] 45 rfl rfl PW.out (I2.out _ _) rfl (by simp [Value.oneCell']) ?_; intro w9 hr1 hr2 hr3)
        | fail)
      have HR1 := Lib.hid hr1
      have HR2 := Lib.hid hr2
      clear hr1 hr2 hr3
      refine bodyPost_ret (results_cell_row_tmp rfl _ _ p4 45 #[.int .i64 0, .int .i64 0] (0, 0) _ rfl HR1.out Tryz.underlying45 rfl (I2.out _ _)) rfl ?_
      exact ⟨by rw [CE.out] <;> rfl, BW.out.grown HR2.out BW.out.size (fun q e => by cases e; exact SZ.out)⟩
end Go.Proofs.YtlnhppgfhkkidaaGreat
namespace Go.Proofs.YtlnhppgfhkkidaaGreat
set_option linter.unusedSimpArgs false
open Go.RowKit

def evC (e : EvV) : Nm × NoteV := (e.nm, e.x.n)
end Go.Proofs.YtlnhppgfhkkidaaGreat
namespace Go.Proofs.YtlnhppgfhkkidaaGreat
set_option linter.unusedSimpArgs false
open Go.RowKit

abbrev RegT := List NoteV × List NoteV × List Nm
def evP (n : NoteV) : Nm × NoteV := (nmOf n, n)
def RegOut (W : World) (v : Value) (T : RegT) : Prop :=
  ∃ (ha : Option Addr) (hn hc : Nat) (ea : Option Addr) (en ec : Nat) (ca : Option Addr) (cn cc : Nat) (hs es : List EvV), v = .agg #[.slice ha hn hc, .slice ea en ec, .slice ca cn cc] ∧
    RdEs W ha hn hc hs ∧ RdEs W ea en ec es ∧ RdA W 2 ca cn cc (nmCells T.2.2) ∧ (∀ e ∈ hs ++ es, e.x.ok W) ∧ hs.map evC = T.1.map evP ∧ es.map evC = T.2.1.map evP
theorem RegOut.below {W W' : World} {v : Value} {T : RegT} (h : RegOut W v T) (hb : Below W.heap.size W W') : RegOut W' v T := by
  obtain ⟨ha, hn, hc, ea, en, ec, ca, cn, cc, hs, es, rfl, h1, h2, h3, h4, h5, h6⟩ := h
  exact ⟨ha, hn, hc, ea, en, ec, ca, cn, cc, hs, es, rfl, h1.below hb, h2.below hb, h3.below hb, fun e he => (h4 e he).below hb, h5, h6⟩
theorem RegOut.empty (W : World) : RegOut W (.agg #[.slice none 0 0, .slice none 0 0, .slice none 0 0]) ([], [], []) :=
  ⟨none, 0, 0, none, 0, 0, none, 0, 0, [], [], rfl, ⟨rfl, Nat.le_refl _, Nat.zero_le _, .inl rfl⟩, ⟨rfl, Nat.le_refl _, Nat.zero_le _, .inl rfl⟩, RdA.nil _ _, fun e he => by simp at he, rfl, rfl⟩
structure NlAt (V W : World) (a : Option Addr) (c n : Nat) (ys : List LN) : Prop where
  bel : Below V.heap.size V W
  own : W.ownsRow V.heap.size 47 19 (.slice a n c) n (lnCells ys)
theorem NlAt.start (V : World) : NlAt V V none 0 0 [] := ⟨Below.refl _ _, World.ownsRow_nil _ _ _ _⟩
theorem NlAt.below {V W W' : World} {a : Option Addr} {c n : Nat} {ys : List LN} (h : NlAt V W a c n ys) (hb : Below W.heap.size W W') : NlAt V W' a c n ys := ⟨h.bel.trans (hb.mono h.bel.size), own_below h.own hb⟩
theorem NlAt.add {V W W' : World} {a a' : Option Addr} {c c' n : Nat} {ys : List LN} {x : LN} (h : NlAt V W a c n ys) (ho : W'.ownsRow V.heap.size 47 19 (.slice a' (n + 1) c') (n + 1) (lnCells ys ++ x.n.cells x.sa x.sc)) (hg : (W.alloc (.cells (noteA x.n x.sa x.sc) 47)).grownBy W' (Value.ownBlock (.slice a n c))) : NlAt V W' a' c' (n + 1) (ys ++ [x]) := by
  have bn : Below W.heap.size W (W.alloc (.cells (noteA x.n x.sa x.sc) 47)) := (Below.refl _ _).alloc (Nat.le_refl _) _
  have h2 := h.below bn
  exact ⟨h2.bel.grown hg h2.bel.size (fun k hk => (h2.own.lt k hk).1), by rw [lnCells_snoc]; exact ho⟩
theorem wpList_build_note {ops : Array Oper} {rest : List Oper} {op : Oper} {a : Act} {w : World} {Q : Exit → Act → World → Prop} (hgd : op.guard = none) (x : Operand) (ho : op.op = .buildSlice 24 1 #[(0, x)]) (n : NoteV) (sa : Option Addr) (sc : Nat) (hx : a.eval x = .agg (noteA n sa sc))
    (h : wpList Tryz.prog ops Q rest (a.put op.dst (.slice (some ⟨w.heap.size, 0, none⟩) 1 1)) (w.alloc (.cells (noteA n sa sc) 47))) : wpList Tryz.prog ops Q (op :: rest) a w :=
  wpList_plain hgd fun _ hK => oper_build_note x ho n sa sc hx (hK _ _ h)
theorem ls_ok {W : World} {a : Option Addr} {n c : Nat} {xs : List LN} (h : RdLs W a n c xs) {x : LN} (hx : x ∈ xs) : x.ok W := by
  have h0 : 0 < n := by have := List.length_pos_of_mem hx; have := h.1; omega
  obtain ⟨b, off, rfl, hat⟩ := h.at h0
  obtain ⟨i, hi⟩ := List.getElem?_of_mem hx
  exact (hat i x hi).2
theorem rdA_ls {W : World} {a : Option Addr} {n c : Nat} {xs : List LN} (h : RdLs W a n c xs) : RdA W 19 a n c (lnCells xs) := by
  obtain ⟨h1, h2, h3, h4⟩ := h
  refine ⟨by rw [lnCells_len, h1], h2, h3, h4.imp id ?_⟩
  rintro ⟨b, off, rfl, hat⟩
  refine ⟨b, off, rfl, fun j v hv => ?_⟩
  have hl := (List.getElem?_eq_some_iff.1 hv).1
  rw [lnCells_len] at hl
  obtain ⟨x, hx⟩ : ∃ x, xs[j / 19]? = some x := ⟨_, List.getElem?_eq_getElem (by omega)⟩
  have h5 := flat_at 19 (xs.map fun x => x.n.cells x.sa x.sc) (by intro r hr; obtain ⟨y, _, rfl⟩ := List.mem_map.1 hr; rfl) (j / 19) (x.n.cells x.sa x.sc) (by rw [List.getElem?_map, hx]; rfl) (j % 19) (by omega)
  have h6 := (hat (j / 19) x hx).1 (j % 19) v (by rw [← h5, show j / 19 * 19 + j % 19 = j by omega]; exact hv)
  rwa [show off + j / 19 * 19 + j % 19 = off + j by omega] at h6
end Go.Proofs.YtlnhppgfhkkidaaGreat
namespace Go.Proofs.YtlnhppgfhkkidaaGreat
set_option linter.unusedSimpArgs false
open Go.RowKit

section
attribute [local go_sem] noteA_0 noteA_1
theorem nameOf2_any (n : NoteV) (sa : Option Addr) (sc : Nat) (w : World) : Calls Tryz.prog 58 #[.agg (noteA n sa sc)] w fun e w' => e = .returned (.agg #[.int .i64 n.house, .int .i64 n.num]) ∧ Below w.heap.size w w' := by
  have hb := (Below.refl w.heap.size w).alloc (Nat.le_refl _) (.cells (noteA n sa sc) 47)
  go_enter Tryz.func58, Tryz.ntmps58
  go_wp2_with fail
  go_returns
  exact ⟨rfl, hb.alloc hb.size _⟩
end
section
attribute [local go_sem] noteA_15
set_option maxHeartbeats 4000000 in
set_option maxRecDepth 100000 in
theorem copied2_any (n : NoteV) (sa : Option Addr) (sc : Nat) (w : World) (hs : RdI w sa n.strokes.length sc n.strokes) (hl : n.strokes.length ≤ 1000000000) :
    Calls Tryz.prog 71 #[.agg (noteA n sa sc)] w fun e w' => ∃ ta tc, e = .returned (.agg (noteA n ta tc)) ∧ w'.ownsRow w.heap.size 3 1 (.slice ta n.strokes.length tc) n.strokes.length (n.strokes.map intV) ∧ Below w.heap.size w w' := by
  have I43 := Lib.hid (show ∀ (m : NoteV) (a : Option Addr) (c : Nat), (Tryz.prog.info? 47).map (·.size) = some (noteA m a c).size from fun m a c => by kernel_rfl)
  go_enter Tryz.func71, Tryz.ntmps71
  go_upto_region 1 with fail
  rw [← noteA_zero]
  have g0 := heap_before _ (.cells (noteA zeroN none 0) 47) _ _ (heap_last w (.cells (noteA n sa sc) 47))
  have g1 := heap_at (w.alloc (.cells (noteA n sa sc) 47)) (.cells (noteA zeroN none 0) 47) (w.heap.size + 1) (by simp)
  have bb : Below w.heap.size w ((w.alloc (.cells (noteA n sa sc) 47)).alloc (.cells (noteA zeroN none 0) 47)) := ((Below.refl _ _).alloc (Nat.le_refl _) _).alloc (by simp) _
  have L0 : Hid (TwoC w ((w.alloc (.cells (noteA n sa sc) 47)).alloc (.cells (noteA zeroN none 0) 47)) w.heap.size (w.heap.size + 1) (noteA n sa sc) (noteA zeroN none 0) 47) := Lib.hid ⟨g0, g1, bb, by omega⟩
  have RI := Lib.hid (hs.below bb)
  clear g0 g1 bb hs
  generalize (w.alloc (.cells (noteA n sa sc) 47)).alloc (.cells (noteA zeroN none 0) 47) = W2 at *
  generalize hp0 : w.heap.size = p0 at *
  generalize hp1 : p0 + 1 = p1 at *
  have HP0 := Lib.hid hp0; clear hp0 hp1
  obtain ⟨m, hm⟩ : ∃ m, Hid (n.strokes.length = m) := ⟨_, Lib.hid rfl⟩
  have c15 : W2.cell? ⟨p0, 15, none⟩ = some (.slice sa m sc) := by rw [← hm.out]; exact cell_of L0.out.e1 15 _ rfl
  rw [hm.out] at RI hl
  go_wp2_with fail
  refine (cloneI_any sa m sc n.strokes W2 (by omega) RI.out).mono ?_
  rintro e W3 ⟨ta, tc, rfl, ho, b3⟩
  have L3 := Lib.hid (L0.out.below b3)
  have O3 := Lib.hid (own_mono ho (show p0 ≤ W2.heap.size by have := blk_lt L0.out.e1; omega))
  clear ho b3 c15
  have c15 := cell_of L3.out.e1 15 _ rfl
  have f15 := frozen_of L3.out.e1 15
  have T3 := Lib.hid (own_no O3.out L3.out.e1 (fun cur h => by simp at h))
  have G3 := setCell_grown W3 p0 15 (.slice ta m tc)
  have E3 : Hid ((W3.setCell ⟨p0, 15, none⟩ (.slice ta m tc)).heap[p0]? = some (.cells (noteA n ta tc) 47 (0, 0))) := Lib.hid (by
    have := setCell_at L3.out.e1 15 (.slice ta m tc)
    rw [← hm.out, noteA_15s] at this
    rw [← hm.out]; exact this)
  have E4 : Hid ((W3.setCell ⟨p0, 15, none⟩ (.slice ta m tc)).heap[p1]? = some (.cells (noteA zeroN none 0) 47 (0, 0))) := Lib.hid (grown_blk G3 L3.out.e2 (fun e => by have := L3.out.lt; have e2 := Option.some.inj e; omega))
  go_upto_region 2 with fail
  have B3 : Hid (Below p0 w (W3.setCell ⟨p0, 15, none⟩ (.slice ta m tc))) := Lib.hid (L3.out.b.grown G3 (by have := blk_lt L3.out.e1; omega) (fun q hq => by cases hq; exact Nat.le_refl _))
  have U3 := Lib.hid (own_no O3.out L3.out.e2 (fun cur h => by simp at h))
  have O4 := Lib.hid (own_keep (S := fun k => k = p0) O3.out (Same.of_grown G3 (fun k e => by cases e; rfl)) (fun b hb e => T3.out (by rw [hb, e])))
  have hlt := L3.out.lt
  clear c15 f15 G3
  generalize W3.setCell ⟨p0, 15, none⟩ (.slice ta m tc) = W4 at *
  have oneN := noteA_one n ta tc
  go_wp2_with (first
    | (refine wpList_load_row rfl 47 _ rfl p0 rfl 47 (noteA n ta tc) (0, 0) _ E3.out Tryz.underlying47 rfl (I43.out _ _ _) ?_)
    | (refine wpList_store_rowN rfl 47 _ _ rfl p1 (noteA zeroN none 0) (noteA n ta tc) 47 rfl rfl E4.out (I43.out _ _ _) rfl oneN ?_))
  go_wp2_with fail
  have hr := setRow_at W4 p1 _ (noteA n ta tc) _ _ E4.out
  refine bodyPost_ret (results_cell_row rfl _ _ p1 47 (noteA n ta tc) (0, 0) _ rfl hr Tryz.underlying47 rfl (I43.out _ _ _)) rfl ?_
  have G4 := setRow_grown W4 p1 (noteA n ta tc)
  have hp1 : p1 < W4.heap.size := blk_lt E4.out
  refine ⟨ta, tc, rfl, ?_, ?_⟩
  · rw [HP0.out, hm.out]
    exact own_keep (S := fun k => k = p1) O4.out (Same.of_grown G4 (fun k e => by cases e; rfl)) (fun b hb e => U3.out (by rw [hb, e]))
  · rw [HP0.out]
    exact B3.out.grown G4 (by omega) (fun q hq => by cases hq; omega)
end
set_option maxHeartbeats 4000000 in
set_option maxRecDepth 100000 in
theorem compareNames2_gro (x m y k : Int) (w : World) : Calls Tryz.prog 120 #[.agg #[.int .i64 x, .int .i64 m], .agg #[.int .i64 y, .int .i64 k]] w fun e w' => e = .returned (.int .i64 (namesC x m y k)) ∧ Gro w.heap.size w w' := by
  have g1 := heap_before _ (.cells (#[.int .i64 y, .int .i64 k]) 45) _ _ (heap_last w (.cells (#[.int .i64 x, .int .i64 m]) 45))
  have g2 := heap_at (w.alloc (.cells (#[.int .i64 x, .int .i64 m]) 45)) (.cells (#[.int .i64 y, .int .i64 k]) 45) (w.heap.size + 1) (by simp)
  have bb : Gro w.heap.size w ((w.alloc (.cells (#[.int .i64 x, .int .i64 m]) 45)).alloc (.cells (#[.int .i64 y, .int .i64 k]) 45)) := ((Gro.refl _ _).alloc (Nat.le_refl _) _).alloc (by simp) _
  have T0 : Hid (TwoG w ((w.alloc (.cells (#[.int .i64 x, .int .i64 m]) 45)).alloc (.cells (#[.int .i64 y, .int .i64 k]) 45)) w.heap.size (w.heap.size + 1) (#[.int .i64 x, .int .i64 m]) (#[.int .i64 y, .int .i64 k]) 45) := Lib.hid ⟨g1, g2, bb, by omega⟩
  clear g1 g2 bb
  go_enter Tryz.func120, Tryz.ntmps120
  go_upto_region 1 with fail
  generalize (w.alloc (.cells (#[.int .i64 x, .int .i64 m]) 45)).alloc (.cells (#[.int .i64 y, .int .i64 k]) 45) = W0 at *
  obtain ⟨p, hp⟩ : ∃ p, Hid (w.heap.size = p) := ⟨_, Lib.hid rfl⟩
  obtain ⟨q, hq⟩ : ∃ q, Hid (w.heap.size + 1 = q) := ⟨_, Lib.hid rfl⟩
  rw [hq.out, hp.out] at T0
  rw [hq.out, hp.out]
  have T1 := Lib.hid (T0.out.below (Gro.refl W0.heap.size W0).drew)
  refine wp_region_noPanic ?_
  refine wp_region_held_drew (S := fun w' => TwoG w w' p q (#[.int .i64 x, .int .i64 m]) (#[.int .i64 y, .int .i64 k]) 45) (by kernel_rfl) T1.out (fun hHeld => ?_)
  refine wpAnyH_take (i := 0) (v := .pointer (some ⟨p, 0, none⟩)) rfl (by kernel_rfl) (by kernel_rfl) (by kernel_rfl) (fun _ _ _ h => h) (Or.inl ⟨by rfl, by intro W _; go_simp⟩) (by assumption) ?_
  try simp only [Act.put, lq3, lq4, lq5]
  refine wpAnyH_take (i := 1) (v := .int .i64 x) rfl (by kernel_rfl) (by kernel_rfl) (by kernel_rfl) (fun _ _ _ h => h) (Or.inl ⟨by rfl, by intro W h; have hc := cell_of h.e1 0 (.int .i64 x) rfl; go_simp⟩) (by assumption) ?_
  try simp only [Act.put, lq3, lq4, lq5]
  refine wpAnyH_take (i := 2) (v := .pointer (some ⟨q, 0, none⟩)) rfl (by kernel_rfl) (by kernel_rfl) (by kernel_rfl) (fun _ _ _ h => h) (Or.inl ⟨by rfl, by intro W _; go_simp⟩) (by assumption) ?_
  try simp only [Act.put, lq3, lq4, lq5]
  refine wpAnyH_take (i := 3) (v := .int .i64 y) rfl (by kernel_rfl) (by kernel_rfl) (by kernel_rfl) (fun _ _ _ h => h) (Or.inl ⟨by rfl, by intro W h; have hc := cell_of h.e2 0 (.int .i64 y) rfl; go_simp⟩) (by assumption) ?_
  try simp only [Act.put, lq3, lq4, lq5]
  refine wpAnyH_take (i := 5) (v := .pointer (some ⟨p, 1, none⟩)) rfl (by kernel_rfl) (by kernel_rfl) (by kernel_rfl) (fun _ _ _ h => h) (Or.inl ⟨by rfl, by intro W _; go_simp⟩) (by assumption) ?_
  try simp only [Act.put, lq3, lq4, lq5]
  refine wpAnyH_take (i := 6) (v := .int .i64 m) rfl (by kernel_rfl) (by kernel_rfl) (by kernel_rfl) (fun _ _ _ h => h) (Or.inl ⟨by rfl, by intro W h; have hc := cell_of h.e1 1 (.int .i64 m) rfl; go_simp⟩) (by assumption) ?_
  try simp only [Act.put, lq3, lq4, lq5]
  refine wpAnyH_take (i := 7) (v := .pointer (some ⟨q, 1, none⟩)) rfl (by kernel_rfl) (by kernel_rfl) (by kernel_rfl) (fun _ _ _ h => h) (Or.inl ⟨by rfl, by intro W _; go_simp⟩) (by assumption) ?_
  try simp only [Act.put, lq3, lq4, lq5]
  refine wpAnyH_take (i := 8) (v := .int .i64 k) rfl (by kernel_rfl) (by kernel_rfl) (by kernel_rfl) (fun _ _ _ h => h) (Or.inl ⟨by rfl, by intro W h; have hc := cell_of h.e2 1 (.int .i64 k) rfl; go_simp⟩) (by assumption) ?_
  try simp only [Act.put, lq3, lq4, lq5]
  refine wpAnyH_ready (rs := [4]) (by kernel_rfl) (by simp) ?_
  refine AllReadyH.cons rfl (fun K hK => ?_) AllReadyH.nil
  go_simp
  go_at_call 173
  refine (compare_any x y _).mono ?_
  rintro e w1 ⟨rfl, rfl⟩
  dsimp only
  refine hK.out _ _ T1.out (fun hHeld => ?_)
  clear hK K
  try simp only [Act.put, lq3, lq4, lq5]
  refine wpAnyH_ready (rs := [9]) (by kernel_rfl) (by simp) ?_
  refine AllReadyH.cons rfl (fun K hK => ?_) AllReadyH.nil
  go_simp
  go_at_call 173
  refine (compare_any m k _).mono ?_
  rintro e w1 ⟨rfl, rfl⟩
  dsimp only
  refine hK.out _ _ T1.out (fun hHeld => ?_)
  clear hK K
  try simp only [Act.put, lq3, lq4, lq5]
  refine wpAnyH_ready (rs := [10]) (by kernel_rfl) (by simp) ?_
  refine AllReadyH.cons rfl (fun K hK => ?_) AllReadyH.nil
  go_simp
  have TB := Lib.hid (T1.out.below ((Gro.refl W0.drew.heap.size W0.drew).alloc (Nat.le_refl _) (.cells #[.int .i64 (cmpI x y), .int .i64 (cmpI m k)] 3)))
  refine hK.out _ _ TB.out (fun hHeld => ?_)
  clear hK K
  try simp only [Act.put, lq3, lq4, lq5]
  refine wpAnyH_ready (rs := [11]) (by kernel_rfl) (by simp) ?_
  refine AllReadyH.cons rfl (fun K hK => ?_) AllReadyH.nil
  go_simp
  go_at_call 172
  refine (or_two W0.drew.heap.size (cmpI x y) (cmpI m k) _ (heap_last W0.drew _)).mono ?_
  rintro e w1 ⟨rfl, rfl⟩
  dsimp only
  refine hK.out _ _ TB.out (fun hHeld => ?_)
  clear hK K
  try simp only [Act.put, lq3, lq4, lq5]
  refine wpAnyH_take (i := 12) (v := .int .i64 (orI (cmpI x y) (cmpI m k))) rfl (by kernel_rfl) (by kernel_rfl) (by kernel_rfl) (fun _ _ _ h => h) (Or.inl ⟨by rfl, by intro W _; go_simp⟩) (by assumption) ?_
  try simp only [Act.put, lq3, lq4, lq5]
  have TE := TB
  refine wpAnyH_done (by kernel_rfl) ?_ _
  refine NoPanic.normal ?_
  change Exit.then _ _ Exit.normal { tmps := #[.agg #[.int .i64 x, .int .i64 m], .agg #[.int .i64 y, .int .i64 k], .pointer (some ⟨p, 0, none⟩), .pointer (some ⟨q, 0, none⟩), .int .i64 (orI (cmpI x y) (cmpI m k)), .pointer (some ⟨p, 0, none⟩), .int .i64 x, .pointer (some ⟨q, 0, none⟩), .int .i64 y, .int .i64 (cmpI x y), .pointer (some ⟨p, 1, none⟩), .int .i64 m, .pointer (some ⟨q, 1, none⟩), .int .i64 k, .int .i64 (cmpI m k), .slice (some ⟨W0.drew.heap.size, 0, none⟩) 2 2, .int .i64 (orI (cmpI x y) (cmpI m k))], defers := [] } _
  go_wp2_with fail
  go_ret
  exact ⟨rfl, by rw [hp.out]; exact TE.out.b⟩
theorem nmCmp2_fn (args : Array Value) (w : World) : (callFunc 120 args).run Tryz.prog w = .ok (.enter 120 args) w := by kernel_rfl
theorem nmCmp2 (x y : Nm) (w : World) : Calls Tryz.prog 120 #[.agg (nmRow x).toArray, .agg (nmRow y).toArray] w fun e w' => e = .returned (.int .i64 (namesC x.1 x.2 y.1 y.2)) ∧ Gro w.heap.size w w' :=
  compareNames2_gro x.1 x.2 y.1 y.2 w

section
attribute [local go_sem] Oper.semAt_some
set_option maxHeartbeats 8000000 in
set_option maxRecDepth 100000 in
theorem keysIter2 (m : Nat) (Wb : World) (p pB b n : Nat) (f : Nm → Option LN) (hpB : Wb.heap[pB]? = some (.cells #[.map (some b)] 106 (0, 0))) (hne : pB ≠ p) (hmap : MapF LN.val Wb b n f) (hbp : b ≠ p)
    (rec : LoopState → Option Code → Loop) (W1 : World) (h0 : NpAt Wb p [] W1) (hl : LoopAt rec Wb.heap.size .ready none W1)
    (hY : ∀ (s : KSt) W, KAt Wb p b n f (s.1 ++ [s.2.1]) s.1 s.2.2.1 s.2.2.2 W → LoopAt rec Wb.heap.size .ready none W → YieldAt Fence.wide (m - 1) Tryz.prog (Wb.heap.size + 1) #[.agg #[.int .i64 s.2.1.1, .int .i64 s.2.1.2]] W fun e W' =>
        e = .returned (.bool true) ∧ KAt Wb p b n f (s.1 ++ [s.2.1]) (s.1 ++ [s.2.1]) s.2.2.1 s.2.2.2 W' ∧ LoopAt rec Wb.heap.size .ready none W') :
    CallsIn Fence.wide m Tryz.prog 171 #[.func (.yield (Wb.heap.size + 1)) #[] #[], .pointer (some ⟨pB, 0, none⟩)] W1 fun e W' =>
        (∃ v, e = .returned v) ∧ (∃ ks, NpAt Wb p ks W' ∧ AllIn f ks ∧ ks.Nodup ∧ (∀ k ∈ ks, (f k).isSome = true) ∧ ks.length ≤ n) ∧ LoopAt rec Wb.heap.size .ready none W' := by
  have HY := Lib.hid hY; clear hY
  have M1 := Lib.hid (hmap.of_block (h0.same.block b hmap.lt hbp))
  have hlc := cell_of ((h0.same.block pB (blk_lt hpB) hne).trans hpB) 0 (.map (some b)) rfl
  have R0 := Lib.hid h0; clear h0
  have L0 := Lib.hid hl; clear hl
  clear hpB hne hmap hbp
  refine callsIn_of_wp Tryz.func171 rfl trivial ?_
  simp only [Tryz.ntmps171, List.size_toArray, List.length_cons, List.length_nil, Nat.reduceAdd, Nat.reduceSub, Array.replicate_succ, Array.replicate_zero, List.push_toArray, List.append_toArray, List.nil_append, List.cons_append]
  gi_wp2_with (first
    | (gi_at_range; refine wpListIn_range_nm _ rfl _ 106 47 rfl Tryz.underlying106 b n rfl M1.out ?_; intro w0 cnt0 hrg0 hg0 hs0)
    | gi_in)
  go_frame
  obtain ⟨r, hr⟩ : ∃ r, Hid (W1.heap.size = r) := ⟨_, Lib.hid rfl⟩
  have b0 : Below W1.heap.size W1 w0 := (Below.refl _ _).grown hg0 (Nat.le_refl _) (fun q hq => by cases hq)
  have S0 : Hid (KAt Wb p b n f [] [] r cnt0 w0) := Lib.hid ⟨R0.out.below b0, by rw [← hr.out]; exact hrg0, by rw [← hr.out]; exact R0.out.same.size, fun k hk => by cases hk⟩
  have LL0 := Lib.hid (L0.out.of_below b0)
  rw [hr.out]
  clear hrg0 hg0 hs0 b0 hlc M1 R0 L0
  gi_loopw [3] (fun _ wr => ∃ (ks : List Nm) (cnt : Nat), Hid (KAt Wb p b n f ks ks r cnt wr) ∧ Hid (LoopAt rec Wb.heap.size .ready none wr)) (fun _ wr => wr.rangeLeft b r)
  case atStart => exact ⟨[], cnt0, S0, LL0⟩
  case round =>
    obtain ⟨ks, cnt, HS, HL⟩ := hrel
    gi_wp2_with (first
      | (gi_at_next; refine wpListIn_next_nm _ rfl _ rfl b r n cnt ks rfl HS.out.2.1 ?_ ?_)
      | gi_in)
    · intro hall
      have HALL := Lib.hid hall; clear hall
      gi_wp2
      go_end0
      exact ⟨⟨_, rfl⟩, ⟨ks, HS.out.1, HALL.out, HS.out.2.1.nodup, HS.out.2.2.2, by have := HS.out.2.1.count; omega⟩, HL.out⟩
    · intro kh km y w2 cnt2 HN hen
      obtain ⟨bb, since, seen, c0, hrb⟩ := HS.out.2.1.blk
      have np2 := HS.out.1.turn hrb (fun _ _ _ => by simp) HN.out.grown HS.out.2.2.1
      have bn : Below w2.heap.size w2 (w2.alloc (.cells #[.int .i64 kh, .int .i64 km] 45)) := (Below.refl _ _).alloc (Nat.le_refl _) _
      have L3 := Lib.hid ((HL.out.turn hrb (fun _ => by simp) (fun _ => by simp) HN.out.grown).of_below bn)
      have K3 : Hid (KAt Wb p b n f (ks ++ [(kh, km)]) ks r cnt2 (w2.alloc (.cells #[.int .i64 kh, .int .i64 km] 45))) := Lib.hid ⟨np2.below bn, HN.out.range.below bn, HS.out.2.2.1, fun k hk => by
        rcases List.mem_append.1 hk with hk | hk
        · exact HS.out.2.2.2 k hk
        · rw [List.mem_singleton.1 hk, HN.out.at_]; rfl⟩
      have HM := Lib.hid (show wr.rangeLeft b r = cnt from HS.out.2.1.left_eq)
      have HLT := Lib.hid HN.out.lt
      clear np2 bn HS HL HN hrb
      unfold LN.val at hen
      obtain ⟨fn, tmps, assign, body, hy, hRo⟩ := HY.out (ks, (kh, km), r, cnt2) _ K3.out L3.out
      dsimp only at hy
      gi_wp2
      refine ⟨fun h => by simp [Fence.wide] at h, ?_⟩
      refine hRo.mono ?_
      rintro e W6 ⟨rfl, hK6, hL6⟩
      have HK6 := Lib.hid hK6
      have HL6 := Lib.hid hL6
      clear hRo hy hK6 hL6 hen
      gi_wp2
      go_roundw
      case rel => exact ⟨_, cnt2, HK6, HL6⟩
      case measure => rw [HK6.out.2.1.left_eq, HM.out]; exact HLT.out

set_option maxHeartbeats 16000000 in
set_option maxRecDepth 100000 in
theorem appSeqNm2_any (pB b n : Nat) (f : Nm → Option LN) (w : World) (hpB : w.heap[pB]? = some (.cells #[.map (some b)] 106 (0, 0))) (hmap : MapF LN.val w b n f) (hn : n ≤ 1000) :
    Calls Tryz.prog 203 #[.slice none 0 0, .func (.func 171) #[] #[.pointer (some ⟨pB, 0, none⟩)]] w fun e w' =>
      (∃ a' c' ks, e = .returned (.slice a' ks.length c') ∧ w'.ownsRow w.heap.size 45 2 (.slice a' ks.length c') ks.length (nmCells ks) ∧ AllIn f ks ∧ ks.Nodup ∧ (∀ k ∈ ks, (f k).isSome = true) ∧ ks.length ≤ n) ∧ Below w.heap.size w w' := by
  have HLEN := Lib.hid hn; clear hn
  have B0 := Lib.hid ((Below.refl w.heap.size w).alloc (Nat.le_refl _) (.cells #[.slice none 0 0] 75))
  have P0 := Lib.hid (heap_last w (.cells #[.slice none 0 0] 75))
  have HB := Lib.hid (below_blk B0.out hpB)
  have HM := Lib.hid (hmap.below B0.out)
  have NE : Hid (pB ≠ w.heap.size ∧ b ≠ w.heap.size) := Lib.hid (by have := blk_lt hpB; have := hmap.lt; omega)
  clear hpB hmap
  refine (callsIn_wide (n := 4)).1 ?_
  refine callsIn_of_wp_marks Tryz.func203 rfl trivial ?_
  simp only [Tryz.ntmps203, List.size_toArray, List.length_cons, List.length_nil, Nat.reduceAdd, Nat.reduceSub, Array.replicate_succ, Array.replicate_zero, List.push_toArray, List.append_toArray, List.nil_append, List.cons_append]
  refine wpIn_wide.2 ?_
  go_upto_region 1 with fail
  obtain ⟨p, hp⟩ : ∃ p, Hid (w.heap.size = p) := ⟨_, Lib.hid rfl⟩
  rw [hp.out] at P0 NE ⊢
  generalize w.alloc (.cells #[.slice none 0 0] 75) = w3 at *
  go_wp2_with fail
  refine (wpIn_wide (n := 4)).1 ?_
  refine wp_range_own2 (n := 3) (σ := KSt) (w := w3) (gf := 171) (lb := #[.pointer (some ⟨pB, 0, none⟩)]) rfl (enters_of Tryz.func171 (by kernel_rfl) rfl)
    (fun s => #[.agg #[.int .i64 s.2.1.1, .int .i64 s.2.1.2]]) (fun _ => rfl) (fun s W => KAt w3 p b n f (s.1 ++ [s.2.1]) s.1 s.2.2.1 s.2.2.2 W) (fun s W => KAt w3 p b n f (s.1 ++ [s.2.1]) (s.1 ++ [s.2.1]) s.2.2.1 s.2.2.2 W)
    (fun s a₁ W => ∃ pX, a₁ = { tmps := #[.slice none 0 0, .func (.func 171) #[] #[.pointer (some ⟨pB, 0, none⟩)], .pointer (some ⟨p, 0, none⟩), undef, .slice none 0 0, .pointer (some ⟨pX, 0, none⟩), .func (.func 171) #[] #[.pointer (some ⟨pB, 0, none⟩)], .agg #[.int .i64 s.2.1.1, .int .i64 s.2.1.2], undef, undef, undef, undef, undef], defers := [] } ∧ W.heap[pX]? = some (.cells #[.int .i64 s.2.1.1, .int .i64 s.2.1.2] 45 (0, 0)) ∧ KAt w3 p b n f (s.1 ++ [s.2.1]) s.1 s.2.2.1 s.2.2.2 W)
    (fun W => ∃ ks, NpAt w3 p ks W ∧ AllIn f ks ∧ ks.Nodup ∧ (∀ k ∈ ks, (f k).isSome = true) ∧ ks.length ≤ n) ?hA' ?hB ?hD ?assign ?body ?iter ?done
  case hA' =>
    rintro s a₁ W o ⟨pX, rfl, h1, h2, h3, h4⟩ ⟨r, hr⟩
    refine ⟨pX, rfl, (World.putObj_heap_other (fun e => ?_)).trans h1, h2.putObj o ⟨r, hr⟩, h3.turn (grownBy_putObj' W _ _) (fun q e => by cases e; exact ⟨_, hr, by simp, by simp⟩), h4⟩
    rw [e, hr] at h1
    simp at h1
  case hB =>
    rintro s W o ⟨h2, h3, h4⟩ ⟨r, hr⟩
    exact ⟨h2.putObj o ⟨r, hr⟩, h3.turn (grownBy_putObj' W _ _) (fun q e => by cases e; exact ⟨_, hr, by simp, by simp⟩), h4⟩
  case hD =>
    rintro W o ⟨ks, h, h2⟩ hl
    exact ⟨ks, h.putObj o hl, h2⟩
  case assign =>
    rintro ⟨ks, k, r, cnt⟩ W h1
    have H1 := Lib.hid h1
    clear h1
    dsimp only
    have hb5 : Below W.heap.size W (W.alloc (.cells #[.int .i64 k.1, .int .i64 k.2] 45)) := (Below.refl W.heap.size W).alloc (Nat.le_refl _) _
    have HG := Lib.hid (show KeepsFrom w3.heap.size W (W.alloc (.cells #[.int .i64 k.1, .int .i64 k.2] 45)) ∧ (W.alloc (.cells #[.int .i64 k.1, .int .i64 k.2] 45)).heap[W.heap.size]? = some (.cells #[.int .i64 k.1, .int .i64 k.2] 45 (0, 0)) ∧ KAt w3 p b n f (ks ++ [k]) ks r cnt (W.alloc (.cells #[.int .i64 k.1, .int .i64 k.2] 45)) from
      ⟨(keeps_below hb5).from _, heap_last W _, H1.out.1.below hb5, H1.out.2.1.below hb5, H1.out.2.2⟩)
    clear hb5 H1
    have hf : ∀ t : Array Value, (#[7].zip #[Value.agg #[.int .i64 k.1, .int .i64 k.2]]).foldl (fun t (p, v) => t.setIfInBounds p v) t = t.setIfInBounds 7 (.agg #[.int .i64 k.1, .int .i64 k.2]) := fun t => by simp
    rw [hf]
    simp only [List.setIfInBounds_toArray, List.set_cons_succ, List.set_cons_zero]
    clear hf
    refine wpIn_region_plain (wide_round _) (not_lets (fun a w h => h)) ?hnd ?_
    case hnd => rfl
    go_wp2_with fail
    exact ⟨HG.out.1, W.heap.size, rfl, HG.out.2⟩
  case body =>
    rintro ⟨ks, k, r, cnt⟩ a₁ W ⟨pX, rfl, hX, h1⟩
    have HX := Lib.hid hX
    have H1 := Lib.hid (show KAt w3 p b n f (ks ++ [k]) ks r cnt W from h1)
    clear hX h1
    dsimp only
    have HKL : Hid (ks.length ≤ 1000) := Lib.hid (by have h1 := H1.out.2.1.count; have := HLEN.out; rw [List.length_append] at h1; omega)
    obtain ⟨⟨ea, ec, hblk, how⟩, hsm⟩ := H1.out.1
    have bn : Below W.heap.size W (W.alloc (.cells #[.int .i64 k.1, .int .i64 k.2] 45)) := (Below.refl _ _).alloc (Nat.le_refl _) _
    obtain ⟨a', c', v9, hrun, ho9, hg9⟩ := run_app_nm (W.alloc (.cells #[.int .i64 k.1, .int .i64 k.2] 45)) w3.heap.size ea ks.length ec _ (own_below how bn) _ 1 1 _ (lit_rd W _ _) (fun u hu => by simp only [List.mem_cons, List.not_mem_nil, or_false] at hu; rcases hu with rfl | rfl <;> rfl) (by have := HKL.out; omega) (Nat.le_trans hsm.size bn.size)
    have hadd := NpAt.add (hsm.trans (Same.of_below bn)) (below_blk bn hblk) (own_below how bn) ho9 hg9
    have HK : Hid (KeepsFrom w3.heap.size W (v9.setCell ⟨p, 0, none⟩ (.slice a' (ks.length + 1) c'))) := Lib.hid (by
      refine KeepsOthers.from ⟨?_, fun k o hk ho => ?_⟩ _
      · exact Nat.le_trans bn.size (Nat.le_trans hg9.size (by simp [World.setCell]))
      · have hk1 := below_blk bn hk
        have hk2 := grown_blk hg9 hk1 (fun e => by have := own_cells (own_below how bn) e.symm hk1; rw [this] at ho; cases ho)
        exact grown_blk (setCell_grown v9 p 0 _) hk2 (fun e => by rw [Option.some.inj e, hadd.2] at hk2; cases hk2; cases ho))
    have RA : RangeF LN.val (v9.setCell ⟨p, 0, none⟩ (.slice a' (ks.length + 1) c')) b r n f (ks ++ [k]) cnt := by
      have h2 := H1.out.2.1.below bn
      have h3 : RangeF LN.val v9 b r n f (ks ++ [k]) cnt := h2.turn hg9 (fun q e => by
        rcases (own_below how bn).2 with ⟨h4, _⟩ | ⟨g, cap, cur, h4, _, h5, _⟩
        · rw [h4] at e; cases e
        · rw [h4] at e
          cases e
          exact ⟨_, h5, by simp, by simp⟩)
      exact h3.turn (setCell_grown v9 p 0 _) (fun q e => by cases e; exact ⟨_, hadd.2, by simp, by simp⟩)
    have HA := Lib.hid (show KAt w3 p b n f (ks ++ [k]) (ks ++ [k]) r cnt (v9.setCell ⟨p, 0, none⟩ (.slice a' (ks.length + 1) c')) from ⟨hadd.1, RA, H1.out.2.2⟩)
    have hcl := cell_of hblk 0 (.slice ea ks.length ec) rfl
    have hx0 := cell_of HX.out 0 (.int .i64 k.1) rfl
    have hx1 := cell_of HX.out 1 (.int .i64 k.2) rfl
    have hcl3 := cell_of hadd.2 0 (.slice ea ks.length ec) rfl
    have hfz := frozen_of hadd.2 0
    clear hadd how hsm bn ho9 hg9 hblk RA
    apply wpIn_block
    refine wpIn_region_plain (wide_round _) (not_lets (fun a w h => h)) ?hnd ?_
    case hnd => rfl
    go_wp2_with (first
      | (refine wpList_append_eq rfl _ _ _ rfl _ _ _ rfl rfl hrun ?_)
      | fail)
    exact ⟨HK.out, HA.out⟩
  case iter =>
    intro rec hlr hY
    have hbb := ((Below.refl w3.heap.size w3).alloc (Nat.le_refl _) (.deferred (some []))).alloc (by simp) (.loop (rec .ready none))
    exact keysIter2 3 w3 p pB b n f HB.out NE.out.1 HM.out NE.out.2 rec _ ⟨⟨none, 0, below_blk hbb P0.out, World.ownsRow_nil _ _ _ _⟩, Same.of_below hbb⟩ hlr hY
  case done =>
    rintro W ⟨ks, ⟨⟨a', c', hblk, how⟩, hsm⟩, hks⟩ hD0
    dsimp only
    have HD0 := Lib.hid hD0
    have HOW := Lib.hid how
    have HSM := Lib.hid hsm
    have HKS := Lib.hid hks
    have hcl := cell_of hblk 0 (.slice a' ks.length c') rfl
    clear hD0 how hsm hblk hks
    go_wp2_with fail
    have hb : Below w.heap.size w W := HSM.out.below B0.out B0.out.size (fun k hk => by have := hp.out; omega)
    have hbz : Below w.heap.size w (W.putObj w3.heap.size (.deferred none)) := hb.grown (grownBy_putObj' W _ _) hb.size (fun k e => by cases e; exact B0.out.size)
    have hoz := own_mono (ownsRow_putObj HOW.out (.deferred none) HD0.out rfl) B0.out.size
    refine ⟨by simp, .inl ⟨_, _, rfl, run_takeDeferred HD0.out, ?_⟩⟩
    exact ⟨.slice a' ks.length c', by kernel_rfl, ⟨a', c', ks, rfl, hoz, HKS.out⟩, hbz⟩

set_option maxHeartbeats 8000000 in
set_option maxRecDepth 100000 in
theorem collectNm2_any (pB b n : Nat) (f : Nm → Option LN) (w : World) (hpB : w.heap[pB]? = some (.cells #[.map (some b)] 106 (0, 0))) (hmap : MapF LN.val w b n f) (hn : n ≤ 1000) :
    Calls Tryz.prog 169 #[.func (.func 171) #[] #[.pointer (some ⟨pB, 0, none⟩)]] w fun e w' =>
      (∃ a' c' ks, e = .returned (.slice a' ks.length c') ∧ w'.ownsRow w.heap.size 45 2 (.slice a' ks.length c') ks.length (nmCells ks) ∧ AllIn f ks ∧ ks.Nodup ∧ (∀ k ∈ ks, (f k).isSome = true) ∧ ks.length ≤ n) ∧ Below w.heap.size w w' := by
  have HA := Lib.hid (appSeqNm2_any pB b n f w hpB hmap hn)
  clear hpB hmap hn
  go_enter Tryz.func169, Tryz.ntmps169
  go_wp2_with fail
  refine HA.out.mono ?_
  rintro e w1 ⟨⟨a', c', ks, rfl, h1⟩, h2⟩
  have H := Lib.hid (And.intro h1 h2)
  clear h1 h2
  go_wp2_with fail
  go_ret
  exact ⟨⟨a', c', ks, rfl, H.out.1⟩, H.out.2⟩
set_option maxHeartbeats 8000000 in
set_option maxRecDepth 100000 in
theorem sortedNm2_any (pB b n : Nat) (f : Nm → Option LN) (w : World) (hpB : w.heap[pB]? = some (.cells #[.map (some b)] 106 (0, 0))) (hmap : MapF LN.val w b n f) (hn : n ≤ 1000) :
    Calls Tryz.prog 118 #[.func (.func 171) #[] #[.pointer (some ⟨pB, 0, none⟩)], .func (.func 120) #[] #[]] w fun e w' => NamesRet f n w e w' ∧ Below w.heap.size w w' := by
  have HA := Lib.hid (collectNm2_any pB b n f w hpB hmap hn)
  have HN := Lib.hid hn
  clear hpB hmap hn
  go_enter Tryz.func118, Tryz.ntmps118
  go_wp2_with fail
  refine HA.out.mono ?_
  rintro e w1 ⟨⟨a', c', ks, rfl, h1, h2, h3, h4, h5⟩, hb⟩
  have HO := Lib.hid h1
  have HAL := Lib.hid h2
  have HND := Lib.hid h3
  have HIN := Lib.hid h4
  have HL := Lib.hid h5
  have HB := Lib.hid hb
  clear h1 h2 h3 h4 h5 hb
  go_wp2_with fail
  refine (sortName_all (V := Nm) ord_nm nmRow (fun _ => rfl) (fun x v hv => by simp only [nmRow, List.mem_cons, List.not_mem_nil, or_false] at hv; rcases hv with rfl | rfl <;> rfl) (fun x y => namesC x.1 x.2 y.1 y.2) (fun _ _ => rfl) 120 nmCmp2_fn nmCmp2 w.heap.size ks.length c' a' ks _ (by rw [← nmCells_eq]; exact HO.out) rfl (by have := HL.out; have := HN.out; omega)).mono ?_
  rintro e w10 ⟨rfl, zs, hz1, hz2, hz3, hz4⟩
  have Z1 := Lib.hid hz1
  have Z2 := Lib.hid hz2
  have Z3 := Lib.hid hz3
  have B2 := Lib.hid (hz4.below HB.out HB.out.size (fun k hk => (HO.out.lt k hk).1))
  clear hz1 hz2 hz3 hz4
  have ZL : Hid (zs.length = ks.length) := Lib.hid Z2.out.length_eq
  go_wp2_with fail
  go_ret
  exact ⟨⟨a', c', zs, by rw [ZL.out] <;> rfl, by rw [nmCells_eq, ZL.out]; exact Z1.out, fun k hk => Z2.out.symm.subset (HAL.out k hk), nm_strict (Z2.out.nodup_iff.2 HND.out) Z3.out, fun k hk => HIN.out k (Z2.out.subset hk), by rw [ZL.out]; exact HL.out⟩, B2.out⟩
theorem keys2_any (b : Nat) (W : World) : Calls Tryz.prog 119 #[.map (some b)] W fun e W' => e = .returned (.func (.func 171) #[] #[.pointer (some ⟨W.heap.size, 0, none⟩)]) ∧ W' = W.alloc (.cells #[.map (some b)] 106) := by
  have hmf : ∀ (fn : Fn) (first cap : Array Value) (w : World), (Instr.makeFunc fn first cap).run Tryz.prog w = .ok (.func fn first cap) w := fun _ _ _ _ => rfl
  go_enter Tryz.func119, Tryz.ntmps119
  go_wp2_with fail
  go_ret
  exact ⟨rfl, rfl⟩
end
end Go.Proofs.YtlnhppgfhkkidaaGreat
namespace Go.Proofs.YtlnhppgfhkkidaaGreat
set_option linter.unusedSimpArgs false
open Go.RowKit

theorem MgAt.mono {V V' W : World} {a : Option Addr} {c n : Nat} {ys : List LN} (h : MgAt V W a c n ys) (hb : Below V'.heap.size V' V) : MgAt V' W a c n ys :=
  ⟨hb.trans (h.bel.mono hb.size), own_mono h.own hb.size, fun x hx => own_mono (h.str x hx) hb.size, h.len⟩
def GOk (G : Nm → Option LN) (w : World) : Prop := ∀ k x, G k = some x → x.ok w ∧ nmOk k ∧ x.n.strokes.length ≤ 1000000000
theorem GOk.below {G : Nm → Option LN} {w w' : World} (h : GOk G w) (hb : Below w.heap.size w w') : GOk G w' := fun k x hx => ⟨(h k x hx).1.below hb, (h k x hx).2⟩
def ListRet (G : Nm → Option LN) (n : Nat) (w : World) (e : Ending) (W : World) : Prop :=
  ∃ (a : Option Addr) (un c : Nat) (zs : List LN) (ks : List Nm), e = .returned (.slice a un c) ∧ MgAt w W a c un zs ∧ zs.map LN.n = (ks.filterMap G).map LN.n ∧ AllIn G ks ∧ ks.Pairwise (fun x y => nmLt x y = true) ∧ (∀ k ∈ ks, (G k).isSome = true) ∧ un ≤ n
set_option maxHeartbeats 16000000 in
set_option maxRecDepth 100000 in
theorem list_any (b n : Nat) (G : Nm → Option LN) (w : World) (hm : MapF LN.val w b n G) (hn : n ≤ 1000) (hG : GOk G w) :
    Calls Tryz.prog 61 #[.map (some b)] w fun e w' => ListRet G n w e w' ∧ Below w.heap.size w w' := by
  have J2 : (Tryz.prog.info? 45).map (·.size) = some 2 := by kernel_rfl
  have M0 := Lib.hid hm
  have HN := Lib.hid hn
  have HG0 := Lib.hid hG
  clear hm hn hG
  go_enter Tryz.func61, Tryz.ntmps61
  go_wp2_with fail
  refine (keys2_any b w).mono ?_
  rintro e w1 ⟨rfl, rfl⟩
  have B1 := Lib.hid ((Below.refl w.heap.size w).alloc (Nat.le_refl _) (.cells #[.map (some b)] 106))
  have P1 := Lib.hid (heap_last w (.cells #[.map (some b)] 106))
  have M1 := Lib.hid (M0.out.below B1.out)
  obtain ⟨pB, hpB⟩ : ∃ p, Hid (w.heap.size = p) := ⟨_, Lib.hid rfl⟩
  rw [hpB.out] at P1
  rw [hpB.out]
  generalize w.alloc (.cells #[.map (some b)] 106) = w1 at *
  go_wp2_with fail
  refine (sortedNm2_any pB b n G w1 P1.out M1.out HN.out).mono ?_
  rintro e W5 ⟨⟨na, nc, ks, rfl, h1, h2, h3, h4, h5⟩, b5⟩
  have RN := Lib.hid (RdA.of_own h1)
  have HAL := Lib.hid h2
  have HSO := Lib.hid h3
  have HIN := Lib.hid h4
  have HKN := Lib.hid h5
  have B5 := Lib.hid (B1.out.trans (b5.mono B1.out.size))
  have M5 := Lib.hid (M1.out.below b5)
  have HX5 := Lib.hid (HG0.out.below B5.out)
  obtain ⟨kn, hkn⟩ : ∃ kn, Hid (ks.length = kn) := ⟨_, Lib.hid rfl⟩
  rw [hkn.out] at RN HKN ⊢
  clear b5 h1 h2 h3 h4 h5 P1 M1 B1
  have H63 : Hid ((kn : Int) ≤ 9223372036854775807) := Lib.hid (by have := HKN.out; have := HN.out; omega)
  go_wp2_with fail
  go_loopw [3, 10] (fun ov iv wr => ∃ (q : Nat) (oa : Option Addr) (on oc : Nat) (zs : List LN), ov = .slice oa on oc ∧ iv = .int .i64 (q : Int) ∧ q ≤ kn ∧ Hid (MgAt W5 wr oa oc on zs) ∧ Hid (zs.map LN.n = ((ks.take q).filterMap G).map LN.n) ∧ on ≤ q) (fun _ iv _ => kn - (intOf iv).toNat)
  case atStart => exact ⟨0, none, 0, 0, [], rfl, rfl, Nat.zero_le _, Lib.hid (MgAt.start _), Lib.hid rfl, Nat.le_refl _⟩
  case round =>
    obtain ⟨q, oa, on, oc, zs, rfl, rfl, hq, MA, HZ, hon⟩ := hrel
    by_cases hlt : q < kn
    · have t0 : decide ((q : Int) < (kn : Int)) = true := by simp; omega
      obtain ⟨k, Hk⟩ : ∃ k, ks[q]? = some k := ⟨_, List.getElem?_eq_getElem (by rw [hkn.out]; exact hlt)⟩
      obtain ⟨y, hy⟩ := Option.isSome_iff_exists.1 (HIN.out k (List.mem_of_getElem? Hk))
      have GY := Lib.hid hy
      have HY := Lib.hid (HX5.out k y hy)
      have HZ2 : Hid (((ks.take (q + 1)).filterMap G).map LN.n = zs.map LN.n ++ [y.n]) := Lib.hid (by
        rw [take_snoc Hk, List.filterMap_append, List.map_append, ← HZ.out, List.filterMap_cons_some hy]; rfl)
      obtain ⟨kb, koff, rfl, hk1, hk2⟩ := nmCells_at (RN.out.below MA.out.bel) Hk
      obtain ⟨o, ho⟩ : ∃ o, Hid (koff + q * 2 = o) := ⟨_, Lib.hid rfl⟩
      rw [ho.out] at hk1 hk2
      have hix := fun W => idx_off (W := W) (c := nc) (b := kb) Tryz.underlying75 J2 hlt ho.out
      have HK64 : Hid ((q : Int) + 1 ≤ 9223372036854775807) := Lib.hid (by have := HKN.out; have := HN.out; omega)
      obtain ⟨kh, km⟩ := k
      dsimp only at hk1 hk2
      clear Hk hy
      go_upto_region 5 with fail
      clear t0 hix hk1 hk2
      have bt : Below wr.heap.size wr (wr.alloc (.cells #[.int .i64 kh, .int .i64 km] 45)) := (Below.refl _ _).alloc (Nat.le_refl _) _
      have P7 := Lib.hid (heap_last wr (.cells #[.int .i64 kh, .int .i64 km] 45))
      have MA2 := Lib.hid (MA.out.below bt)
      obtain ⟨p7, hp7⟩ : ∃ p, Hid (wr.heap.size = p) := ⟨_, Lib.hid rfl⟩
      rw [hp7.out] at P7 ⊢
      generalize wr.alloc (.cells #[.int .i64 kh, .int .i64 km] 45) = wt at *
      clear bt MA
      have n0 := cell_of P7.out 0 (.int .i64 kh) rfl
      have n1 := cell_of P7.out 1 (.int .i64 km) rfl
      have hget : (Instr.lookup 106 (.map (some b)) (.agg #[.int .i64 kh, .int .i64 km]) false).run Tryz.prog wt = .ok (.agg (noteA y.n y.sa y.sc)) wt := run_get1_nm (t := 106) (M5.out.below MA2.out.bel) Tryz.underlying106 (zero_note wt) kh km HY.out.2.1 GY.out
      go_wp2_with fail
      refine (copied2_any y.n y.sa y.sc wt (HY.out.1.below MA2.out.bel) HY.out.2.2).mono ?_
      rintro e w5 ⟨ta, tc, rfl, hown, b5⟩
      have MA5 := Lib.hid (MA2.out.below b5)
      have HO5 := Lib.hid (own_mono hown MA2.out.bel.size)
      have bn : Below w5.heap.size w5 (w5.alloc (.cells (noteA y.n ta tc) 47)) := (Below.refl _ _).alloc (Nat.le_refl _) _
      obtain ⟨a', c', v9, hrun, ho9, hg9⟩ := run_app_nt (w5.alloc (.cells (noteA y.n ta tc) 47)) W5.heap.size oa on oc _ (own_below MA5.out.own bn) _ 1 1 _ (lit_note w5 y.n ta tc) (y.n.cells_one _ _) (by have := HKN.out; have := HN.out; omega) (Nat.le_trans MA5.out.bel.size bn.size)
      have MA9 := Lib.hid (MA5.out.add (x := ⟨y.n, ta, tc⟩) HO5.out ho9 hg9)
      have HZ9 : Hid ((zs ++ [(⟨y.n, ta, tc⟩ : LN)]).map LN.n = ((ks.take (q + 1)).filterMap G).map LN.n) := Lib.hid (by rw [HZ2.out, List.map_append]; rfl)
      clear hown b5 bn ho9 hg9 MA5 HO5 n0 n1 hget MA2
      have hk64 := HK64.out
      go_wp2_with (first
        | (refine wpList_build_note rfl _ rfl y.n ta tc rfl ?_)
        | (refine wpList_append_eq rfl _ _ _ rfl _ _ _ rfl rfl hrun ?_)
        | fail)
      go_roundw
      case rel => exact ⟨q + 1, a', on + 1, c', zs ++ [⟨y.n, ta, tc⟩], by go_num, by go_num, by omega, MA9, HZ9, by omega⟩
      case measure => simp [intOf]; omega
    · have t0 : decide ((q : Int) < (kn : Int)) = false := by simp; omega
      have UZ : Hid (zs.map LN.n = (ks.filterMap G).map LN.n) := Lib.hid (by rw [HZ.out, List.take_of_length_le (by rw [hkn.out]; omega)])
      have ON : Hid (on ≤ n) := Lib.hid (by have := HKN.out; omega)
      go_wp2_with fail
      go_returns
      exact ⟨⟨oa, on, oc, zs, ks, rfl, MA.out.mono B5.out, UZ.out, HAL.out, HSO.out, HIN.out, ON.out⟩, B5.out.trans (MA.out.bel.mono B5.out.size)⟩
end Go.Proofs.YtlnhppgfhkkidaaGreat
