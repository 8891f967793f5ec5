/- Parts of the proof, in this order: The iterator of the program's events, in any range over it; AppendSeq and Collect of the program's events; Effective of the program; The reference's has, idle, isSet and Effective. -/
import Derived.Test.YtpjiakgfegnmcaaGreatKPhf12
set_option linter.unusedSimpArgs false
set_option linter.unusedVariables false
open List renaming getElem_toArray → lq0, getElem_cons_succ → lq1, getElem_cons_zero → lq2, setIfInBounds_toArray → lq3, set_cons_zero → lq4, set_cons_succ → lq5
namespace Go.Proofs.YtpjiakgfegnmcaaGreat
set_option linter.unusedSimpArgs false
open Go.RowKit
attribute [local go_sem] Oper.semAt_some

set_option maxHeartbeats 8000000 in
set_option maxRecDepth 100000 in
theorem evIterG (m : Nat) (St : Nat → World → Prop) (D pL base0 : Nat) (a : Option Addr) (c : Nat) (xs : List LN)
    (hbel : ∀ k W W', St k W → Below W.heap.size W W' → St k W') (hlst : ∀ k W, St k W → W.heap[pL]? = some (.cells #[.slice a xs.length c] 43 (0, 0))) (hown : ∀ k W, St k W → W.ownsRow base0 51 19 (.slice a xs.length c) xs.length (lnCells xs))
    (rec : LoopState → Option Code → Loop) (W1 : World) (h0 : St 0 W1) (hl : LoopAt rec D .ready none W1)
    (hY : ∀ (s : Nat × LN) W, xs[s.1]? = some s.2 ∧ St s.1 W → LoopAt rec D .ready none W → YieldAt Fence.wide (m - 1) Tryz.prog (D + 1) #[.agg (evA (evOf s.2))] W fun e W' =>
        e = .returned (.bool true) ∧ St (s.1 + 1) W' ∧ LoopAt rec D .ready none W') :
    CallsIn Fence.wide m Tryz.prog 104 #[.func (.yield (D + 1)) #[] #[], .pointer (some ⟨pL, 0, none⟩)] W1 fun e W' =>
        (∃ v, e = .returned v) ∧ St xs.length W' ∧ LoopAt rec D .ready none W' := by
  have I43 := Lib.hid (show ∀ (m : NoteV) (a : Option Addr) (c : Nat), (Tryz.prog.info? 51).map (·.size) = some (noteA m a c).size from fun m a c => by kernel_rfl)
  have IN : (Tryz.prog.info? 51).map (·.size) = some 19 := by kernel_rfl
  have HY := Lib.hid hY; clear hY
  have BEL := Lib.hid hbel; clear hbel
  have LST := Lib.hid hlst; clear hlst
  have OWN := Lib.hid hown; clear hown
  have hlc := cell_of (LST.out _ _ h0) 0 (.slice a xs.length c) rfl
  have hn63 : xs.length ≤ 9223372036854775807 := (RdA.of_own (OWN.out _ _ h0)).maxn
  have R0 := Lib.hid h0; clear h0
  have L0 := Lib.hid hl; clear hl
  refine callsIn_of_wp Tryz.func104 rfl trivial ?_
  simp only [Tryz.ntmps104, List.size_toArray, List.length_cons, List.length_nil, Nat.reduceAdd, Nat.reduceSub, Array.replicate_succ, Array.replicate_zero, List.push_toArray, List.append_toArray, List.nil_append, List.cons_append]
  gi_wp2
  clear hlc
  gi_loopw [7] (fun i wr => ∃ k : Nat, i = .int .i64 k ∧ k ≤ xs.length ∧ Hid (St k wr) ∧ Hid (LoopAt rec D .ready none wr)) (fun i _ => xs.length - (intOf i).toNat)
  case atStart => exact ⟨0, rfl, Nat.zero_le _, R0, L0⟩
  case round =>
    obtain ⟨k, rfl, hk, HR, HL⟩ := hrel
    by_cases hkn : k < xs.length
    · have t0 : decide ((k : Int) < (xs.length : Int)) = true := by simp; omega
      obtain ⟨b, off, rfl, hat⟩ := ln_at (RdA.of_own (OWN.out _ _ HR.out)) (show 0 < xs.length by omega)
      obtain ⟨x, hx⟩ : ∃ x, xs[k]? = some x := ⟨xs[k]'hkn, List.getElem?_eq_getElem hkn⟩
      have HX := Lib.hid hx
      have HRA := Lib.hid (hat k x hx)
      obtain ⟨o, ho⟩ : ∃ o, Hid (off + k * 19 = o) := ⟨_, Lib.hid rfl⟩
      rw [ho.out] at HRA
      have hi := fun W => idx_off (W := W) (c := c) (b := b) Tryz.underlying43 IN hkn ho.out
      have hk64 : (k : Int) + 1 ≤ 9223372036854775807 := by omega
      clear hat hx
      have B1 := Lib.hid ((Below.refl wr.heap.size wr).alloc (Nat.le_refl _) (.cells (noteA zeroN none 0) 51))
      gi_wp2_with (first
        | (refine wpListIn_load_midW wide_wide rfl 51 _ rfl b o rfl (x.n.cells x.sa x.sc) _ HRA.out Tryz.underlying51 rfl IN ?_)
        | (refine wpListIn_store_blkW wide_wide rfl 51 _ _ rfl wr.heap.size (noteA zeroN none 0) (noteA x.n x.sa x.sc) 51 rfl rfl (heap_last wr _) (I43.out _ _ _) rfl (noteA_one x.n x.sa x.sc) ?_; intro w2 h21 h22 h23)
        | fail)
      have B2 : Hid (Below wr.heap.size wr w2) := Lib.hid (B1.out.grown h22 B1.out.size (fun q hq => by cases hq; exact Nat.le_refl _))
      have CT := Lib.hid h21
      clear h22 h23 h21 B1 hi
      obtain ⟨pX, hpX⟩ : ∃ pX, Hid (wr.heap.size = pX) := ⟨_, Lib.hid rfl⟩
      rw [hpX.out] at CT ⊢
      replace HR := Lib.hid (BEL.out _ _ _ HR.out B2.out)
      replace HL := Lib.hid (HL.out.of_below B2.out)
      have bd := (Below.refl w2.heap.size w2).drew
      replace B2 := Lib.hid (B2.out.trans (bd.mono B2.out.size))
      replace HR := Lib.hid (BEL.out _ _ _ HR.out bd)
      replace HL := Lib.hid (HL.out.of_below bd)
      replace CT := Lib.hid (below_blk bd CT.out)
      clear bd
      refine wpIn_region_any (by kernel_rfl) ?_
      change wpAnyIn _ _ _ _ _ _ _ _ _ w2.drew
      generalize w2.drew = V at *
      try simp only [Act.put, lq0, lq1, lq2, lq3, lq4, lq5]
      refine wpAnyIn_take (i := 0) (v := .func (.yield (D + 1)) #[] #[]) rfl rfl (by kernel_rfl) (by kernel_rfl) (by kernel_rfl) (fun _ _ _ h => h) ⟨Or.inl ⟨by rfl, by intro W; go_simp⟩, fun _ => rfl⟩ ?_
      try simp only [Act.put, lq0, lq1, lq2, lq3, lq4, lq5]
      refine wpAnyIn_ready (rs := [1, 3]) (by kernel_rfl) (by simp) ?_
      refine AllReadyIn.cons rfl (fun K hK => ?_) ?_
      · rw [if_pos (by kernel_rfl)]
        refine wpIn_of_wp wide_wide (by intro c e; cases e) (wp_load_row 51 _ rfl pX rfl 51 (noteA x.n x.sa x.sc) (0, 0) _ CT.out Tryz.underlying51 rfl (I43.out _ _ _) (hK _ _ ?_))
        clear hK K
        try simp only [Act.put, lq0, lq1, lq2, lq3, lq4, lq5]
        refine wpAnyIn_ready (rs := [2, 3]) (by kernel_rfl) (by simp) ?_
        refine AllReadyIn.cons rfl (fun K hK => ?_) ?_
        · rw [if_pos (by kernel_rfl)]
          refine wpIn_of_wp wide_wide (by intro c e; cases e) ?_
          go_simp
          go_at_call 63
          refine (nameOf_any x.n x.sa x.sc _).mono ?_
          rintro e V2 ⟨rfl, b2⟩
          replace B2 := Lib.hid (B2.out.trans (b2.mono B2.out.size))
          replace HR := Lib.hid (BEL.out _ _ _ HR.out b2)
          replace HL := Lib.hid (HL.out.of_below b2)
          replace CT := Lib.hid (below_blk b2 CT.out)
          clear b2
          dsimp only
          refine hK _ _ ?_
          clear hK K
          try simp only [Act.put, lq0, lq1, lq2, lq3, lq4, lq5]
          refine wpAnyIn_ready (rs := [3]) (by kernel_rfl) (by simp) ?_
          refine AllReadyIn.cons rfl (fun K hK => ?_) AllReadyIn.nil
          rw [if_pos (by kernel_rfl)]
          refine wpIn_of_wp wide_wide (by intro c e; cases e) (wp_load_row 51 _ rfl pX rfl 51 (noteA x.n x.sa x.sc) (0, 0) _ CT.out Tryz.underlying51 rfl (I43.out _ _ _) (hK _ _ ?_))
          clear hK K
          try simp only [Act.put, lq0, lq1, lq2, lq3, lq4, lq5]
          refine wpAnyIn_take (i := 4) (v := .agg (evA (evOf x))) rfl rfl (by kernel_rfl) (by kernel_rfl) (by kernel_rfl) (fun _ _ _ h => h) ⟨Or.inl ⟨by rfl, by intro W; kernel_rfl⟩, fun _ => rfl⟩ ?_
          try simp only [Act.put, lq0, lq1, lq2, lq3, lq4, lq5]
          refine wpAnyIn_ready (rs := [5]) (by kernel_rfl) (by simp) ?_
          refine AllReadyIn.cons rfl (fun K hK => ?_) AllReadyIn.nil
          rw [if_pos (by kernel_rfl)]
          obtain ⟨fn, tmps, assign, body, hy, hRo⟩ := HY.out (k, x) _ ⟨HX.out, HR.out⟩ HL.out
          refine ⟨fun _ _ => trivial, ?_⟩
          go_simp
          refine ⟨fun h => by simp [Fence.wide] at h, ?_⟩
          refine hRo.mono ?_
          rintro e W6 ⟨rfl, hR6, hL6⟩
          have HR6 := Lib.hid hR6
          have HL6 := Lib.hid hL6
          clear hRo hy hR6 hL6
          refine hK _ _ ?_
          clear hK K
          try simp only [Act.put, lq0, lq1, lq2, lq3, lq4, lq5]
          refine wpAnyIn_take (i := 6) (v := .bool false) rfl rfl (by kernel_rfl) (by kernel_rfl) (by kernel_rfl) (fun _ _ _ h => h) ⟨Or.inl ⟨by rfl, by intro W; go_simp⟩, fun _ => rfl⟩ ?_
          try simp only [Act.put, lq0, lq1, lq2, lq3, lq4, lq5]
          refine wpAnyIn_done (by kernel_rfl) ?_ _
          gi_wp2_with fail
          go_roundw
          case rel => exact ⟨k + 1, by simp, by omega, HR6, HL6⟩
          case measure => simp [intOf]; omega
        refine AllReadyIn.cons rfl (fun K hK => ?_) AllReadyIn.nil
        · rw [if_pos (by kernel_rfl)]
          refine wpIn_of_wp wide_wide (by intro c e; cases e) (wp_load_row 51 _ rfl pX rfl 51 (noteA x.n x.sa x.sc) (0, 0) _ CT.out Tryz.underlying51 rfl (I43.out _ _ _) (hK _ _ ?_))
          clear hK K
          try simp only [Act.put, lq0, lq1, lq2, lq3, lq4, lq5]
          refine wpAnyIn_ready (rs := [2]) (by kernel_rfl) (by simp) ?_
          refine AllReadyIn.cons rfl (fun K hK => ?_) AllReadyIn.nil
          rw [if_pos (by kernel_rfl)]
          refine wpIn_of_wp wide_wide (by intro c e; cases e) ?_
          go_simp
          go_at_call 63
          refine (nameOf_any x.n x.sa x.sc _).mono ?_
          rintro e V2 ⟨rfl, b2⟩
          replace B2 := Lib.hid (B2.out.trans (b2.mono B2.out.size))
          replace HR := Lib.hid (BEL.out _ _ _ HR.out b2)
          replace HL := Lib.hid (HL.out.of_below b2)
          replace CT := Lib.hid (below_blk b2 CT.out)
          clear b2
          dsimp only
          refine hK _ _ ?_
          clear hK K
          try simp only [Act.put, lq0, lq1, lq2, lq3, lq4, lq5]
          refine wpAnyIn_take (i := 4) (v := .agg (evA (evOf x))) rfl rfl (by kernel_rfl) (by kernel_rfl) (by kernel_rfl) (fun _ _ _ h => h) ⟨Or.inl ⟨by rfl, by intro W; kernel_rfl⟩, fun _ => rfl⟩ ?_
          try simp only [Act.put, lq0, lq1, lq2, lq3, lq4, lq5]
          refine wpAnyIn_ready (rs := [5]) (by kernel_rfl) (by simp) ?_
          refine AllReadyIn.cons rfl (fun K hK => ?_) AllReadyIn.nil
          rw [if_pos (by kernel_rfl)]
          obtain ⟨fn, tmps, assign, body, hy, hRo⟩ := HY.out (k, x) _ ⟨HX.out, HR.out⟩ HL.out
          refine ⟨fun _ _ => trivial, ?_⟩
          go_simp
          refine ⟨fun h => by simp [Fence.wide] at h, ?_⟩
          refine hRo.mono ?_
          rintro e W6 ⟨rfl, hR6, hL6⟩
          have HR6 := Lib.hid hR6
          have HL6 := Lib.hid hL6
          clear hRo hy hR6 hL6
          refine hK _ _ ?_
          clear hK K
          try simp only [Act.put, lq0, lq1, lq2, lq3, lq4, lq5]
          refine wpAnyIn_take (i := 6) (v := .bool false) rfl rfl (by kernel_rfl) (by kernel_rfl) (by kernel_rfl) (fun _ _ _ h => h) ⟨Or.inl ⟨by rfl, by intro W; go_simp⟩, fun _ => rfl⟩ ?_
          try simp only [Act.put, lq0, lq1, lq2, lq3, lq4, lq5]
          refine wpAnyIn_done (by kernel_rfl) ?_ _
          gi_wp2_with fail
          go_roundw
          case rel => exact ⟨k + 1, by simp, by omega, HR6, HL6⟩
          case measure => simp [intOf]; omega
      refine AllReadyIn.cons rfl (fun K hK => ?_) AllReadyIn.nil
      · rw [if_pos (by kernel_rfl)]
        refine wpIn_of_wp wide_wide (by intro c e; cases e) (wp_load_row 51 _ rfl pX rfl 51 (noteA x.n x.sa x.sc) (0, 0) _ CT.out Tryz.underlying51 rfl (I43.out _ _ _) (hK _ _ ?_))
        clear hK K
        try simp only [Act.put, lq0, lq1, lq2, lq3, lq4, lq5]
        refine wpAnyIn_ready (rs := [1]) (by kernel_rfl) (by simp) ?_
        refine AllReadyIn.cons rfl (fun K hK => ?_) AllReadyIn.nil
        rw [if_pos (by kernel_rfl)]
        refine wpIn_of_wp wide_wide (by intro c e; cases e) (wp_load_row 51 _ rfl pX rfl 51 (noteA x.n x.sa x.sc) (0, 0) _ CT.out Tryz.underlying51 rfl (I43.out _ _ _) (hK _ _ ?_))
        clear hK K
        try simp only [Act.put, lq0, lq1, lq2, lq3, lq4, lq5]
        refine wpAnyIn_ready (rs := [2]) (by kernel_rfl) (by simp) ?_
        refine AllReadyIn.cons rfl (fun K hK => ?_) AllReadyIn.nil
        rw [if_pos (by kernel_rfl)]
        refine wpIn_of_wp wide_wide (by intro c e; cases e) ?_
        go_simp
        go_at_call 63
        refine (nameOf_any x.n x.sa x.sc _).mono ?_
        rintro e V2 ⟨rfl, b2⟩
        replace B2 := Lib.hid (B2.out.trans (b2.mono B2.out.size))
        replace HR := Lib.hid (BEL.out _ _ _ HR.out b2)
        replace HL := Lib.hid (HL.out.of_below b2)
        replace CT := Lib.hid (below_blk b2 CT.out)
        clear b2
        dsimp only
        refine hK _ _ ?_
        clear hK K
        try simp only [Act.put, lq0, lq1, lq2, lq3, lq4, lq5]
        refine wpAnyIn_take (i := 4) (v := .agg (evA (evOf x))) rfl rfl (by kernel_rfl) (by kernel_rfl) (by kernel_rfl) (fun _ _ _ h => h) ⟨Or.inl ⟨by rfl, by intro W; kernel_rfl⟩, fun _ => rfl⟩ ?_
        try simp only [Act.put, lq0, lq1, lq2, lq3, lq4, lq5]
        refine wpAnyIn_ready (rs := [5]) (by kernel_rfl) (by simp) ?_
        refine AllReadyIn.cons rfl (fun K hK => ?_) AllReadyIn.nil
        rw [if_pos (by kernel_rfl)]
        obtain ⟨fn, tmps, assign, body, hy, hRo⟩ := HY.out (k, x) _ ⟨HX.out, HR.out⟩ HL.out
        refine ⟨fun _ _ => trivial, ?_⟩
        go_simp
        refine ⟨fun h => by simp [Fence.wide] at h, ?_⟩
        refine hRo.mono ?_
        rintro e W6 ⟨rfl, hR6, hL6⟩
        have HR6 := Lib.hid hR6
        have HL6 := Lib.hid hL6
        clear hRo hy hR6 hL6
        refine hK _ _ ?_
        clear hK K
        try simp only [Act.put, lq0, lq1, lq2, lq3, lq4, lq5]
        refine wpAnyIn_take (i := 6) (v := .bool false) rfl rfl (by kernel_rfl) (by kernel_rfl) (by kernel_rfl) (fun _ _ _ h => h) ⟨Or.inl ⟨by rfl, by intro W; go_simp⟩, fun _ => rfl⟩ ?_
        try simp only [Act.put, lq0, lq1, lq2, lq3, lq4, lq5]
        refine wpAnyIn_done (by kernel_rfl) ?_ _
        gi_wp2_with fail
        go_roundw
        case rel => exact ⟨k + 1, by simp, by omega, HR6, HL6⟩
        case measure => simp [intOf]; omega
    · have t0 : decide ((k : Int) < (xs.length : Int)) = false := by simp; omega
      have hke : k = xs.length := by omega
      have HR2 : Hid (St xs.length wr) := Lib.hid (by have := HR.out; rwa [hke] at this)
      gi_wp2_with fail
      go_end0
      exact ⟨⟨_, rfl⟩, HR2.out, HL.out⟩
end Go.Proofs.YtpjiakgfegnmcaaGreat
namespace Go.Proofs.YtpjiakgfegnmcaaGreat
set_option linter.unusedSimpArgs false
open Go.RowKit
attribute [local go_sem] Oper.semAt_some

structure ApAt (Wb : World) (p : Nat) (es : List EvV) (W : World) : Prop where
  blk : ∃ a c, W.heap[p]? = some (.cells #[.slice a es.length c] 24 (0, 0)) ∧ W.ownsRow Wb.heap.size 53 21 (.slice a es.length c) es.length (evCells es)
  same : Same (fun k => k = p) Wb W
theorem ApAt.below {Wb W W' : World} {p : Nat} {es : List EvV} (h : ApAt Wb p es W) (hb : Below W.heap.size W W') : ApAt Wb p es W' := by
  obtain ⟨⟨a, c, h1, h2⟩, h3⟩ := h
  exact ⟨⟨a, c, below_blk hb h1, own_below h2 hb⟩, h3.trans (Same.of_below hb)⟩
theorem ApAt.putObj {Wb W : World} {p : Nat} {es : List EvV} (h : ApAt Wb p es W) (o : Loop) (hl : ∃ r, W.heap[Wb.heap.size + 1]? = some (.loop r)) : ApAt Wb p es (W.putObj (Wb.heap.size + 1) (.loop o)) := by
  obtain ⟨r, hl⟩ := hl
  obtain ⟨⟨a, c, h1, h2⟩, h3⟩ := h
  have hne : p ≠ Wb.heap.size + 1 := fun e => by rw [e, hl] at h1; cases h1
  exact ⟨⟨a, c, (World.putObj_heap_other hne).trans h1, ownsRow_putObj h2 _ hl rfl⟩, h3.reg (Same.of_grown (grownBy_putObj' W _ _) (fun k e => by cases e; exact .inr (by omega)))⟩
theorem ApAt.add {Wb W V : World} {p : Nat} {es : List EvV} {e : EvV} {a a' : Option Addr} {c c' : Nat} (hs : Same (fun k => k = p) Wb W) (hp : W.heap[p]? = some (.cells #[.slice a es.length c] 24 (0, 0))) (how : W.ownsRow Wb.heap.size 53 21 (.slice a es.length c) es.length (evCells es))
    (ho : V.ownsRow Wb.heap.size 53 21 (.slice a' (es.length + 1) c') (es.length + 1) (evCells es ++ e.cells)) (hg : W.grownBy V (Value.ownBlock (.slice a es.length c))) :
    ApAt Wb p (es ++ [e]) (V.setCell ⟨p, 0, none⟩ (.slice a' (es.length + 1) c')) ∧ V.heap[p]? = some (.cells #[.slice a es.length c] 24 (0, 0)) := by
  have hb2 := grown_blk hg hp (own_no how hp (by intro cur; simp))
  have G := setCell_grown V p 0 (.slice a' (es.length + 1) c')
  refine ⟨⟨⟨a', c', ?_, ?_⟩, hs.reg ((Same.of_grown hg (fun k e => .inr (how.lt k e).1)).trans (Same.of_grown G (fun k e => by cases e; exact .inl rfl)))⟩, hb2⟩
  · rw [setCell_at hb2 0 (.slice a' (es.length + 1) c'), List.length_append]; rfl
  · rw [evCells_snoc, List.length_append]
    exact ho.kept G (.inr (own_no ho hb2 (by intro cur; simp)).symm)
theorem wpList_build_ev {ops : Array Oper} {rest : List Oper} {op : Oper} {a : Act} {w : World} {Q : Exit → Act → World → Prop} (hgd : op.guard = none) (x : Operand) (ho : op.op = .buildSlice 24 1 #[(0, x)]) (e : EvV) (hx : a.eval x = .agg (evA e))
    (h : wpList Tryz.prog ops Q rest (a.put op.dst (.slice (some ⟨w.heap.size, 0, none⟩) 1 1)) (w.alloc (.cells (evA e) 53))) : wpList Tryz.prog ops Q (op :: rest) a w :=
  wpList_plain hgd fun _ hK => oper_build_ev x ho e hx (hK _ _ h)

set_option maxHeartbeats 16000000 in
set_option maxRecDepth 100000 in
theorem appSeq_any (pL base0 : Nat) (a : Option Addr) (c : Nat) (xs : List LN) (w : World) (hl : w.heap[pL]? = some (.cells #[.slice a xs.length c] 43 (0, 0))) (ho : w.ownsRow base0 51 19 (.slice a xs.length c) xs.length (lnCells xs)) (hlen : xs.length ≤ 1000) :
    Calls Tryz.prog 102 #[.slice none 0 0, .func (.func 104) #[] #[.pointer (some ⟨pL, 0, none⟩)]] w fun e w' =>
      (∃ a' c', e = .returned (.slice a' xs.length c') ∧ w'.ownsRow w.heap.size 53 21 (.slice a' xs.length c') xs.length (evCells (xs.map evOf))) ∧ Below w.heap.size w w' := by
  have HLEN := Lib.hid hlen; clear hlen
  have B0 := Lib.hid ((Below.refl w.heap.size w).alloc (Nat.le_refl _) (.cells #[.slice none 0 0] 24))
  have P0 := Lib.hid (heap_last w (.cells #[.slice none 0 0] 24))
  have HL := Lib.hid (below_blk B0.out hl)
  have HO := Lib.hid (own_below ho B0.out)
  have NE : Hid (pL ≠ w.heap.size) := Lib.hid (by have := blk_lt hl; omega)
  clear hl ho
  refine (callsIn_wide (n := 4)).1 ?_
  refine callsIn_of_wp_marks Tryz.func102 rfl trivial ?_
  simp only [Tryz.ntmps102, List.size_toArray, List.length_cons, List.length_nil, Nat.reduceAdd, Nat.reduceSub, Array.replicate_succ, Array.replicate_zero, List.push_toArray, List.append_toArray, List.nil_append, List.cons_append]
  refine wpIn_wide.2 ?_
  go_upto_region 1 with fail
  obtain ⟨p, hp⟩ : ∃ p, Hid (w.heap.size = p) := ⟨_, Lib.hid rfl⟩
  rw [hp.out] at P0 NE ⊢
  generalize w.alloc (.cells #[.slice none 0 0] 24) = w3 at *
  go_wp2_with fail
  have ENV : ∀ (es : List EvV) W, ApAt w3 p es W → W.heap[pL]? = some (.cells #[.slice a xs.length c] 43 (0, 0)) ∧ W.ownsRow base0 51 19 (.slice a xs.length c) xs.length (lnCells xs) := fun es W h =>
    ⟨(h.same.block pL (blk_lt HL.out) NE.out).trans HL.out, own_keep HO.out h.same (fun b hb e => own_no HO.out P0.out (by intro cur; simp) (by rw [hb, e]))⟩
  have EN := Lib.hid ENV; clear ENV
  have NX : Hid (∀ k x, xs[k]? = some x → (xs.take (k + 1)).map evOf = (xs.take k).map evOf ++ [evOf x]) := Lib.hid (fun k x hx => by rw [List.take_add_one, hx]; simp)
  refine (wpIn_wide (n := 4)).1 ?_
  refine wp_range_own2 (n := 3) (σ := Nat × LN) (w := w3) (gf := 104) (lb := #[.pointer (some ⟨pL, 0, none⟩)]) rfl (enters_of Tryz.func104 (by kernel_rfl) rfl)
    (fun s => #[.agg (evA (evOf s.2))]) (fun _ => rfl) (fun s W => xs[s.1]? = some s.2 ∧ ApAt w3 p ((xs.take s.1).map evOf) W) (fun s W => ApAt w3 p ((xs.take (s.1 + 1)).map evOf) W)
    (fun s a₁ W => ∃ pX, a₁ = { tmps := #[.slice none 0 0, .func (.func 104) #[] #[.pointer (some ⟨pL, 0, none⟩)], .pointer (some ⟨p, 0, none⟩), undef, .slice none 0 0, .pointer (some ⟨pX, 0, none⟩), .func (.func 104) #[] #[.pointer (some ⟨pL, 0, none⟩)], .agg (evA (evOf s.2)), undef, undef, undef, undef, undef], defers := [] } ∧ W.heap[pX]? = some (.cells (evA (evOf s.2)) 53 (0, 0)) ∧ xs[s.1]? = some s.2 ∧ ApAt w3 p ((xs.take s.1).map evOf) W)
    (fun W => ApAt w3 p (xs.map evOf) W) ?hA' ?hB ?hD ?assign ?body ?iter ?done
  case hA' =>
    rintro s a₁ W o ⟨pX, rfl, h1, h3, h4⟩ ⟨r, hr⟩
    refine ⟨pX, rfl, (World.putObj_heap_other (fun e => ?_)).trans h1, h3, h4.putObj o ⟨r, hr⟩⟩
    rw [e, hr] at h1
    simp at h1
  case hB =>
    intro s W o h hl
    exact h.putObj o hl
  case hD =>
    intro W o h hl
    exact h.putObj o hl
  case assign =>
    rintro ⟨k, x⟩ W ⟨h1, h2⟩
    have I21 := Lib.hid (show ∀ (x : EvV), (Tryz.prog.info? 53).map (·.size) = some (evA x).size from fun x => by kernel_rfl)
    have H1 := Lib.hid h1
    have H2 := Lib.hid h2
    clear h1 h2
    dsimp only
    have hb5 : Below W.heap.size W (W.alloc (.cells (evA (evOf x)) 53)) := (Below.refl W.heap.size W).alloc (Nat.le_refl _) _
    have HG := Lib.hid (show KeepsFrom w3.heap.size W (W.alloc (.cells (evA (evOf x)) 53)) ∧ (W.alloc (.cells (evA (evOf x)) 53)).heap[W.heap.size]? = some (.cells (evA (evOf x)) 53 (0, 0)) ∧ xs[k]? = some x ∧ ApAt w3 p ((xs.take k).map evOf) (W.alloc (.cells (evA (evOf x)) 53)) from
      ⟨(keeps_below hb5).from _, heap_last W _, H1.out, H2.out.below hb5⟩)
    clear hb5 H1 H2
    have hf : ∀ t : Array Value, (#[7].zip #[Value.agg (evA (evOf x))]).foldl (fun t (p, v) => t.setIfInBounds p v) t = t.setIfInBounds 7 (.agg (evA (evOf x))) := fun t => by simp
    rw [hf]
    simp only [List.setIfInBounds_toArray, List.set_cons_succ, List.set_cons_zero]
    clear hf
    refine wpIn_region_plain (wide_round _) (not_lets (fun a w h => h)) ?hnd ?_
    case hnd => rfl
    refine wpList_alloc_ev rfl rfl ?_
    refine wpList_store_newp W rfl 53 _ _ rfl W.heap.size rfl (evA zeroEv) (evA (evOf x)) rfl rfl (I21.out _) rfl (evA_all _) ?_
    exact ⟨HG.out.1, W.heap.size, rfl, HG.out.2⟩
  case body =>
    rintro ⟨k, x⟩ a₁ W ⟨pX, rfl, hX, h1, h2⟩
    have I21 := Lib.hid (show ∀ (x : EvV), (Tryz.prog.info? 53).map (·.size) = some (evA x).size from fun x => by kernel_rfl)
    have HX := Lib.hid hX
    have H1 := Lib.hid (show xs[k]? = some x from h1)
    have H2 := Lib.hid (show ApAt w3 p ((xs.take k).map evOf) W from h2)
    clear hX h1 h2
    dsimp only
    have HNX := Lib.hid (NX.out k x H1.out)
    rw [HNX.out]
    have HKL : Hid (((xs.take k).map evOf).length ≤ 1000) := Lib.hid (by have := HLEN.out; rw [List.length_map, List.length_take]; omega)
    generalize (xs.take k).map evOf = es at *
    obtain ⟨⟨ea, ec, hblk, how⟩, hsm⟩ := H2.out
    have bn : Below W.heap.size W (W.alloc (.cells (evA (evOf x)) 53)) := (Below.refl _ _).alloc (Nat.le_refl _) _
    obtain ⟨a', c', v9, hrun, ho9, hg9, -⟩ := run_app_ev (W.alloc (.cells (evA (evOf x)) 53)) w3.heap.size ea es.length ec _ (own_below how bn) _ 1 1 _ (lit_ev W (evOf x)) (evA_one (evOf x)) (by have := HKL.out; omega) (Nat.le_trans hsm.size bn.size)
    have hadd := ApAt.add (hsm.trans (Same.of_below bn)) (below_blk bn hblk) (own_below how bn) ho9 hg9
    have HK : Hid (KeepsFrom w3.heap.size W (v9.setCell ⟨p, 0, none⟩ (.slice a' (es.length + 1) c'))) := Lib.hid (by
      refine KeepsOthers.from ⟨?_, fun k o hk ho => ?_⟩ _
      · exact Nat.le_trans bn.size (Nat.le_trans hg9.size (by simp [World.setCell]))
      · have hk1 := below_blk bn hk
        have hk2 := grown_blk hg9 hk1 (fun e => by have := own_cells (own_below how bn) e.symm hk1; rw [this] at ho; cases ho)
        exact grown_blk (setCell_grown v9 p 0 _) hk2 (fun e => by rw [Option.some.inj e, hadd.2] at hk2; cases hk2; cases ho))
    have HA := Lib.hid hadd
    have hcl := cell_of hblk 0 (.slice ea es.length ec) rfl
    have hcl3 := cell_of hadd.2 0 (.slice ea es.length ec) rfl
    have hfz := frozen_of hadd.2 0
    clear hadd how hsm bn ho9 hg9 hblk
    apply wpIn_block
    refine wpIn_region_plain (wide_round _) (not_lets (fun a w h => h)) ?hnd ?_
    case hnd => rfl
    go_wp2_with (first
      | (refine wpList_load_row rfl 53 _ rfl pX rfl 53 (evA (evOf x)) (0, 0) _ HX.out Tryz.underlying53 rfl (I21.out _) ?_)
      | (refine wpList_build_ev rfl _ rfl (evOf x) rfl ?_)
      | (refine wpList_append_eq rfl _ _ _ rfl _ _ _ rfl rfl hrun ?_)
      | fail)
    exact ⟨HK.out, HA.out.1⟩
  case iter =>
    intro rec hlr hY
    have hbb := ((Below.refl w3.heap.size w3).alloc (Nat.le_refl _) (.deferred (some []))).alloc (by simp) (.loop (rec .ready none))
    have := evIterG 3 (fun k W => ApAt w3 p ((xs.take k).map evOf) W) w3.heap.size pL base0 a c xs (fun k W W' h hb => h.below hb) (fun k W h => (EN.out _ W h).1) (fun k W h => (EN.out _ W h).2) rec _ ⟨⟨none, 0, below_blk hbb P0.out, World.ownsRow_nil _ _ _ _⟩, Same.of_below hbb⟩ hlr hY
    rwa [List.take_length] at this
  case done =>
    intro W hW hD0
    dsimp only
    obtain ⟨⟨a', c', hblk, how⟩, hsm⟩ := hW
    have HD0 := Lib.hid hD0
    rw [List.length_map] at hblk how
    have HOW := Lib.hid how
    have HSM := Lib.hid hsm
    have hcl := cell_of hblk 0 (.slice a' xs.length c') rfl
    clear hD0 how hsm hblk
    go_wp2_with fail
    have hb : Below w.heap.size w W := HSM.out.below B0.out B0.out.size (fun k hk => by have := hp.out; omega)
    have hbz : Below w.heap.size w (W.putObj w3.heap.size (.deferred none)) := hb.grown (grownBy_putObj' W _ _) hb.size (fun k e => by cases e; exact B0.out.size)
    have hoz := own_mono (ownsRow_putObj HOW.out (.deferred none) HD0.out rfl) B0.out.size
    refine ⟨by simp, .inl ⟨_, _, rfl, run_takeDeferred HD0.out, ?_⟩⟩
    exact ⟨.slice a' xs.length c', by kernel_rfl, ⟨a', c', rfl, hoz⟩, hbz⟩
end Go.Proofs.YtpjiakgfegnmcaaGreat
namespace Go.Proofs.YtpjiakgfegnmcaaGreat
set_option linter.unusedSimpArgs false
open Go.RowKit

theorem collect_any (pL base0 : Nat) (a : Option Addr) (c : Nat) (xs : List LN) (w : World) (hl : w.heap[pL]? = some (.cells #[.slice a xs.length c] 43 (0, 0))) (ho : w.ownsRow base0 51 19 (.slice a xs.length c) xs.length (lnCells xs)) (hlen : xs.length ≤ 1000) :
    Calls Tryz.prog 70 #[.func (.func 104) #[] #[.pointer (some ⟨pL, 0, none⟩)]] w fun e w' =>
      (∃ a' c', e = .returned (.slice a' xs.length c') ∧ w'.ownsRow w.heap.size 53 21 (.slice a' xs.length c') xs.length (evCells (xs.map evOf))) ∧ Below w.heap.size w w' := by
  have HA := Lib.hid (appSeq_any pL base0 a c xs w hl ho hlen)
  clear hl ho hlen
  go_enter Tryz.func70, Tryz.ntmps70
  go_wp2_with fail
  refine HA.out.mono ?_
  rintro e w1 ⟨⟨a', c', rfl, h1⟩, h2⟩
  have H := Lib.hid (And.intro h1 h2)
  clear h1 h2
  go_wp2_with fail
  go_ret
  exact ⟨⟨a', c', rfl, H.out.1⟩, H.out.2⟩
def EffAny (f : FrV) (l : List NoteV) (w : World) (e : Ending) (w' : World) : Prop :=
  ((checkSetP f l).1 ≠ 0 ∧ e = .returned (.tuple #[.slice none 0 0, .int .i64 1])) ∨
  ((checkSetP f l).1 = 0 ∧ ∃ a' c' es, e = .returned (.tuple #[.slice a' es.length c', .int .i64 0]) ∧ RdEs w' a' es.length c' es ∧ (∀ e ∈ es, e.x.ok w') ∧ es.map (fun e => e.x.n) = eventsP l ∧ ∀ e ∈ es, e.nm = nmOf e.x.n)

set_option maxHeartbeats 8000000 in
set_option maxRecDepth 100000 in
theorem effective_any (f : FrV) (a : Option Addr) (n c : Nat) (l : List NoteV) (w : World) (hr : RdNs w a n c l) (hok : ∀ x ∈ l, x.Ok) :
    Calls Tryz.prog 28 #[f.val, .slice a n c] w fun e w' => EffAny f l w e w' ∧ Below w.heap.size w w' := by
  have HR := Lib.hid hr; clear hr
  have HOK := Lib.hid hok; clear hok
  have B0 := Lib.hid ((Below.refl w.heap.size w).alloc (Nat.le_refl _) (.cells #[.int .i64 f.rings, .int .i64 f.sectors, .int .i64 f.wide] 23))
  have F0 := Lib.hid (heap_last w (.cells #[.int .i64 f.rings, .int .i64 f.sectors, .int .i64 f.wide] 23))
  unfold FrV.val
  go_enter Tryz.func28, Tryz.ntmps28
  go_upto_region 1 with fail
  obtain ⟨pF, hpF⟩ : ∃ pF, Hid (w.heap.size = pF) := ⟨_, Lib.hid rfl⟩
  rw [hpF.out] at F0 ⊢
  generalize w.alloc (.cells #[.int .i64 f.rings, .int .i64 f.sectors, .int .i64 f.wide] 23) = w0 at *
  have f0 := cell_of F0.out 0 (.int .i64 f.rings) rfl
  have f1 := cell_of F0.out 1 (.int .i64 f.sectors) rfl
  have f2 := cell_of F0.out 2 (.int .i64 f.wide) rfl
  go_wp2_with fail
  refine (setOf_any f a n c l w0 (HR.out.below B0.out) HOK.out).mono ?_
  clear f0 f1 f2
  rintro e w1 ⟨h1 | h1, hb1⟩
  · obtain ⟨hbad, rfl⟩ := h1
    have HBAD := Lib.hid hbad; clear hbad
    have B1 := Lib.hid (B0.out.trans (hb1.mono B0.out.size))
    clear hb1
    go_wp2_with fail
    go_returns
    exact ⟨.inl ⟨HBAD.out, rfl⟩, B1.out⟩
  obtain ⟨hset, xs, b, rfl, h2, h3, h4, h5⟩ := h1
  have HSET := Lib.hid hset; clear hset
  have HXS := Lib.hid h2
  have HXO := Lib.hid h3
  have HM := Lib.hid h4
  have B1 := Lib.hid (B0.out.trans (hb1.mono B0.out.size))
  clear h2 h3 h4 h5 hb1
  have HLN : Hid (l.length ≤ 400) := Lib.hid (set_ok HSET.out).2.1
  have HXL : Hid (xs.length = l.length) := Lib.hid (by have h1 := congrArg List.length HXS.out; rwa [List.length_map] at h1)
  have HSL : Hid (∀ x ∈ xs, x.n ∈ l) := Lib.hid (fun x hx => by rw [← HXS.out]; exact List.mem_map_of_mem hx)
  have FO : Hid (FOk (setF xs)) := Lib.hid (fun k x h => ⟨HOK.out x.n (HSL.out x (setF_some h).1), (setF_some h).2⟩)
  have ND : Hid (((xs.map LN.n).map nmOf).Nodup) := Lib.hid (by rw [HXS.out]; exact set_nodup (set_ok HSET.out).2.2.2)
  go_wp2_with fail
  refine (sit_any b l.length (setF xs) w1 HM.out FO.out (by have := HLN.out; omega)).mono ?_
  rintro e w3 ⟨⟨pB, bJ, va, vn, vc, ks, J, rfl, h2, h3, h4, h5, h6, h7, h8, h9, h10⟩, hb3⟩
  have HBN := Lib.hid h2
  have HND := Lib.hid h3
  have HAL := Lib.hid h4
  have HMJ := Lib.hid h5
  have HJO := Lib.hid h7
  have HM3 := Lib.hid (HM.out.below hb3)
  have HXO3 := Lib.hid (show ∀ x ∈ xs, x.ok w3 from fun x hx => (HXO.out x hx).below hb3)
  have B3 := Lib.hid (B1.out.trans (hb3.mono B1.out.size))
  clear h2 h3 h4 h5 h6 h7 h8 h9 h10 hb3
  dsimp only
  go_wp2_with fail
  refine (events_any pB b bJ l.length ks.length va vn vc (setF xs) J w3 HBN.out HM3.out HMJ.out FO.out (fun a x h => by obtain ⟨⟨k, _, h1⟩, _⟩ := (HJO.out a).2 x h; exact ⟨k, h1⟩)
    (fun a x h => ⟨HXO3.out x (setF_some h).1, Nat.le_trans (formed_len (set_ok HSET.out).1 ((set_ok HSET.out).2.2.1 x.n (HSL.out x (setF_some h).1))) (by decide)⟩) (by have := HLN.out; omega)).mono ?_
  rintro e w4 ⟨⟨pL, la, lc, es, ks2, rfl, h1, h2, h3, h4, h5, h6, h7, h8⟩, hb4⟩
  have HL := Lib.hid h1
  have HO := Lib.hid h2
  have HE := Lib.hid h3
  have EV : Hid (es.map LN.n = eventsP l) := Lib.hid (by
    rw [← HXS.out]
    refine events_eq ND.out (h6.trans (evs_eq ND.out HAL.out HJO.out h4 h5)) ?_
    rw [List.pairwise_map]
    exact h7.imp (fun {x y} h => by simpa [whenLt] using h))
  have HLE : Hid (es.length ≤ 1000) := Lib.hid (by
    have h1 := h6.length_eq
    have h2 := evs_le (xs := xs) (J := J) h4
    have h3 := HXL.out
    have h4 := HLN.out
    rw [List.length_map] at h1
    omega)
  have B4 := Lib.hid (B3.out.trans (hb4.mono B3.out.size))
  clear h1 h2 h3 h4 h5 h6 h7 h8 hb4
  dsimp only
  go_wp2_with fail
  refine (collect_any pL _ la lc es w4 HL.out HO.out HLE.out).mono ?_
  rintro e w5 ⟨⟨a', c', rfl, h1⟩, hb5⟩
  have HR5 : Hid (RdA w5 21 a' es.length c' (evCells (es.map evOf))) := Lib.hid (RdA.of_own h1)
  have HE5 := Lib.hid (HE.out.below hb5)
  have B5 := Lib.hid (B4.out.trans (hb5.mono B4.out.size))
  clear h1 hb5
  go_wp2_with fail
  go_returns
  refine ⟨.inr ⟨HSET.out, a', c', es.map evOf, by rw [List.length_map]; rfl, ?_, fun e he => ?_, ?_, fun e he => ?_⟩, B5.out⟩
  · rw [List.length_map]; exact RdEs.of_rd HR5.out
  · obtain ⟨x, hx, rfl⟩ := List.mem_map.1 he
    exact RdA.of_own (HE5.out x hx)
  · rw [List.map_map, ← EV.out]; rfl
  · obtain ⟨x, hx, rfl⟩ := List.mem_map.1 he
    rfl
end Go.Proofs.YtpjiakgfegnmcaaGreat
namespace Go.Proofs.YtpjiakgfegnmcaaGreat
set_option linter.unusedSimpArgs false
open Go.RowKit

set_option maxHeartbeats 8000000 in
set_option maxRecDepth 100000 in
theorem rhas_any (l : List Nm) (a : Option Addr) (nn nc : Nat) (h m : Int) (w : World) (hr : RdA w 2 a nn nc (nmCells l)) :
    Calls Tryz.prog 106 #[.slice a nn nc, .agg #[.int .i64 h, .int .i64 m]] w fun e w' => e = .returned (.bool (decide ((h, m) ∈ l))) ∧ Below w.heap.size w w' := by
  have J2 : (Tryz.prog.info? 29).map (·.size) = some 2 := by kernel_rfl
  have hn63 := hr.maxn
  have HLN : Hid (l.length = nn) := Lib.hid (by have := hr.len; rw [nmCells_len] at this; omega)
  have HR := Lib.hid hr
  clear hr
  have B0 := Lib.hid ((Below.refl w.heap.size w).alloc (Nat.le_refl _) (.cells #[.int .i64 h, .int .i64 m] 29))
  have R0 := Lib.hid (heap_last w (.cells #[.int .i64 h, .int .i64 m] 29))
  go_enter Tryz.func106, Tryz.ntmps106
  go_upto_region 1 with fail
  obtain ⟨p3, hp3⟩ : ∃ p, Hid (w.heap.size = p) := ⟨_, Lib.hid rfl⟩
  rw [hp3.out] at R0 ⊢
  generalize w.alloc (.cells #[.int .i64 h, .int .i64 m] 29) = W0 at *
  go_wp2_with fail
  go_loopw [5] (fun i wr => ∃ k : Nat, i = .int .i64 (k : Int) ∧ k ≤ nn ∧ Hid (∀ j y, j < k → l[j]? = some y → y ≠ (h, m)) ∧ Hid (Below W0.heap.size W0 wr)) (fun i _ => nn - (intOf i).toNat)
  case atStart => exact ⟨0, rfl, Nat.zero_le _, Lib.hid (fun j y h => by omega), Lib.hid (Below.refl _ _)⟩
  case round =>
    obtain ⟨k, rfl, hk, HA, BB⟩ := hrel
    by_cases hlt : k < nn
    · have t0 : decide ((k : Int) < (nn : Int)) = true := by simp; omega
      obtain ⟨x, Hx⟩ : ∃ x, l[k]? = some x := ⟨_, List.getElem?_eq_getElem (by rw [HLN.out]; exact hlt)⟩
      have HX := Lib.hid Hx
      obtain ⟨b, off, rfl, hat⟩ := rdNm_at (HR.out.below (B0.out.trans (BB.out.mono B0.out.size))) (by omega)
      have HC := Lib.hid (hat k x Hx)
      obtain ⟨o, ho⟩ : ∃ o, Hid (off + k * 2 = o) := ⟨_, Lib.hid rfl⟩
      rw [ho.out] at HC
      have HIX := Lib.hid (fun W => idx_off (W := W) (c := nc) (b := b) Tryz.underlying25 J2 hlt ho.out)
      have hk64 : (k : Int) + 1 ≤ 9223372036854775807 := by omega
      have LR := Lib.hid (show ∀ w0, Below wr.heap.size wr w0 → w0.heap[p3]? = some (.cells #[.int .i64 h, .int .i64 m] 29 (0, 0)) from fun w0 hb => below_blk hb (below_blk BB.out R0.out))
      have LX := Lib.hid (show ∀ w0, Below wr.heap.size wr w0 → w0.cell? ⟨b, o, none⟩ = some (.int .i64 x.1) ∧ w0.cell? ⟨b, o + 1, none⟩ = some (.int .i64 x.2) from fun w0 hb => ⟨(hb.cell (World.block_lt_of_cell? wr _ HC.out.1)).trans HC.out.1, (hb.cell (World.block_lt_of_cell? wr _ HC.out.2)).trans HC.out.2⟩)
      have hC0 : Below wr.heap.size wr wr.drew := (Below.refl _ _).drew
      clear hat Hx
      go_upto_region 4 with fail
      clear t0
      try simp only [Act.put, lq3, lq4, lq5]
      refine wp_region_quiet (C := fun w' : World => Below wr.heap.size wr w') (by kernel_rfl) (by kernel_rfl) hC0 ?_
      show wpQuiet _ _ _ _ (_ :: _) _
      go_big_quiet_want
      go_big_quiet_op
      go_big_quiet_on
      go_big_quiet_want
      go_big_quiet_op
      go_big_quiet_on
      go_big_quiet_want
      refine ⟨.pointer (some ⟨b, o, none⟩), fun w0 hC => ?_, ?_⟩
      · have hix := HIX.out w0
        clear hC
        go_simp
      simp only [Act.put, lq3, lq4, lq5]
      go_big_quiet_on
      go_big_quiet_want
      refine ⟨.agg #[.int .i64 x.1, .int .i64 x.2], fun w0 hC => ?_, ?_⟩
      · obtain ⟨c0, c1⟩ := LX.out w0 hC
        clear hC
        go_simp
      simp only [Act.put, lq3, lq4, lq5]
      go_big_quiet_on
      go_big_quiet_want
      refine ⟨.agg #[.int .i64 h, .int .i64 m], fun w0 hC => ?_, ?_⟩
      · have c0 := cell_of (LR.out w0 hC) 0 (.int .i64 h) rfl
        have c1 := cell_of (LR.out w0 hC) 1 (.int .i64 m) rfl
        clear hC
        go_simp
      simp only [Act.put, lq3, lq4, lq5]
      go_big_quiet_on
      go_big_quiet_want
      refine ⟨.bool (decide (x.1 = h ∧ x.2 = m)), fun w0 hC => ?_, ?_⟩
      · clear hC
        go_simp
        try (by_cases h1 : x.1 = h <;> by_cases h2 : x.2 = m <;> simp [h1, h2])
      simp only [Act.put, lq3, lq4, lq5]
      go_big_quiet_on
      refine wpQuiet_nil ?_
      intro w' hC
      have BB2 := Lib.hid (BB.out.trans (hC.mono BB.out.size))
      clear hC LX LR HC BB
      cases hq : decide (x.1 = h ∧ x.2 = m)
      · have NE := Lib.hid (of_decide_eq_false hq)
        clear hq
        go_wp2_with fail
        go_roundw
        case rel => exact ⟨k + 1, by go_num, by omega, Lib.hid (fun i z hi hz => by
          rcases Nat.lt_or_ge i k with h' | h'
          · exact HA.out i z h' hz
          · have e : i = k := by omega
            subst e
            rw [HX.out] at hz
            cases hz
            exact fun e => NE.out ⟨congrArg Prod.fst e, congrArg Prod.snd e⟩), BB2⟩
        case measure => simp [intOf]; omega
      · have EQ : Hid ((h, m) ∈ l) := Lib.hid (by
          obtain ⟨e1, e2⟩ := of_decide_eq_true hq
          have e : x = (h, m) := Prod.ext e1 e2
          rw [← e]; exact List.mem_of_getElem? HX.out)
        clear hq
        go_wp2_with fail
        go_ret
        exact ⟨by rw [decide_eq_true EQ.out] <;> rfl, B0.out.trans (BB2.out.mono B0.out.size)⟩
    · have t0 : decide ((k : Int) < (nn : Int)) = false := by simp; omega
      have NI : Hid ((h, m) ∉ l) := Lib.hid (fun hm => by
        obtain ⟨i, hi⟩ := List.getElem?_of_mem hm
        exact HA.out i _ (by have := (List.getElem?_eq_some_iff.1 hi).1; rw [HLN.out] at this; omega) hi rfl)
      go_wp2_with fail
      go_ret
      exact ⟨by rw [decide_eq_false NI.out] <;> rfl, B0.out.trans (BB.out.mono B0.out.size)⟩

set_option maxHeartbeats 8000000 in
set_option maxRecDepth 100000 in
theorem ridle_any (l : List NoteV) (a : Option Addr) (nn nc : Nat) (n : NoteV) (ta : Option Addr) (tc : Nat) (w : World) (hr : RdNs w a nn nc l) (hk : 1 ≤ n.kind ∧ n.kind ≤ 6) :
    Calls Tryz.prog 107 #[.slice a nn nc, .agg (noteA n ta tc)] w fun e w' => e = .returned (.bool (idleP l n)) ∧ Below w.heap.size w w' := by
  have I43 := Lib.hid (show ∀ (m : NoteV) (a : Option Addr) (c : Nat), (Tryz.prog.info? 51).map (·.size) = some (noteA m a c).size from fun m a c => by kernel_rfl)
  have J19 : (Tryz.prog.info? 51).map (·.size) = some 19 := by kernel_rfl
  have hn63 : nn ≤ 9223372036854775807 := by have h1 := hr.2.1; have h2 := hr.2.2.1; unfold maxLen at h2; omega
  obtain ⟨xs, hxs, hrl⟩ := hr.choose
  have RL := Lib.hid hrl
  have HXS := Lib.hid hxs
  have LNX := Lib.hid hrl.1
  have HLN := Lib.hid hr.1
  have CJF := Lib.hid (fun (x : NoteV) (sa : Option Addr) (sc : Nat) (W : World) => rjudges_any n x ta tc sa sc W)
  have CJE := Lib.hid (fun (x : NoteV) => rjudges_eq x hk)
  clear hr hk hxs hrl
  have B0 := Lib.hid ((Below.refl w.heap.size w).alloc (Nat.le_refl _) (.cells (noteA n ta tc) 51))
  have R0 := Lib.hid (heap_last w (.cells (noteA n ta tc) 51))
  go_enter Tryz.func107, Tryz.ntmps107
  go_upto_region 1 with fail
  obtain ⟨p3, hp3⟩ : ∃ p, Hid (w.heap.size = p) := ⟨_, Lib.hid rfl⟩
  rw [hp3.out] at R0 ⊢
  generalize w.alloc (.cells (noteA n ta tc) 51) = W0 at *
  go_wp2_with (refine wpList_load_row rfl 51 _ rfl p3 rfl 51 (noteA n ta tc) (0, 0) _ R0.out Tryz.underlying51 rfl (I43.out _ _ _) ?_)
  refine (plain_any n ta tc W0).mono ?_
  rintro e W1 ⟨rfl, b1⟩
  have R1 := Lib.hid (below_blk b1 R0.out)
  have B1 := Lib.hid (B0.out.trans (b1.mono B0.out.size))
  clear b1 B0 R0
  cases hd : doneB n
  case true =>
    have GI := Lib.hid (show idleP l n = false by unfold idleP; rw [hd]; rfl)
    clear hd
    go_wp2_with fail
    go_ret
    exact ⟨by rw [GI.out] <;> rfl, B1.out⟩
  have GI := Lib.hid (show ∀ b, (l.any (fun r => candP r n)) = b → idleP l n = !b from fun b h => by unfold idleP; rw [hd, h]; rfl)
  clear hd
  go_wp2_with fail
  go_loopw [5] (fun i wr => ∃ k : Nat, i = .int .i64 (k : Int) ∧ k ≤ nn ∧ Hid (∀ j y, j < k → l[j]? = some y → candP y n = false) ∧ Hid (Below W1.heap.size W1 wr)) (fun i _ => nn - (intOf i).toNat)
  case atStart => exact ⟨0, rfl, Nat.zero_le _, Lib.hid (fun j y h => by omega), Lib.hid (Below.refl _ _)⟩
  case round =>
    obtain ⟨k, rfl, hk, HA, BB⟩ := hrel
    by_cases hlt : k < nn
    · have t0 : decide ((k : Int) < (nn : Int)) = true := by simp; omega
      obtain ⟨x, Hx⟩ : ∃ x, xs[k]? = some x := ⟨_, List.getElem?_eq_getElem (by rw [LNX.out]; exact hlt)⟩
      have HLX := Lib.hid (show l[k]? = some x.n by rw [← HXS.out, List.getElem?_map, Hx]; rfl)
      obtain ⟨b, off, rfl, hat⟩ := (RL.out.below (B1.out.trans (BB.out.mono B1.out.size))).at (by omega)
      have HX := Lib.hid (hat k x Hx).1
      obtain ⟨o, ho⟩ : ∃ o, Hid (off + k * 19 = o) := ⟨_, Lib.hid rfl⟩
      rw [ho.out] at HX
      have HIX := Lib.hid (fun W => idx_off (W := W) (c := nc) (b := b) Tryz.underlying43 J19 hlt ho.out)
      have hk64 : (k : Int) + 1 ≤ 9223372036854775807 := by omega
      have LR := Lib.hid (show ∀ w0, Below wr.heap.size wr w0 → w0.rangeAt p3 0 (n.cells ta tc) from fun w0 hb => blk_note2 (below_blk hb (below_blk BB.out R1.out)))
      have LX := Lib.hid (show ∀ w0, Below wr.heap.size wr w0 → w0.rangeAt b o (x.n.cells x.sa x.sc) from fun w0 h => rangeAt_below HX.out h)
      have hC0 : Below wr.heap.size wr wr.drew := (Below.refl _ _).drew
      have CJ := Lib.hid (fun W => CJF.out x.n x.sa x.sc W)
      rw [CJE.out x.n] at CJ
      clear hat Hx
      go_upto_region 6 with fail
      clear t0
      try simp only [Act.put, lq3, lq4, lq5]
      refine wp_region_quiet (C := fun w' : World => Below wr.heap.size wr w') (by kernel_rfl) (by kernel_rfl) hC0 ?_
      show wpQuiet _ _ _ _ (_ :: _) _
      go_big_quiet_want
      refine ⟨.agg (noteA n ta tc), fun w0 hC => quiet_load_note (.tmp 3) rfl p3 0 rfl n ta tc (LR.out w0 hC), ?_⟩
      simp only [Act.put, lq3, lq4, lq5]
      go_big_quiet_on
      go_big_quiet_want
      go_big_quiet_op
      go_big_quiet_on
      go_big_quiet_want
      go_big_quiet_op
      go_big_quiet_on
      go_big_quiet_want
      refine ⟨.pointer (some ⟨b, o, none⟩), fun w0 hC => ?_, ?_⟩
      · have hix := HIX.out w0
        clear hC
        go_simp
      simp only [Act.put, lq3, lq4, lq5]
      go_big_quiet_on
      go_big_quiet_want
      refine ⟨.agg (noteA x.n x.sa x.sc), fun w0 hC => quiet_load_note (.tmp 17) rfl b o rfl x.n x.sa x.sc (LX.out w0 hC), ?_⟩
      simp only [Act.put, lq3, lq4, lq5]
      go_big_quiet_on
      go_big_quiet_want
      refine ⟨.bool (candP x.n n), fun w0 hC => ?_, ?_⟩
      · go_simp
        refine (CJ.out w0).mono ?_
        rintro e w1 ⟨rfl, b1⟩
        exact ⟨rfl, hC.trans (b1.mono hC.size)⟩
      simp only [Act.put, lq3, lq4, lq5]
      go_big_quiet_on
      refine wpQuiet_nil ?_
      intro w' hC
      have BB2 := Lib.hid (BB.out.trans (hC.mono BB.out.size))
      clear hC LX LR HX BB
      cases hq : candP x.n n
      · have NE := Lib.hid hq
        clear hq
        go_wp2_with fail
        go_roundw
        case rel => exact ⟨k + 1, by go_num, by omega, Lib.hid (fun i z hi hz => by
          rcases Nat.lt_or_ge i k with h' | h'
          · exact HA.out i z h' hz
          · have e : i = k := by omega
            subst e
            rw [HLX.out] at hz
            cases hz
            exact NE.out), BB2⟩
        case measure => simp [intOf]; omega
      · have GT := Lib.hid (GI.out true (List.any_eq_true.2 ⟨x.n, List.mem_of_getElem? HLX.out, hq⟩))
        clear hq
        go_wp2_with fail
        go_ret
        exact ⟨by rw [GT.out] <;> rfl, B1.out.trans (BB2.out.mono B1.out.size)⟩
    · have t0 : decide ((k : Int) < (nn : Int)) = false := by simp; omega
      have GF := Lib.hid (GI.out false (by
        rw [List.any_eq_false]
        intro y hy
        obtain ⟨i, hi⟩ := List.getElem?_of_mem hy
        rw [HA.out i y (by have := (List.getElem?_eq_some_iff.1 hi).1; rw [HLN.out] at this; omega) hi]
        decide))
      go_wp2_with fail
      go_ret
      exact ⟨by rw [GF.out] <;> rfl, B1.out.trans (BB.out.mono B1.out.size)⟩
theorem formed_kinds {f : FrV} {x : NoteV} (h : formedB f x = true) : 1 ≤ x.kind ∧ x.kind ≤ 6 := by
  unfold formedB at h
  rw [Bool.and_eq_true] at h
  have h := h.1
  have hs : saidB f x.kind x = true := by
    unfold okB at h
    split at h
    · rw [Bool.and_eq_true] at h; exact h.1
    · split at h
      · rw [Bool.and_eq_true] at h; exact h.1
      · exact h
  unfold saidB at hs
  grind
set_option maxHeartbeats 4000000 in
set_option maxRecDepth 100000 in
theorem risSet_any (f : FrV) (a : Option Addr) (n c : Nat) (l : List NoteV) (w : World) (hr : RdNs w a n c l) :
    Calls Tryz.prog 73 #[f.val, .slice a n c] w fun e w' => e = .returned (.bool ((checkSetP f l).1 == 0)) ∧ Below w.heap.size w w' := by
  have CS := Lib.hid (fun W hb => rcheckSet_any f a n c l W (hr.below (show Below w.heap.size w W from hb)))
  have hvl : f.val = .agg #[.int .i64 f.rings, .int .i64 f.sectors, .int .i64 f.wide] := rfl
  rw [hvl] at CS ⊢
  clear hvl hr
  have B0 := Lib.hid ((Below.refl w.heap.size w).alloc (Nat.le_refl _) (.cells #[.int .i64 f.rings, .int .i64 f.sectors, .int .i64 f.wide] 23))
  have F0 := Lib.hid (heap_last w (.cells #[.int .i64 f.rings, .int .i64 f.sectors, .int .i64 f.wide] 23))
  go_enter Tryz.func73, Tryz.ntmps73
  go_upto_region 1 with fail
  obtain ⟨pF, hpF⟩ : ∃ p, Hid (w.heap.size = p) := ⟨_, Lib.hid rfl⟩
  rw [hpF.out] at F0 ⊢
  generalize w.alloc (.cells #[.int .i64 f.rings, .int .i64 f.sectors, .int .i64 f.wide] 23) = W0 at *
  have c0 := cell_of F0.out 0 (.int .i64 f.rings) rfl
  have c1 := cell_of F0.out 1 (.int .i64 f.sectors) rfl
  have c2 := cell_of F0.out 2 (.int .i64 f.wide) rfl
  go_wp2_with fail
  refine (CS.out W0 B0.out).mono ?_
  clear c0 c1 c2
  rintro e W1 ⟨rfl, b1⟩
  have B1 := Lib.hid (B0.out.trans (b1.mono B0.out.size))
  clear b1
  go_wp2_with fail
  go_ret
  exact ⟨rfl, B1.out⟩
def effV (f : FrV) (l : List NoteV) : List NoteV := if (checkSetP f l).1 = 0 then eventsP l else []
def EffOut (f : FrV) (l : List NoteV) (e : Ending) (W : World) : Prop :=
  ∃ (oa : Option Addr) (on oc : Nat) (es : List EvV), e = .returned (.tuple #[.slice oa on oc, .int .i64 (errV f l)]) ∧ RdEs W oa on oc es ∧ (∀ e ∈ es, e.x.ok W) ∧ es.map evC = (effV f l).map evP
theorem eff_out {f : FrV} {l : List NoteV} {w w' : World} {e : Ending} (h : EffAny f l w e w') : EffOut f l e w' := by
  rcases h with ⟨h0, rfl⟩ | ⟨h0, a', c', es, rfl, h1, h2, h3, h4⟩
  · exact ⟨none, 0, 0, [], by rw [errV, if_neg h0], ⟨rfl, Nat.le_refl _, Nat.zero_le _, .inl rfl⟩, fun e he => by simp at he, by rw [effV, if_neg h0]; rfl⟩
  · exact ⟨a', es.length, c', es, by rw [errV, if_pos h0], h1, h2, by rw [effV, if_pos h0]; exact evC_notes h3 h4⟩
set_option maxHeartbeats 4000000 in
set_option maxRecDepth 100000 in
theorem reffective_any (f : FrV) (a : Option Addr) (n c : Nat) (l : List NoteV) (w : World) (hr : RdNs w a n c l) :
    Calls Tryz.prog 30 #[f.val, .slice a n c] w fun e w' => EffOut f l e w' ∧ Below w.heap.size w w' := by
  have IS := Lib.hid (fun W hb => risSet_any f a n c l W (hr.below (show Below w.heap.size w W from hb)))
  have RN := Lib.hid hr
  have hvl : f.val = .agg #[.int .i64 f.rings, .int .i64 f.sectors, .int .i64 f.wide] := rfl
  rw [hvl] at IS ⊢
  clear hvl hr
  have B0 := Lib.hid ((Below.refl w.heap.size w).alloc (Nat.le_refl _) (.cells #[.int .i64 f.rings, .int .i64 f.sectors, .int .i64 f.wide] 23))
  have F0 := Lib.hid (heap_last w (.cells #[.int .i64 f.rings, .int .i64 f.sectors, .int .i64 f.wide] 23))
  go_enter Tryz.func30, Tryz.ntmps30
  go_upto_region 1 with fail
  obtain ⟨pF, hpF⟩ : ∃ p, Hid (w.heap.size = p) := ⟨_, Lib.hid rfl⟩
  rw [hpF.out] at F0 ⊢
  generalize w.alloc (.cells #[.int .i64 f.rings, .int .i64 f.sectors, .int .i64 f.wide] 23) = W0 at *
  have c0 := cell_of F0.out 0 (.int .i64 f.rings) rfl
  have c1 := cell_of F0.out 1 (.int .i64 f.sectors) rfl
  have c2 := cell_of F0.out 2 (.int .i64 f.wide) rfl
  go_wp2_with fail
  refine (IS.out W0 B0.out).mono ?_
  clear c0 c1 c2
  rintro e W1 ⟨rfl, b1⟩
  have B1 := Lib.hid (B0.out.trans (b1.mono B0.out.size))
  clear b1
  by_cases hs : (checkSetP f l).1 = 0
  · have t0 : ((checkSetP f l).1 == 0) = true := by simp [hs]
    rw [t0]
    have HS := Lib.hid hs
    clear hs t0
    go_wp2_with fail
    refine (revents_any l a n c W1 (RN.out.below B1.out) (fun x hx => formed_kinds ((set_ok HS.out).2.2.1 x hx)) (fun x hx => Nat.le_trans (formed_len (set_ok HS.out).1 ((set_ok HS.out).2.2.1 x hx)) (by decide)) (by have := (set_ok HS.out).2.1; rw [RN.out.1] at this; omega)).mono ?_
    rintro e W2 ⟨⟨oa, on, oc, es, rfl, h1⟩, b2⟩
    have H1 := Lib.hid h1
    have B2 := Lib.hid (B1.out.trans (b2.mono B1.out.size))
    clear h1 b2
    go_wp2_with fail
    go_returns
    exact ⟨⟨oa, on, oc, es, by rw [errV, if_pos HS.out] <;> rfl, RdEs.of_rd H1.out.rd, H1.out.ok, by rw [effV, if_pos HS.out]; exact evC_notes (H1.out.ev.trans (evTo_all l)) H1.out.nm⟩, B2.out⟩
  · have t0 : ((checkSetP f l).1 == 0) = false := by simp [hs]
    rw [t0]
    have HS := Lib.hid hs
    clear hs t0
    go_wp2_with fail
    go_returns
    exact ⟨⟨none, 0, 0, [], by rw [errV, if_neg HS.out] <;> rfl, ⟨rfl, Nat.le_refl _, Nat.zero_le _, .inl rfl⟩, fun e he => by simp at he, by rw [effV, if_neg HS.out]; rfl⟩, B1.out⟩
end Go.Proofs.YtpjiakgfegnmcaaGreat
