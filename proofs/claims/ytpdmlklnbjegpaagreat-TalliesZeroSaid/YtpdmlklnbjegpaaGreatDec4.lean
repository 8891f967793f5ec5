/- The program's note. -/
import Derived.Test.YtpdmlklnbjegpaaGreatDec3
import Derived.Deep.RegionLaw
import Derived.RegionTactic
namespace Go.Proofs.YtpdmlklnbjegpaaGreat
open Go.RowKit
theorem same_imp {W W' : World} {S S' : Nat → Prop} (h : Same S W W') (hi : ∀ k, S k → S' k) : Same S' W W' :=
  ⟨h.os, h.tape, h.output, h.size, fun k hk hs => h.block k hk (fun e => hs (hi k e))⟩
theorem noteA_noByte (m : NoteV) (sa : Option Addr) (sc : Nat) : ∀ v ∈ noteA m sa sc, ∀ x, v ≠ byteV x := by
  intro v hv x
  simp only [noteA, NoteV.cells, List.mem_toArray, List.mem_cons, List.not_mem_nil, or_false] at hv
  rcases hv with rfl | rfl | rfl | rfl | rfl | rfl | rfl | rfl | rfl | rfl | rfl | rfl | rfl | rfl | rfl | rfl | rfl | rfl | rfl <;> (intro h; cases h)
theorem decP_len : ∀ (l : List UInt8) (i u v : Nat) (t : List UInt8), decP i u l = some (v, t) → t.length ≤ l.length
  | [], i, u, v, t, h => by simp [decP] at h
  | c :: l, i, u, v, t, h => by
    rw [decP] at h
    split at h
    · cases h
    · split at h
      · simp only [Option.some.injEq, Prod.mk.injEq] at h
        rw [← h.2, List.length_cons]; omega
      · have := decP_len l _ _ v t h
        rw [List.length_cons]; omega
theorem numP_len {l t : List UInt8} {z : Int} (h : numP l = some (z, t)) : t.length ≤ l.length := by
  unfold numP at h
  split at h
  · rename_i e
    simp only [Option.some.injEq, Prod.mk.injEq] at h
    rw [← h.2]
    exact decP_len _ _ _ _ _ e
  · cases h
theorem manyP_len {l : List UInt8} : ∀ (k : Nat) {t : List UInt8} {xs : List Int}, many numP k l = some (xs, t) → t.length ≤ l.length
  | 0, t, xs, h => by simp only [many, Option.some.injEq, Prod.mk.injEq] at h; rw [h.2]; exact Nat.le_refl _
  | k + 1, t, xs, h => by
    rw [many] at h
    split at h
    · rename_i e
      split at h
      · rename_i e2
        simp only [Option.some.injEq, Prod.mk.injEq] at h
        rw [← h.2]
        exact Nat.le_trans (numP_len e2) (manyP_len k e)
      · cases h
    · cases h
theorem lenP_len {l t : List UInt8} {k : Nat} (h : lenF numP l = some (k, t)) : t.length ≤ l.length := by
  unfold lenF at h
  split at h
  · rename_i e
    split at h
    · simp only [Option.some.injEq, Prod.mk.injEq] at h
      rw [← h.2]
      exact numP_len e
    · cases h
  · cases h
/-- While a note is read: the block of the note, the reader, and what has turned since wf. -/
structure NInv (wf W : World) (rp nb B : Nat) (m : NoteV) (sa : Option Addr) (sc : Nat) (t : List UInt8) (a : Option Addr) (n c : Nat) : Prop where
  e : W.heap[nb]? = some (.cells (noteA m sa sc) 47 (0, 0))
  r : RdP W rp t a n c
  s : Same (fun k => k = rp ∨ k = nb ∨ B ≤ k) wf W
  o : RdB wf a n c t
section
variable {wf W W' : World} {rp nb B : Nat} {m : NoteV} {sa : Option Addr} {sc : Nat} {t : List UInt8} {a : Option Addr} {n c : Nat}
theorem NInv.number (h : NInv wf W rp nb B m sa sc t a n c) {t' : List UInt8} {a2 : Option Addr} {n2 c2 : Nat} (hr : RdP W' rp t' a2 n2 c2) (hs : Same (fun k => k = rp) W W') (hq : ∀ W, RdB W a n c t → RdB W a2 n2 c2 t') (hne : ¬ nb = rp) : NInv wf W' rp nb B m sa sc t' a2 n2 c2 :=
  ⟨(hs.block _ (Array.getElem?_eq_some_iff.1 h.e).1 hne).trans h.e, hr, h.s.trans (same_imp hs fun k e => .inl e), hq wf h.o⟩
theorem NInv.set (h : NInv wf W rp nb B m sa sc t a n c) (j : Nat) (v : Value) {m' : NoteV} {sa' : Option Addr} {sc' : Nat} (hv : (noteA m sa sc).setIfInBounds j v = noteA m' sa' sc') (hne : ¬ rp = nb) : NInv wf (W.setCell ⟨nb, j, none⟩ v) rp nb B m' sa' sc' t a n c :=
  ⟨by rw [← hv]; exact heap_setCell_same W nb j _ _ v h.e, h.r.same (same_at W nb j v) hne (fun h0 b off e => rd_not h.e (noteA_noByte m sa sc) h.r.r h0 b off e), h.s.trans (same_imp (same_at W nb j v) fun k e => .inr (.inl e)), h.o⟩
theorem NInv.below (h : NInv wf W rp nb B m sa sc t a n c) (hb : Below W.heap.size W W') : NInv wf W' rp nb B m sa sc t a n c :=
  ⟨(hb.block _ (Array.getElem?_eq_some_iff.1 h.e).1).trans h.e, h.r.same (S := fun _ => False) (Same.of_below hb) id (fun _ _ _ _ => id), h.s.trans (Same.of_below hb), h.o⟩
theorem NInv.grown (h : NInv wf W rp nb B m sa sc t a n c) {v : Value} {q k : Nat} {xs : List Value} {e : TypeId} (hg : W.grownBy W' v.ownBlock) (ho : W.ownsRow B e k v q xs) (hB : wf.heap.size = B) (hnb : nb < B) (hrp : rp < B) : NInv wf W' rp nb B m sa sc t a n c := by
  have hlt := fun b hb => (ho.lt b hb).1
  have hs : Same (fun k => v.ownBlock = some k) W W' := Same.of_grown hg (fun k e => e)
  have h1 : ¬ v.ownBlock = some nb := fun e => by have := hlt _ e; omega
  have h2 : ¬ v.ownBlock = some rp := fun e => by have := hlt _ e; omega
  refine ⟨(hs.block _ (Array.getElem?_eq_some_iff.1 h.e).1 h1).trans h.e, h.r.same hs h2 (fun h0 b off e hb => ?_), h.s.trans (same_imp hs fun k e => .inr (.inr (hlt k e))), h.o⟩
  have h3 := rd_lt h.o h0 (by omega) b off e
  have h4 := hlt b hb
  omega
end
theorem infoInt : (Tryz.prog.info? 3).map (fun i => (i.zero, i.size, i.bytes)) = some (some (.int .i64 0), 1, 8) := by kernel_rfl
/-- An append of ints at a step of a drawn region. -/
theorem step_app_ints {w : World} {ops : Array Oper} {o : Oper} {a : Act} {K : Act → World → Prop} {Q : Exit → Act → World → Prop} {E : Prop} (hgd : o.guard = none) (s x : Operand)
    (ho : o.op = .call { callee := .builtin .append, args := #[s, x], argTypes := #[37, 37] }) (base : Nat)
    (sa : Option Addr) (sn sc : Nat) (xs : List Int) (hs : a.eval s = .slice sa sn sc) (hown : w.ownsRow base 3 1 (.slice sa sn sc) sn (xs.map intV))
    (xa : Option Addr) (m xc : Nat) (ys : List Int) (hx : a.eval x = .slice xa m xc) (hrd : RdI w xa m xc ys) (hbytes : (sn + m) * 8 ≤ 140737488355328) (hbase : base ≤ w.heap.size)
    (h : ∀ a' c' w', w'.ownsRow base 3 1 (.slice a' (sn + m) c') (sn + m) ((xs ++ ys).map intV) → w.grownBy w' (Value.ownBlock (.slice sa sn sc)) → K (a.put o.dst (.slice a' (sn + m) c')) w') :
    if Region.wanted o (yielded ops a.tmps) = true then Oper.wp Tryz.prog o a w K Q else E := by
  have hw : Region.wanted o (yielded ops a.tmps) = true := by simp [Region.wanted, hgd]
  rw [if_pos hw]
  obtain ⟨i, hi, hz0, hz1, hz2⟩ := info_parts infoInt
  obtain ⟨a', c', w', hr, h2, h3⟩ := run_append_rd (P := Tryz.prog) w base 37 o.type 3 i (.int .i64 0) 1 8 Tryz.underlying37 hi hz0 hz1 hz2 rfl (by decide) sa sn sc _ hown xa m xc _ hrd (intV_one _) (by unfold maxLen; omega) (by omega) hbase
  unfold Oper.wp
  simp [execOp, ho, resolve, invoke, builtin, hs, hx, hr, Result.andThen]
  exact h a' c' w' (by rw [List.map_append]; exact h2) h3
theorem number_some (rp : Nat) (l t : List UInt8) (z : Int) (a : Option Addr) (n c : Nat) (w : World) (h : RdP w rp l a n c) (hn : numP l = some (z, t)) :
    Calls Tryz.prog 124 #[.pointer (some ⟨rp, 0, none⟩)] w fun e w' => ∃ a2 n2 c2, e = .returned (.int .i64 z) ∧ RdP w' rp t a2 n2 c2 ∧ Same (fun k => k = rp) w w' ∧ (∀ W, RdB W a n c l → RdB W a2 n2 c2 t) := by
  refine (number_any rp l a n c w h).mono ?_
  rintro e w1 (⟨z', t', a2, n2, c2, h1, rfl, h2, h3⟩ | ⟨h1, rfl, h3⟩)
  · rw [hn] at h1
    cases h1
    exact ⟨a2, n2, c2, rfl, h2, h3⟩
  · rw [hn] at h1; cases h1
theorem number_none (rp : Nat) (l : List UInt8) (a : Option Addr) (n c : Nat) (w : World) (h : RdP w rp l a n c) (hn : numP l = none) :
    Calls Tryz.prog 124 #[.pointer (some ⟨rp, 0, none⟩)] w fun e w' => e = .panicked [tornP] ∧ Same (fun k => k = rp) w w' := by
  refine (number_any rp l a n c w h).mono ?_
  rintro e w1 (⟨z', t', a2, n2, c2, h1, rfl, h2, h3⟩ | ⟨h1, rfl, h3⟩)
  · rw [hn] at h1; cases h1
  · exact ⟨rfl, h3⟩
section
attribute [local go_sem] noteA_0 noteA_1 noteA_2 noteA_3 noteA_4 noteA_5 noteA_6 noteA_7 noteA_8 noteA_9 noteA_10 noteA_11 noteA_12 noteA_13 noteA_14 noteA_15 noteA_16 noteA_17 noteA_18
set_option maxHeartbeats 8000000 in
set_option maxRecDepth 100000 in
theorem note_any (rp : Nat) (l : List UInt8) (a : Option Addr) (n c : Nat) (w : World) (h : RdP w rp l a n c) (hl : l.length ≤ 1000000) :
    Calls Tryz.prog 83 #[.pointer (some ⟨rp, 0, none⟩)] w fun e w' => (∃ (m : NoteV) (t : List UInt8) (sa : Option Addr) (sc : Nat) (a2 : Option Addr) (n2 c2 : Nat), noteF numP l = some (m, t) ∧ e = .returned (.agg (noteA m sa sc)) ∧ w'.ownsRow w.heap.size 3 1 (.slice sa m.strokes.length sc) m.strokes.length (m.strokes.map intV) ∧ RdP w' rp t a2 n2 c2 ∧ Same (fun k => k = rp) w w') ∨
      (noteF numP l = none ∧ e = .panicked [tornP] ∧ Same (fun k => k = rp) w w') := by
  have I43 := Lib.hid (show ∀ (m : NoteV) (a : Option Addr) (c : Nat), (Tryz.prog.info? 47).map (·.size) = some (noteA m a c).size from fun m a c => by kernel_rfl)
  have hrp : rp < w.heap.size := (Array.getElem?_eq_some_iff.1 h.e).1
  have hlast : (w.alloc (.cells (noteA zeroN none 0) 47)).heap[w.heap.size]? = some (.cells (noteA (mkN [] [] []) none 0) 47 (0, 0)) := heap_last w (.cells (noteA zeroN none 0) 47)
  have bb : Below w.heap.size w (w.alloc (.cells (noteA zeroN none 0) 47)) := (Below.refl _ _).alloc (Nat.le_refl _) _
  have hz0 : w.heap.size < (w.alloc (.cells (noteA zeroN none 0) 47)).heap.size := by simp
  obtain ⟨nb, hnb⟩ : ∃ nb, Hid (w.heap.size = nb) := ⟨_, Lib.hid rfl⟩
  rw [hnb.out] at hrp hlast hz0
  have HRP := Lib.hid hrp; clear hrp
  have HH := Lib.hid h; clear h
  have H0 := Lib.hid (And.intro hlast (And.intro bb hz0)); clear hlast bb hz0
  have HL := Lib.hid hl; clear hl
  go_enter Tryz.func83, Tryz.ntmps83
  go_wp2_with fail
  rw [← noteA_zero, hnb.out]
  generalize w.alloc (.cells (noteA zeroN none 0) 47) = w0 at *
  refine (fields_any nb w0).mono ?_
  rintro e wf ⟨rfl, g1, g2, b1⟩
  have HW : Hid (Below w.heap.size w wf) := Lib.hid (H0.out.2.1.trans (b1.mono (by rw [hnb.out]; exact Nat.le_of_lt H0.out.2.2)))
  have hn1 := (b1.block _ H0.out.2.2).trans H0.out.1
  obtain ⟨P, hP⟩ : ∃ P, Hid (w0.heap.size = P) := ⟨_, Lib.hid rfl⟩
  obtain ⟨Q, hQ⟩ : ∃ Q, Hid (w0.heap.size + 1 = Q) := ⟨_, Lib.hid rfl⟩
  obtain ⟨B, hB⟩ : ∃ B, Hid (wf.heap.size = B) := ⟨_, Lib.hid rfl⟩
  rw [hQ.out, hP.out]
  rw [hP.out] at g1
  rw [hQ.out] at g2
  have hPn : nb < P := by rw [← hP.out]; exact H0.out.2.2
  have hQn : nb < Q := by rw [← hQ.out]; exact Nat.lt_succ_of_lt H0.out.2.2
  have hPB : P < B := by rw [← hB.out]; exact (Array.getElem?_eq_some_iff.1 g1).1
  have hQB : Q < B := by rw [← hB.out]; exact (Array.getElem?_eq_some_iff.1 g2).1
  have LP := Lib.hid (And.intro hPn (And.intro hPB g1)); clear hPn hPB g1
  have LQ := Lib.hid (And.intro hQn (And.intro hQB g2)); clear hQn hQB g2
  have LB : Hid (nb < B ∧ rp < B) := Lib.hid ⟨Nat.lt_trans LP.out.1 LP.out.2.1, Nat.lt_trans HRP.out (Nat.lt_trans LP.out.1 LP.out.2.1)⟩
  have hI : NInv wf wf rp nb B (mkN [] [] []) none 0 l a n c := ⟨hn1, HH.out.same (S := fun _ => False) (Same.of_below HW.out) id (fun _ _ _ _ => id), ⟨rfl, rfl, rfl, Nat.le_refl _, fun _ _ _ => rfl⟩, RdB.below HH.out.r HW.out⟩
  have HI := Lib.hid hI; clear hI hn1 H0 b1 HH
  have FR : Hid (∀ W, Same (fun k => k = rp ∨ k = nb ∨ B ≤ k) wf W → Same (fun k => k = rp) w W) := Lib.hid fun W hS =>
    ⟨hS.os.trans HW.out.os, hS.tape.trans HW.out.tape, hS.output.trans HW.out.output, Nat.le_trans HW.out.size hS.size, fun k hk hr => by
      have hkn : k < nb := by rw [← hnb.out]; exact hk
      have := LB.out.1
      exact (hS.block k (Nat.lt_of_lt_of_le hk HW.out.size) (by omega)).trans (HW.out.block k hk)⟩
  have NR : Hid (¬ nb = rp ∧ ¬ rp = nb) := Lib.hid (by have := HRP.out; omega)
  go_wp2_with fail
  go_loopw [6, 15] (fun _ i wr => ∃ (k : Nat) (xs : List Int) (t : List UInt8) (a : Option Addr) (n c : Nat), i = .int .i64 k ∧ k ≤ 15 ∧ Hid (many numP k l = some (xs, t)) ∧ Hid (NInv wf wr rp nb B (mkN xs [] []) none 0 t a n c)) (fun _ i _ => 15 - (intOf i).toNat)
  case atStart => exact ⟨0, [], l, a, n, c, rfl, by omega, Lib.hid rfl, HI⟩
  case round =>
    obtain ⟨k, xs, t, a, n, c, rfl, hk, HM, HN⟩ := hrel
    by_cases hlt : k < 15
    · have hxl := many_len _ _ _ _ HM.out
      have e1 : wr.cell? ⟨P, k, none⟩ = some (.pointer (some ⟨nb, k, none⟩)) := cell_of ((HN.out.s.block P (by rw [hB.out]; exact LP.out.2.1) (by have h1 := LP.out.1; have h2 := LP.out.2.1; have h3 := HRP.out; omega)).trans LP.out.2.2) _ _ (aheadP_cell nb k hlt)
      have hz63 : (k : Int) ≤ 9223372036854775807 := by omega
      have HXL := Lib.hid hxl; clear hxl
      go_wp2_with fail
      refine (number_any rp t a n c wr HN.out.r).mono ?_
      rintro e w1 (⟨z, t', a2, n2, c2, h1, rfl, h2, h3⟩ | ⟨h1, rfl, h3⟩)
      · have HN1 := Lib.hid (HN.out.number h2 h3.1 h3.2 NR.out.1)
        have H1 := Lib.hid (many_succ HM.out h1)
        clear h1 h2 h3 e1
        have e2 : w1.cell? ⟨nb, k, none⟩ = some (.int .i64 ((aheadN (mkN xs [] []))[k]?.getD 0)) := cell_of HN1.out.e _ _ (ahead_cell (mkN xs [] []) none 0 k hlt)
        have f2 := frozen_of HN1.out.e k
        generalize (aheadN (mkN xs [] []))[k]?.getD 0 = y at *
        have HN2 := Lib.hid (HN1.out.set k (.int .i64 z) (by rw [← HXL.out]; exact set_ahead xs z (by rw [HXL.out]; exact hlt)) NR.out.2)
        go_wp2_with fail
        go_roundw
        case rel => exact ⟨k + 1, xs ++ [z], t', a2, n2, c2, by go_num, by omega, H1, HN2⟩
        case measure => simp [intOf]; omega
      · have HF := Lib.hid (noteF_1 (many_fail HM.out h1 15 hlt))
        have HS := Lib.hid (FR.out _ (HN.out.s.trans (same_imp h3 fun k e => .inl e)))
        clear h1 h3 e1
        go_wp2_with fail
        exact ⟨rfl, .inr ⟨HF.out, rfl, HS.out⟩⟩
    · have hkn : k = 15 := by omega
      subst hkn
      go_wp2_with fail
      refine (length_any rp t a n c wr HN.out.r).mono ?_
      rintro e w1 (⟨cnt, t1, a2, n2, c2, h1, hcnt, rfl, h2, h3⟩ | ⟨h1, rfl, h3⟩)
      · have HN1 := Lib.hid (HN.out.number h2 h3.1 h3.2 NR.out.1)
        have hc2 : cnt ≤ 1000000 := Nat.le_trans hcnt (Nat.le_trans (lenP_len h1) (Nat.le_trans (manyP_len _ HM.out) HL.out))
        have H1 := Lib.hid h1
        clear h1 h2 h3 hcnt
        go_wp2_with fail
        go_loopw [26] (fun i wr => ∃ (k : Nat) (ys : List Int) (t : List UInt8) (a : Option Addr) (n c : Nat) (sa : Option Addr) (sc : Nat), i = .int .i64 k ∧ k ≤ cnt ∧ Hid (many numP k t1 = some (ys, t)) ∧ Hid (NInv wf wr rp nb B (mkN xs ys []) sa sc t a n c) ∧ Hid (wr.ownsRow B 3 1 (.slice sa k sc) k (ys.map intV))) (fun i _ => cnt - (intOf i).toNat)
        case atStart => exact ⟨0, [], t1, a2, n2, c2, none, 0, rfl, Nat.zero_le _, Lib.hid rfl, HN1, Lib.hid (World.ownsRow_nil _ _ _ _)⟩
        case round =>
          obtain ⟨k, ys, t, a, n, c, sa, sc, rfl, hk, HM2, HN2, HO⟩ := hrel
          by_cases hlt : k < cnt
          · cases hnum : numP t with
            | none =>
              go_wp2_with fail
              have hyl : ys.length = k := many_len _ _ _ _ HM2.out
              have HND := Lib.hid (HN2.out.below (Below.refl wr.heap.size wr).drew)
              have e15 : wr.drew.cell? ⟨nb, 15, none⟩ = some (.slice sa k sc) := cell_of HND.out.e 15 _ (by rw [← hyl]; rfl)
              have HF := Lib.hid (show noteF numP l = none by rw [noteF_3 HM.out H1.out, many_fail HM2.out hnum cnt hlt])
              refine wp_region_any (by kernel_rfl) ?_
              change wpAny _ _ _ _ _ _ _ (World.drew _)
              refine wpAny_take (i := 0) (v := ?_) rfl (by kernel_rfl) (by kernel_rfl) (by kernel_rfl) (fun _ _ _ h => h) (Or.inl ⟨by rfl, ?_⟩) ?_
              rotate_left
              · intro w; go_simp
                first | done | with_reducible rfl
              refine wpAny_take (i := 2) (v := ?_) rfl (by kernel_rfl) (by kernel_rfl) (by kernel_rfl) (fun _ _ _ h => h) (Or.inl ⟨by rfl, ?_⟩) ?_
              rotate_left
              · intro w; go_simp
                first | done | with_reducible rfl
              refine wpAny_ready (rs := [1, 3]) (by kernel_rfl) (by simp) ?_
              refine AllReady.cons rfl (fun K hK => ?_) ?_
              · go_simp
                refine hK _ _ ?_
                clear hK K
                refine wpAny_ready (rs := [3]) (by kernel_rfl) (by simp) ?_
                refine AllReady.cons rfl (fun K hK => ?_) AllReady.nil
                go_simp
                go_at_call 124
                refine (number_none rp t a n c _ HND.out.r hnum).mono ?_
                rintro e w1 ⟨rfl, h3⟩
                exact ⟨rfl, .inr ⟨HF.out, rfl, FR.out _ (HND.out.s.trans (same_imp h3 fun k e => .inl e))⟩⟩
              refine AllReady.cons rfl (fun K hK => ?_) AllReady.nil
              go_simp
              go_at_call 124
              refine (number_none rp t a n c _ HND.out.r hnum).mono ?_
              rintro e w1 ⟨rfl, h3⟩
              exact ⟨rfl, .inr ⟨HF.out, rfl, FR.out _ (HND.out.s.trans (same_imp h3 fun k e => .inl e))⟩⟩
            | some p =>
              obtain ⟨z, t'⟩ := p
              go_wp2_with fail
              have hyl : ys.length = k := many_len _ _ _ _ HM2.out
              have HYL := Lib.hid hyl; clear hyl
              have HND := Lib.hid (HN2.out.below (Below.refl wr.heap.size wr).drew)
              have OD := Lib.hid (own_below HO.out (Below.refl wr.heap.size wr).drew)
              have e15 : wr.drew.cell? ⟨nb, 15, none⟩ = some (.slice sa k sc) := cell_of HND.out.e 15 _ (by rw [← HYL.out]; rfl)
              go_region_law (first
                | (refine step_app_ints rfl _ _ rfl B _ _ _ ys rfl O3.out _ _ _ [z] rfl (one_rd w1 z) (by omega) hBs ?_; intro sa' sc' w3 h5 h6; have HN4 := Lib.hid ((HN3.out.below ((Below.refl w1.heap.size w1).alloc (Nat.le_refl _) (.cells #[.int .i64 z] 3))).grown h6 O3.out hB.out LB.out.1 LB.out.2); have e18 : w3.cell? ⟨nb, 15, none⟩ = some (.slice sa k sc) := cell_of HN4.out.e 15 _ (by rw [← HYL.out]; try rfl); have f18 := frozen_of HN4.out.e 15; have H5 := Lib.hid h5; clear h5 h6)
                | (go_simp; go_at_call 124; refine (number_some rp t t' z a n c _ HND.out.r hnum).mono ?_; rintro e w1 ⟨a3, n3, c3, rfl, h2, h3⟩; have HN3 := Lib.hid (HND.out.number h2 h3.1 h3.2 NR.out.1); have e16 : w1.cell? ⟨nb, 15, none⟩ = some (.slice sa k sc) := cell_of HN3.out.e 15 _ (by rw [← HYL.out]; try rfl); have e17 : ∀ o, (w1.alloc o).cell? ⟨nb, 15, none⟩ = some (.slice sa k sc) := fun o => cell_of (heap_before w1 o _ _ HN3.out.e) 15 _ (by rw [← HYL.out]; try rfl); have O3 := Lib.hid (own_below (own_same OD.out h3.1 (fun b cur fr hb => .inr ((show b = rp from hb).symm ▸ LB.out.2))) ((Below.refl w1.heap.size w1).alloc (Nat.le_refl _) (.cells #[.int .i64 z] 3))); have hBs : B ≤ (w1.alloc (.cells #[.int .i64 z] 3)).heap.size := Nat.le_trans (Nat.le_of_eq hB.out.symm) (Nat.le_trans HN3.out.s.size (by simp)); clear h2 h3))
              all_goals
                have HN5 := Lib.hid (HN4.out.set 15 (.slice sa' (k + 1) sc') (set_strokes xs ys (ys ++ [z]) sa sa' sc sc' (k + 1) (by simp [HYL.out])) NR.out.2)
                have HO5 := Lib.hid (own_same H5.out (same_at w3 nb 15 (.slice sa' (k + 1) sc')) (fun b cur fr hb => .inr ((show b = nb from hb).symm ▸ LB.out.1)))
                clear e15 e16 e17 e18 f18
                go_wp2_with fail
                go_roundw
                case rel => exact ⟨k + 1, ys ++ [z], t', a3, n3, c3, sa', sc', by go_num, by omega, Lib.hid (many_succ HM2.out hnum), HN5, HO5⟩
                case measure => simp [intOf]; omega
          · have hkn : k = cnt := by omega
            subst hkn
            have HF3 := Lib.hid (noteF_3 HM.out H1.out)
            go_wp2_with fail
            go_loopw [8, 38] (fun _ i wr => ∃ (j : Nat) (zs : List Int) (t' : List UInt8) (a : Option Addr) (n c : Nat), i = .int .i64 j ∧ j ≤ 3 ∧ Hid (many numP j t = some (zs, t')) ∧ Hid (NInv wf wr rp nb B (mkN xs ys zs) sa sc t' a n c) ∧ Hid (wr.ownsRow B 3 1 (.slice sa k sc) k (ys.map intV))) (fun _ i _ => 3 - (intOf i).toNat)
            case atStart => exact ⟨0, [], t, a, n, c, rfl, by omega, Lib.hid rfl, HN2, HO⟩
            case round =>
              obtain ⟨j, zs, t', a, n, c, rfl, hj, HM3, HN3, HO3⟩ := hrel
              by_cases hlt : j < 3
              · have hxl := many_len _ _ _ _ HM3.out
                have e1 : wr.cell? ⟨Q, j, none⟩ = some (.pointer (some ⟨nb, 16 + j, none⟩)) := cell_of ((HN3.out.s.block Q (by rw [hB.out]; exact LQ.out.2.1) (by have h1 := LQ.out.1; have h2 := LQ.out.2.1; have h3 := HRP.out; omega)).trans LQ.out.2.2) _ _ (behindP_cell nb j hlt)
                have hz63 : (j : Int) ≤ 9223372036854775807 := by omega
                have HXL := Lib.hid hxl; clear hxl
                go_wp2_with fail
                refine (number_any rp t' a n c wr HN3.out.r).mono ?_
                rintro e w1 (⟨z, t2, a2, n2, c2, h1, rfl, h2, h3⟩ | ⟨h1, rfl, h3⟩)
                · have HN4 := Lib.hid (HN3.out.number h2 h3.1 h3.2 NR.out.1)
                  have HO4 := Lib.hid (own_same HO3.out h3.1 (fun b cur fr hb => .inr ((show b = rp from hb).symm ▸ LB.out.2)))
                  have H1' := Lib.hid (many_succ HM3.out h1)
                  clear h1 h2 h3 e1
                  have e2 : w1.cell? ⟨nb, 16 + j, none⟩ = some (.int .i64 ((behindN (mkN xs ys zs))[j]?.getD 0)) := cell_of HN4.out.e _ _ (behind_cell (mkN xs ys zs) sa sc j hlt)
                  have f2 := frozen_of HN4.out.e (16 + j)
                  generalize (behindN (mkN xs ys zs))[j]?.getD 0 = y at *
                  have HN5 := Lib.hid (HN4.out.set (16 + j) (.int .i64 z) (by rw [← HXL.out]; exact set_behind xs ys sa sc zs z (by rw [HXL.out]; exact hlt)) NR.out.2)
                  have HO5 := Lib.hid (own_same HO4.out (same_at w1 nb (16 + j) (.int .i64 z)) (fun b cur fr hb => .inr ((show b = nb from hb).symm ▸ LB.out.1)))
                  go_wp2_with fail
                  go_roundw
                  case rel => exact ⟨j + 1, zs ++ [z], t2, a2, n2, c2, by go_num, by omega, H1', HN5, HO5⟩
                  case measure => simp [intOf]; omega
                · have HF := Lib.hid (show noteF numP l = none by rw [HF3.out, HM2.out]; simp only; rw [many_fail HM3.out h1 3 hlt])
                  have HS := Lib.hid (FR.out _ (HN3.out.s.trans (same_imp h3 fun k e => .inl e)))
                  clear h1 h3 e1
                  go_wp2_with fail
                  exact ⟨rfl, .inr ⟨HF.out, rfl, HS.out⟩⟩
              · have hjn : j = 3 := by omega
                subst hjn
                have HF := Lib.hid (show noteF numP l = some (mkN xs ys zs, t') by rw [HF3.out, HM2.out]; simp only; rw [HM3.out])
                have hyl : ys.length = k := many_len _ _ _ _ HM2.out
                obtain ⟨N, hN⟩ : ∃ N, Hid (mkN xs ys zs = N) := ⟨_, Lib.hid rfl⟩
                have hNs : N.strokes = ys := by rw [← hN.out]; rfl
                rw [hN.out] at HN3 HF
                have one1 := noteA_one N sa sc
                have HY := Lib.hid (And.intro hNs hyl); clear hyl hNs
                go_wp2_with (first
                  | (refine wpList_load_row rfl 47 _ rfl nb rfl 47 (noteA N sa sc) (0, 0) _ HN3.out.e Tryz.underlying47 rfl (I43.out _ _ _) ?_)
                  | (refine wpList_store_rowN rfl 47 _ _ rfl nb (noteA N sa sc) (noteA N sa sc) 47 rfl rfl HN3.out.e (I43.out _ _ _) rfl one1 ?_))
                refine bodyPost_ret (results_cell_row rfl _ _ nb 47 (noteA N sa sc) (0, 0) _ rfl ?hg Tryz.underlying47 rfl (I43.out _ _ _)) rfl ?_
                case hg => exact setRow_heap wr nb _ _ _ _ HN3.out.e
                have hSR : Same (fun k => k = nb) wr (wr.setRow nb (noteA N sa sc)) := ⟨rfl, rfl, rfl, by simp, fun k hk hs => setRow_other wr nb k _ hs⟩
                have hO := own_same HO3.out hSR (fun b cur fr hb => .inr ((show b = nb from hb).symm ▸ LB.out.1))
                refine .inl ⟨N, t', sa, sc, a, n, c, HF.out, rfl, ?_, ?_, ?_⟩
                · rw [HY.out.1, HY.out.2]; exact own_mono hO (by rw [hnb.out]; exact Nat.le_of_lt LB.out.1)
                · exact HN3.out.r.same hSR NR.out.2 (fun h0 b off e => rd_not HN3.out.e (noteA_noByte N sa sc) HN3.out.r.r h0 b off e)
                · exact FR.out _ (HN3.out.s.trans (same_imp hSR fun k e => .inr (.inl e)))
      · have HF := Lib.hid (noteF_2 HM.out h1)
        have HS := Lib.hid (FR.out _ (HN.out.s.trans (same_imp h3 fun k e => .inl e)))
        clear h1 h3
        go_wp2_with fail
        exact ⟨rfl, .inr ⟨HF.out, rfl, HS.out⟩⟩
end
end Go.Proofs.YtpdmlklnbjegpaaGreat
