/- Parts of the proof, in this order: The program's events: what counts, in the order in which it takes effect; The register in memory; the closures of the program's effects; The table of the program's effects; The plain law of a register, and its state in memory; The closure of a pass among the program's effects; From a walk that knows of no fence to one under the wide fence, in a round or not; a range over a function whose assignments make memory. -/
import Derived.Laws.EntriesVeiled
import Derived.Test.YtlnhppgfhkkidaaGreatKPpw8
set_option linter.unusedSimpArgs false
set_option linter.unusedVariables false
open List renaming getElem_toArray → lq0, getElem_cons_succ → lq1, getElem_cons_zero → lq2, setIfInBounds_toArray → lq3, set_cons_zero → lq4, set_cons_succ → lq5
namespace Go.Proofs.YtlnhppgfhkkidaaGreat
set_option linter.unusedSimpArgs false
open Go.RowKit

theorem whenC_neg (a b : NoteV) : whenC a b < 0 ↔ a.day < b.day ∨ a.day = b.day ∧ (a.clock < b.clock ∨ a.clock = b.clock ∧ (a.house < b.house ∨ a.house = b.house ∧ a.num < b.num)) := by
  rw [whenC, orI_neg, cmpI_neg, cmpI_zero, knownC_neg]
theorem ord_when : Ord whenLt := by
  refine ⟨fun x y h => ?_, fun x y z h1 h2 => ?_⟩
  · simp only [whenLt, decide_eq_true_eq, decide_eq_false_iff_not, whenC_neg] at *
    omega
  · simp only [whenLt, decide_eq_false_iff_not, whenC_neg] at *
    omega
def lnRow (x : LN) : List Value := x.n.cells x.sa x.sc
theorem lnRow_len (x : LN) : (lnRow x).length = 19 := rfl
theorem lnRow_one (x : LN) : ∀ v ∈ lnRow x, v.oneCell' = true := x.n.cells_one x.sa x.sc
theorem when_fn (args : Array Value) (w : World) : (callFunc 222 args).run Tryz.prog w = .ok (.enter 222 args) w := by kernel_rfl
instance : Inhabited LN := ⟨⟨zeroN, none, 0⟩⟩
theorem when_cmp (x y : LN) (w : World) : Calls Tryz.prog 222 #[.agg (lnRow x).toArray, .agg (lnRow y).toArray] w fun e w' => e = .returned (.int .i64 (whenC x.n y.n)) ∧ Gro w.heap.size w w' :=
  when_gro x.n y.n x.sa x.sc y.sa y.sc w
def EvEnd (w : World) (f J : Nm → Option LN) (e : Ending) (w' : World) : Prop :=
  ∃ pL a c es ks, e = .returned (.func (.func 223) #[] #[.pointer (some ⟨pL, 0, none⟩)]) ∧ w'.heap[pL]? = some (.cells #[.slice a es.length c] 24 (0, 0)) ∧
    w'.ownsRow w.heap.size 47 19 (.slice a es.length c) es.length (lnCells es) ∧ EvOwn w' w.heap.size es ∧ ks.Nodup ∧ AllIn f ks ∧ (es.map LN.n).Perm (ks.filterMap (evN f J)) ∧ es.Pairwise (fun x y => whenLt y x = false) ∧ w.heap.size ≤ pL
theorem oper_build_note {op : Oper} {a : Act} {w : World} {K : Act → World → Prop} {Q : Exit → Act → World → Prop} (x : Operand) (ho : op.op = .buildSlice 24 1 #[(0, x)]) (n : NoteV) (sa : Option Addr) (sc : Nat) (hx : a.eval x = .agg (noteA n sa sc))
    (h : K (a.put op.dst (.slice (some ⟨w.heap.size, 0, none⟩) 1 1)) (w.alloc (.cells (noteA n sa sc) 47))) : op.wp Tryz.prog a w K Q := by
  have e := run_build_note w n sa sc
  unfold Oper.wp execOp
  simp [ho, hx, e, Result.andThen]
  exact h
theorem EvAt.note {w W : World} {bS pL r n : Nat} {f J : Nm → Option LN} {kr ks : List Nm} {cnt : Nat} {a : Option Addr} {c : Nat} {es : List LN} (h : EvAt w W bS pL r n f J kr ks cnt a c es) {p5 : Nat} {A B : Array Value}
    (hp : W.heap[p5]? = some (.cells A 47 (0, 0))) (hne : Value.ownBlock (.slice a es.length c) ≠ some p5) (hge : w.heap.size ≤ p5) : EvAt w (W.setRow p5 B) bS pL r n f J kr ks cnt a c es := by
  obtain ⟨es2, clock2, hsb⟩ := h.rng.map.blk
  obtain ⟨bb, since, seen, c0, hr⟩ := h.rng.blk
  have G := setRow_grown W p5 B
  have nr : some r ≠ some p5 := fun e => by rw [Option.some.inj e, hp] at hr; cases hr
  have ns : some bS ≠ some p5 := fun e => by rw [Option.some.inj e, hp] at hsb; cases hsb
  have nl : some pL ≠ some p5 := fun e => by have h1 := h.lst; rw [Option.some.inj e, hp] at h1; cases h1
  exact ⟨h.rng.of_blocks ((grown_blk G hsb ns).trans hsb.symm) ((grown_blk G hr nr).trans hr.symm), h.bel.grown G h.bel.size (fun q hq => by cases hq; exact hge), grown_blk G h.lst nl, h.own.kept G (.inr hne),
    fun x hx => (h.str x hx).kept G (.inr (own_no (h.str x hx) hp (by intro cur; simp)).symm), h.evs, h.pL_ge, h.r_ge⟩
section
attribute [local go_sem] noteA_0 noteA_4
set_option maxHeartbeats 8000000 in
set_option maxRecDepth 100000 in
theorem events_any (pB bS bJ n m : Nat) (va : Option Addr) (vn vc : Nat) (f J : Nm → Option LN) (w : World)
    (hb : benchAt w pB bS bJ va vn vc) (hm : MapF LN.val w bS n f) (hj : MapF LN.val w bJ m J) (hfo : FOk f) (hjf : ∀ a x, J a = some x → ∃ k, f k = some x)
    (hrd : ∀ a x, f a = some x → x.ok w ∧ x.n.strokes.length ≤ 1000000) (hn : n ≤ 1000) :
    Calls Tryz.prog 193 #[.pointer (some ⟨pB, 0, none⟩)] w fun e w' => EvEnd w f J e w' ∧ Below w.heap.size w w' := by
  have I43 := Lib.hid (show ∀ (m : NoteV) (a : Option Addr) (c : Nat), (Tryz.prog.info? 47).map (·.size) = some (noteA m a c).size from fun m a c => by kernel_rfl)
  have FO := Lib.hid hfo; clear hfo
  have JF := Lib.hid hjf; clear hjf
  have RDF := Lib.hid hrd; clear hrd
  have HNn := Lib.hid hn; clear hn
  have HBN := Lib.hid hb; clear hb
  have HMM := Lib.hid hm; clear hm
  have HJJ := Lib.hid hj; clear hj
  have B1 := Lib.hid ((Below.refl w.heap.size w).alloc (Nat.le_refl _) (.cells #[.slice none 0 0] 24))
  have e0 := heap_last w (.cells #[.slice none 0 0] 24)
  go_enter Tryz.func193, Tryz.ntmps193
  go_upto_region 2 with fail
  obtain ⟨pL, hpL⟩ : ∃ pL, Hid (w.heap.size = pL) := ⟨_, Lib.hid rfl⟩
  rw [hpL.out] at e0 ⊢
  have hz1 : Hid ((w.alloc (.cells #[.slice none 0 0] 24)).heap.size = w.heap.size + 1) := Lib.hid (by simp)
  generalize w.alloc (.cells #[.slice none 0 0] 24) = wa at *
  have M1 := HMM.out.below B1.out
  have cB0 := cell_of (below_blk B1.out HBN.out) 0 (.map (some bS)) rfl
  go_wp2_with (first
    | (at_range; refine wpList_range_nm _ rfl _ 119 47 rfl Tryz.underlying119 bS n rfl M1 ?_; intro w0 cnt0 hrg0 hg0 hs0)
    | fail)
  go_frame
  obtain ⟨r, hr⟩ : ∃ r, Hid (wa.heap.size = r) := ⟨_, Lib.hid rfl⟩
  have S0 := Lib.hid (show EvAt w w0 bS pL r n f J [] [] cnt0 none 0 [] from
    ⟨by rw [← hr.out]; exact hrg0, B1.out.grown hg0 (by rw [hz1.out]; omega) (fun q hq => by cases hq), grown_blk hg0 e0 (by simp), World.ownsRow_nil _ _ _ _, (fun x hx => by cases hx), rfl, by rw [hpL.out]; exact Nat.le_refl _, by rw [← hr.out, hz1.out]; omega⟩)
  rw [hr.out]
  clear hrg0 hg0 hs0 e0 M1 cB0
  go_loopw [13] (fun _ wr => ∃ (ks : List Nm) (cnt : Nat) (a : Option Addr) (c : Nat) (es : List LN), Hid (EvAt w wr bS pL r n f J ks ks cnt a c es)) (fun _ wr => wr.rangeLeft bS r)
  case atStart => exact ⟨_, _, _, _, _, S0⟩
  case round =>
    clear S0
    obtain ⟨ks, cnt, a, c, es, HS⟩ := hrel
    go_upto_region 4 with (first
      | (at_next; refine wpList_next_nm wr rfl _ rfl bS r n cnt ks rfl HS.out.rng ?_ ?_)
      | fail)
    · intro hall
      have HALL := Lib.hid hall; clear hall
      have hc := cell_of HS.out.lst 0 (.slice a es.length c) rfl
      have hmf : ∀ (fn : Fn) (first cap : Array Value) (w : World), (Instr.makeFunc fn first cap).run Tryz.prog w = .ok (.func fn first cap) w := fun _ _ _ _ => rfl
      have hle : Hid (es.length ≤ 1000000) := Lib.hid (by
        have h1 := congrArg List.length HS.out.evs
        have h2 := HS.out.rng.count
        have h3 := HNn.out
        have h4 : (ks.filterMap (evN f J)).length ≤ ks.length := List.length_filterMap_le _ _
        rw [List.length_map] at h1
        omega)
      go_wp2_with fail
      refine (sortNote_all (V := LN) ord_when lnRow lnRow_len lnRow_one (fun x y => whenC x.n y.n) (fun _ _ => rfl) 222 when_fn when_cmp w.heap.size es.length c a es wr HS.out.own rfl hle.out).mono ?_
      rintro e w9 ⟨rfl, zs, ho, hp, hs, hsame⟩
      have HO := Lib.hid ho
      have HP := Lib.hid hp
      have HSo := Lib.hid hs
      have HSm := Lib.hid hsame
      clear ho hp hs hsame hc
      go_wp2_with fail
      go_ret
      have hzl : zs.length = es.length := HP.out.length_eq
      refine ⟨⟨pL, a, c, zs, ks, rfl, ?_, ?_, ?_, HS.out.rng.nodup, HALL.out, ?_, HSo.out, HS.out.pL_ge⟩, ?_⟩
      · rw [hzl]
        exact (HSm.out.block pL (blk_lt HS.out.lst) (fun e => own_no HS.out.own HS.out.lst (by intro cur; simp) e.symm)).trans HS.out.lst
      · rw [hzl]; exact HO.out
      · intro x hx
        have h0 := HS.out.str x (HP.out.subset hx)
        exact own_keep h0 HSm.out (fun b hb e => by
          rcases own_apart h0 HS.out.own (by decide) with h | h
          · rw [h] at hb; cases hb
          · exact h (by rw [hb, e]))
      · rw [← HS.out.evs]
        exact HP.out.map _
      · exact HSm.out.below HS.out.bel HS.out.bel.size (fun k hk => (HS.out.own.lt k hk).1)
    · intro kh km y w1 cnt1 HN hen
      have HF := Lib.hid HN.out.at_
      have HOk := Lib.hid (FO.out _ _ HN.out.at_)
      have HKok := Lib.hid HN.out.ok
      have S1 := Lib.hid (HS.out.came HN.out)
      have HM := Lib.hid (show wr.rangeLeft bS r = cnt from HS.out.rng.left_eq)
      have HLT := Lib.hid HN.out.lt
      clear HS HN
      unfold LN.val at hen
      go_upto_region 5 with (first
        | (refine wpList_store_newp (w1.alloc (.cells #[.int .i64 kh, .int .i64 km] 45)) rfl 47 _ _ rfl (w1.heap.size + 1) (by simp) _ (noteA y.n y.sa y.sc) rfl rfl (I43.out _ _ _) rfl (noteA_one y.n y.sa y.sc) ?_))
      clear hen
      have hbt : Below w1.heap.size w1 ((w1.alloc (.cells #[.int .i64 kh, .int .i64 km] 45)).alloc (.cells (noteA y.n y.sa y.sc) 47)) := ((Below.refl _ _).alloc (Nat.le_refl _) _).alloc (by simp) _
      have CS := Lib.hid (S1.out.below hbt)
      have CN := Lib.hid (heap_before _ (.cells (noteA y.n y.sa y.sc) 47) _ _ (heap_last w1 (.cells #[.int .i64 kh, .int .i64 km] 45)))
      have CT := Lib.hid (heap_at (w1.alloc (.cells #[.int .i64 kh, .int .i64 km] 45)) (.cells (noteA y.n y.sa y.sc) 47) (w1.heap.size + 1) (by simp))
      obtain ⟨p4, hp4⟩ : ∃ p4, Hid (w1.heap.size = p4) := ⟨_, Lib.hid rfl⟩
      obtain ⟨p5, hp5⟩ : ∃ p5, Hid (p4 + 1 = p5) := ⟨_, Lib.hid rfl⟩
      rw [hp4.out] at CN CT ⊢
      rw [hp5.out] at CT ⊢
      generalize (w1.alloc (.cells #[.int .i64 kh, .int .i64 km] 45)).alloc (.cells (noteA y.n y.sa y.sc) 47) = wt at *
      have HP5 := Lib.hid (show Value.ownBlock (.slice a es.length c) ≠ some p5 from fun e => by
        have h1 := (S1.out.own.lt p5 e).2
        have h2 := hp4.out
        have h3 := hp5.out
        omega)
      have HG5 := Lib.hid (show w.heap.size ≤ p5 by
        have h1 := S1.out.bel.size
        have h2 := hp4.out
        have h3 := hp5.out
        omega)
      clear hbt S1
      have CQ := Lib.hid (show y.ok wt ∧ y.n.strokes.length ≤ 1000000 from ⟨(RDF.out _ _ HF.out).1.below CS.out.bel, (RDF.out _ _ HF.out).2⟩)
      have JT := Lib.hid (HJJ.out.below CS.out.bel)
      cases hJ : J (kh, km) with
      | none =>
        have HJ := Lib.hid hJ; clear hJ
        refine wp_region_noPanic ?_
        refine wp_region_held_drew (S := fun w' => Below wt.heap.size wt w') (by kernel_rfl) (show Below wt.heap.size wt wt.drew from (Below.refl _ _).drew) (fun hHeld => ?_)
        refine wpAnyH_take (i := 0) (v := .pointer (some ⟨pB, 0, none⟩)) rfl (by kernel_rfl) (by kernel_rfl) (by kernel_rfl) (fun _ _ _ h => h) (Or.inl ⟨by kernel_rfl, by intro W _; go_simp⟩) (by assumption) ?_
        try simp only [Act.put, lq0, lq1, lq2, lq3, lq4, lq5]
        refine wpAnyH_take (i := 1) (v := .pointer (some ⟨pB, 0, none⟩)) rfl (by kernel_rfl) (by kernel_rfl) (by kernel_rfl) (fun _ _ _ h => h) (Or.inl ⟨by kernel_rfl, by intro W _; go_simp⟩) (by assumption) ?_
        try simp only [Act.put, lq0, lq1, lq2, lq3, lq4, lq5]
        refine wpAnyH_take (i := 2) (v := .pointer (some ⟨pB, 1, none⟩)) rfl (by kernel_rfl) (by kernel_rfl) (by kernel_rfl) (fun _ _ _ h => h) (Or.inl ⟨by kernel_rfl, by intro W _; go_simp⟩) (by assumption) ?_
        try simp only [Act.put, lq0, lq1, lq2, lq3, lq4, lq5]
        refine wpAnyH_take (i := 3) (v := .map (some bJ)) rfl (by kernel_rfl) (by kernel_rfl) (by kernel_rfl) (fun _ _ _ h => h) (Or.inl ⟨by kernel_rfl, by intro W h; have hc := cell_of (below_blk h (below_blk CS.out.bel HBN.out)) 1 (.map (some bJ)) rfl; go_simp⟩) (by assumption) ?_
        try simp only [Act.put, lq0, lq1, lq2, lq3, lq4, lq5]
        refine wpAnyH_take (i := 4) (v := .agg #[.int .i64 kh, .int .i64 km]) rfl (by kernel_rfl) (by kernel_rfl) (by kernel_rfl) (fun _ _ _ h => h) (Or.inl ⟨by kernel_rfl, by intro W h; have h0 := cell_of (below_blk h CN.out) 0 (.int .i64 kh) rfl; have h1 := cell_of (below_blk h CN.out) 1 (.int .i64 km) rfl; go_simp⟩) (by assumption) ?_
        try simp only [Act.put, lq0, lq1, lq2, lq3, lq4, lq5]
        refine wpAnyH_take (i := 5) (v := .tuple #[.agg (noteA zeroN none 0), .bool false]) rfl (by kernel_rfl) (by kernel_rfl) (by kernel_rfl) (fun _ _ _ h => h) (Or.inl ⟨by kernel_rfl, by intro W h; have hg : (Instr.lookup 106 (.map (some bJ)) (.agg #[.int .i64 kh, .int .i64 km]) true).run Tryz.prog W = .ok (.tuple #[.agg (noteA zeroN none 0), .bool false]) W := (by have h2 := run_get_nm (t := 106) (JT.out.below h) Tryz.underlying106 (zero_note W) kh km HKok.out; rw [HJ.out] at h2; exact h2); go_simp⟩) (by assumption) ?_
        try simp only [Act.put, lq0, lq1, lq2, lq3, lq4, lq5]
        refine wpAnyH_take (i := 6) (v := .tuple #[.agg (noteA zeroN none 0), .bool false]) rfl (by kernel_rfl) (by kernel_rfl) (by kernel_rfl) (fun _ _ _ h => h) (Or.inl ⟨by kernel_rfl, by intro W _; go_simp⟩) (by assumption) ?_
        try simp only [Act.put, lq0, lq1, lq2, lq3, lq4, lq5]
        refine wpAnyH_take (i := 7) (v := .agg (noteA zeroN none 0)) rfl (by kernel_rfl) (by kernel_rfl) (by kernel_rfl) (fun _ _ _ h => h) (Or.inl ⟨by kernel_rfl, by intro W _; go_simp⟩) (by assumption) ?_
        try simp only [Act.put, lq0, lq1, lq2, lq3, lq4, lq5]
        refine wpAnyH_take (i := 8) (v := .bool false) rfl (by kernel_rfl) (by kernel_rfl) (by kernel_rfl) (fun _ _ _ h => h) (Or.inl ⟨by kernel_rfl, by intro W _; go_simp⟩) (by assumption) ?_
        try simp only [Act.put, lq0, lq1, lq2, lq3, lq4, lq5]
        refine wpAnyH_ready (rs := [9]) (by kernel_rfl) (by simp) ?_
        refine AllReadyH.cons rfl (fun K hK => ?_) AllReadyH.nil
        go_simp
        refine hK.out _ _ ((Below.refl wt.heap.size wt).drew.alloc (Nat.le_refl _) _) (fun hHeld => ?_)
        clear hK K
        try simp only [Act.put, lq0, lq1, lq2, lq3, lq4, lq5]
        refine wpAnyH_ready (rs := [10]) (by kernel_rfl) (by simp) ?_
        refine AllReadyH.cons rfl (fun K hK => ?_) AllReadyH.nil
        rw [if_pos (by kernel_rfl)]
        refine oper_store_blk 47 _ _ rfl wt.drew.heap.size _ (noteA zeroN none 0) 47 rfl rfl (heap_last _ _) (I43.out _ _ _) rfl (noteA_one _ _ _) ?_
        intro w5 h8 hg8 hs8
        have b8 : Below wt.heap.size wt w5 := ((Below.refl wt.heap.size wt).drew.alloc (Nat.le_refl _) _).grown hg8 (by simp) (fun q hq => by cases hq; exact Nat.le_refl _)
        have C6 : Hid (w5.heap[wt.heap.size]? = some (.cells (noteA zeroN none 0) 47 (0, 0))) := Lib.hid h8
        have B8 := Lib.hid b8
        clear h8 hg8 hs8 b8
        simp only [Act.put, lq0, lq1, lq2]
        refine hK.out _ _ B8.out (fun hHeld => ?_)
        clear hK K
        try simp only [Act.put, lq0, lq1, lq2, lq3, lq4, lq5]
        refine wpAnyH_take (i := 11) (oi := { dst := some 7, op := .assign (.tmp 26), type := _, pos := _, after := _, guard := none }) (v := .bool false) rfl (by kernel_rfl) (by kernel_rfl) (by kernel_rfl) (fun _ _ _ h => h) (Or.inl ⟨by kernel_rfl, by intro W _; go_simp⟩) (by assumption) ?_
        try simp only [Act.put, lq0, lq1, lq2, lq3, lq4, lq5]
        refine wpAnyH_done (by kernel_rfl) ?_ _
        refine NoPanic.normal ?_
        obtain ⟨p6, hp6⟩ : ∃ p6, Hid (wt.heap.size = p6) := ⟨_, Lib.hid rfl⟩
        rw [hp6.out] at C6 ⊢
        replace CS := Lib.hid (CS.out.below B8.out)
        replace CT := Lib.hid (below_blk B8.out CT.out)
        replace CQ := Lib.hid (show y.ok w5 ∧ y.n.strokes.length ≤ 1000000 from ⟨CQ.out.1.below B8.out, CQ.out.2⟩)
        clear B8 CN JT hHeld
        go_wp2_with (first
          | (refine wpList_load_row rfl 47 _ rfl p5 rfl 47 (noteA y.n y.sa y.sc) (0, 0) _ CT.out Tryz.underlying47 rfl (I43.out _ _ _) ?_))
        refine (done_any y.n y.sa y.sc _).mono ?_
        rintro e w6 ⟨rfl, b6⟩
        replace CS := Lib.hid (CS.out.below b6)
        replace CT := Lib.hid (below_blk b6 CT.out)
        replace C6 := Lib.hid (below_blk b6 C6.out)
        replace CQ := Lib.hid (show y.ok w6 ∧ y.n.strokes.length ≤ 1000000 from ⟨CQ.out.1.below b6, CQ.out.2⟩)
        clear b6
        cases hd : doneB y.n
        · have HE := Lib.hid (show evN f J (kh, km) = none by simp [evN, HF.out, hd])
          clear hd
          go_wp2_with fail
          go_roundw
          case rel => exact ⟨_, _, _, _, _, Lib.hid (CS.out.skip HE.out)⟩
          case measure => rw [CS.out.rng.left_eq, HM.out]; exact HLT.out
        · have HE := Lib.hid (show evN f J (kh, km) = some y.n by simp [evN, HF.out, hd, HJ.out])
          clear hd C6
          go_upto_region 10 with fail
          refine wp_region_noPanic ?_
          refine wp_region_held_drew (S := fun w' => w'.heap[p5]? = some (.cells (noteA y.n y.sa y.sc) 47 (0, 0))) (by kernel_rfl) (show w6.drew.heap[p5]? = _ from CT.out) (fun hHeld => ?_)
          replace CS := Lib.hid (CS.out.below ((Below.refl w6.heap.size w6).drew))
          replace CT := Lib.hid (show w6.drew.heap[p5]? = _ from CT.out)
          replace CQ := Lib.hid (show RdI w6.drew y.sa y.n.strokes.length y.sc y.n.strokes ∧ y.n.strokes.length ≤ 1000000 from ⟨RdI.below CQ.out.1 ((Below.refl w6.heap.size w6).drew), CQ.out.2⟩)
          refine wpAnyH_take (i := 1) (v := .agg (noteA y.n y.sa y.sc)) rfl (by kernel_rfl) (by kernel_rfl) (by kernel_rfl) (fun _ _ _ h => h) (yields_row (by kernel_rfl) 47 _ rfl p5 rfl _ 47 (0, 0) _ (fun W h => h) Tryz.underlying47 rfl (I43.out _ _ _)) (by assumption) ?_
          try simp only [Act.put, lq0, lq1, lq2, lq3, lq4, lq5]
          refine wpAnyH_ready (rs := [0, 2]) (by kernel_rfl) (by simp) ?_
          refine AllReadyH.cons rfl (fun K hK => ?_) ?_
          · have hc := cell_of CS.out.lst 0 (.slice a es.length c) rfl
            go_simp
            clear hc
            refine hK.out _ _ CT.out (fun hHeld => ?_)
            clear hK K
            try simp only [Act.put, lq0, lq1, lq2, lq3, lq4, lq5]
            refine wpAnyH_ready (rs := [2]) (by kernel_rfl) (by simp) ?_
            refine AllReadyH.cons rfl (fun K hK => ?_) AllReadyH.nil
            go_simp
            go_at_call 66
            refine (copied_any y.n y.sa y.sc _ CQ.out.1 (by have := CQ.out.2; omega)).mono ?_
            rintro e v8 ⟨ta, tc, rfl, ho, b8⟩
            have HO := Lib.hid (own_mono ho (show w.heap.size ≤ _ from CS.out.bel.size))
            replace CS := Lib.hid (CS.out.below b8)
            replace CT := Lib.hid (below_blk b8 CT.out)
            clear ho b8 CQ
            dsimp only
            refine hK.out _ _ CT.out (fun hHeld => ?_)
            clear hK K
            try simp only [Act.put, lq0, lq1, lq2, lq3, lq4, lq5]
            refine wpAnyH_ready (rs := [3]) (by kernel_rfl) (by simp) ?_
            refine AllReadyH.cons rfl (fun K hK => ?_) AllReadyH.nil
            rw [if_pos (by kernel_rfl)]
            refine oper_build_note _ rfl (y.n) ta tc rfl ?_
            have b9 : Below v8.heap.size v8 (v8.alloc (.cells (noteA y.n ta tc) 47)) := (Below.refl _ _).alloc (Nat.le_refl _) _
            have CR := Lib.hid (lit_note v8 (y.n) ta tc)
            replace HO := Lib.hid (own_below HO.out b9)
            replace CS := Lib.hid (CS.out.below b9)
            replace CT := Lib.hid (below_blk b9 CT.out)
            clear b9
            refine hK.out _ _ CT.out (fun hHeld => ?_)
            clear hK K
            try simp only [Act.put, lq0, lq1, lq2, lq3, lq4, lq5]
            refine wpAnyH_ready (rs := [4]) (by kernel_rfl) (by simp) ?_
            refine AllReadyH.cons rfl (fun K hK => ?_) AllReadyH.nil
            obtain ⟨a', c', v9, hrun, ho, hg⟩ := run_app_nt _ w.heap.size a es.length c _ CS.out.own _ 1 1 _ CR.out (NoteV.cells_one _ _ _) (by
              have h1 := congrArg List.length CS.out.evs
              have h2 := CS.out.rng.count
              have h3 := HNn.out
              have h4 : (ks.filterMap (evN f J)).length ≤ ks.length := List.length_filterMap_le _ _
              rw [List.length_map] at h1
              rw [List.length_append] at h2
              omega) CS.out.bel.size
            have HO3 := Lib.hid ho
            have HG3 := Lib.hid hg
            have CL3 := Lib.hid (grown_blk hg CS.out.lst (own_no CS.out.own CS.out.lst (by intro cur; simp)))
            replace CT := Lib.hid (grown_blk hg CT.out (fun e => HP5.out e.symm))
            clear ho hg
            rw [if_pos (by kernel_rfl)]
            refine oper_append _ _ _ rfl _ _ _ rfl rfl hrun ?_
            clear hrun
            refine hK.out _ _ CT.out (fun hHeld => ?_)
            clear hK K
            try simp only [Act.put, lq0, lq1, lq2, lq3, lq4, lq5]
            refine wpAnyH_ready (rs := [5]) (by kernel_rfl) (by simp) ?_
            refine AllReadyH.cons rfl (fun K hK => ?_) AllReadyH.nil
            have hc := cell_of CL3.out 0 (.slice a es.length c) rfl
            have hfz := frozen_of CL3.out 0
            have S9 := Lib.hid (CS.out.app (x := ⟨y.n, ta, tc⟩) HE.out HO.out HO3.out HG3.out)
            have h5 : some p5 ≠ some pL := fun e => by
              have h1 := CT.out
              rw [Option.some.inj e, CL3.out] at h1
              cases h1
            replace CT := Lib.hid (grown_blk (setCell_grown v9 pL 0 (.slice a' (es.length + 1) c')) CT.out h5)
            go_simp
            refine hK.out _ _ CT.out (fun hHeld => ?_)
            clear hK K
            try simp only [Act.put, lq0, lq1, lq2, lq3, lq4, lq5]
            refine wpAnyH_done (by kernel_rfl) ?_ _
            refine NoPanic.normal ?_
            go_wp2_with fail
            go_roundw
            case rel => exact ⟨_, _, _, _, _, S9⟩
            case measure => rw [S9.out.rng.left_eq, HM.out]; exact HLT.out
          refine AllReadyH.cons rfl (fun K hK => ?_) AllReadyH.nil
          go_simp
          go_at_call 66
          refine (copied_any y.n y.sa y.sc _ CQ.out.1 (by have := CQ.out.2; omega)).mono ?_
          rintro e v8 ⟨ta, tc, rfl, ho, b8⟩
          have HO := Lib.hid (own_mono ho (show w.heap.size ≤ _ from CS.out.bel.size))
          replace CS := Lib.hid (CS.out.below b8)
          replace CT := Lib.hid (below_blk b8 CT.out)
          clear ho b8 CQ
          dsimp only
          refine hK.out _ _ CT.out (fun hHeld => ?_)
          clear hK K
          try simp only [Act.put, lq0, lq1, lq2, lq3, lq4, lq5]
          refine wpAnyH_ready (rs := [0, 3]) (by kernel_rfl) (by simp) ?_
          refine AllReadyH.cons rfl (fun K hK => ?_) ?_
          · have hc := cell_of CS.out.lst 0 (.slice a es.length c) rfl
            go_simp
            clear hc
            refine hK.out _ _ CT.out (fun hHeld => ?_)
            clear hK K
            try simp only [Act.put, lq0, lq1, lq2, lq3, lq4, lq5]
            refine wpAnyH_ready (rs := [3]) (by kernel_rfl) (by simp) ?_
            refine AllReadyH.cons rfl (fun K hK => ?_) AllReadyH.nil
            rw [if_pos (by kernel_rfl)]
            refine oper_build_note _ rfl (y.n) ta tc rfl ?_
            have b9 : Below v8.heap.size v8 (v8.alloc (.cells (noteA y.n ta tc) 47)) := (Below.refl _ _).alloc (Nat.le_refl _) _
            have CR := Lib.hid (lit_note v8 (y.n) ta tc)
            replace HO := Lib.hid (own_below HO.out b9)
            replace CS := Lib.hid (CS.out.below b9)
            replace CT := Lib.hid (below_blk b9 CT.out)
            clear b9
            refine hK.out _ _ CT.out (fun hHeld => ?_)
            clear hK K
            try simp only [Act.put, lq0, lq1, lq2, lq3, lq4, lq5]
            refine wpAnyH_ready (rs := [4]) (by kernel_rfl) (by simp) ?_
            refine AllReadyH.cons rfl (fun K hK => ?_) AllReadyH.nil
            obtain ⟨a', c', v9, hrun, ho, hg⟩ := run_app_nt _ w.heap.size a es.length c _ CS.out.own _ 1 1 _ CR.out (NoteV.cells_one _ _ _) (by
              have h1 := congrArg List.length CS.out.evs
              have h2 := CS.out.rng.count
              have h3 := HNn.out
              have h4 : (ks.filterMap (evN f J)).length ≤ ks.length := List.length_filterMap_le _ _
              rw [List.length_map] at h1
              rw [List.length_append] at h2
              omega) CS.out.bel.size
            have HO3 := Lib.hid ho
            have HG3 := Lib.hid hg
            have CL3 := Lib.hid (grown_blk hg CS.out.lst (own_no CS.out.own CS.out.lst (by intro cur; simp)))
            replace CT := Lib.hid (grown_blk hg CT.out (fun e => HP5.out e.symm))
            clear ho hg
            rw [if_pos (by kernel_rfl)]
            refine oper_append _ _ _ rfl _ _ _ rfl rfl hrun ?_
            clear hrun
            refine hK.out _ _ CT.out (fun hHeld => ?_)
            clear hK K
            try simp only [Act.put, lq0, lq1, lq2, lq3, lq4, lq5]
            refine wpAnyH_ready (rs := [5]) (by kernel_rfl) (by simp) ?_
            refine AllReadyH.cons rfl (fun K hK => ?_) AllReadyH.nil
            have hc := cell_of CL3.out 0 (.slice a es.length c) rfl
            have hfz := frozen_of CL3.out 0
            have S9 := Lib.hid (CS.out.app (x := ⟨y.n, ta, tc⟩) HE.out HO.out HO3.out HG3.out)
            have h5 : some p5 ≠ some pL := fun e => by
              have h1 := CT.out
              rw [Option.some.inj e, CL3.out] at h1
              cases h1
            replace CT := Lib.hid (grown_blk (setCell_grown v9 pL 0 (.slice a' (es.length + 1) c')) CT.out h5)
            go_simp
            refine hK.out _ _ CT.out (fun hHeld => ?_)
            clear hK K
            try simp only [Act.put, lq0, lq1, lq2, lq3, lq4, lq5]
            refine wpAnyH_done (by kernel_rfl) ?_ _
            refine NoPanic.normal ?_
            go_wp2_with fail
            go_roundw
            case rel => exact ⟨_, _, _, _, _, S9⟩
            case measure => rw [S9.out.rng.left_eq, HM.out]; exact HLT.out
          refine AllReadyH.cons rfl (fun K hK => ?_) AllReadyH.nil
          rw [if_pos (by kernel_rfl)]
          refine oper_build_note _ rfl (y.n) ta tc rfl ?_
          have b9 : Below v8.heap.size v8 (v8.alloc (.cells (noteA y.n ta tc) 47)) := (Below.refl _ _).alloc (Nat.le_refl _) _
          have CR := Lib.hid (lit_note v8 (y.n) ta tc)
          replace HO := Lib.hid (own_below HO.out b9)
          replace CS := Lib.hid (CS.out.below b9)
          replace CT := Lib.hid (below_blk b9 CT.out)
          clear b9
          refine hK.out _ _ CT.out (fun hHeld => ?_)
          clear hK K
          try simp only [Act.put, lq0, lq1, lq2, lq3, lq4, lq5]
          refine wpAnyH_ready (rs := [0]) (by kernel_rfl) (by simp) ?_
          refine AllReadyH.cons rfl (fun K hK => ?_) AllReadyH.nil
          have hc := cell_of CS.out.lst 0 (.slice a es.length c) rfl
          go_simp
          clear hc
          refine hK.out _ _ CT.out (fun hHeld => ?_)
          clear hK K
          try simp only [Act.put, lq0, lq1, lq2, lq3, lq4, lq5]
          refine wpAnyH_ready (rs := [4]) (by kernel_rfl) (by simp) ?_
          refine AllReadyH.cons rfl (fun K hK => ?_) AllReadyH.nil
          obtain ⟨a', c', v9, hrun, ho, hg⟩ := run_app_nt _ w.heap.size a es.length c _ CS.out.own _ 1 1 _ CR.out (NoteV.cells_one _ _ _) (by
            have h1 := congrArg List.length CS.out.evs
            have h2 := CS.out.rng.count
            have h3 := HNn.out
            have h4 : (ks.filterMap (evN f J)).length ≤ ks.length := List.length_filterMap_le _ _
            rw [List.length_map] at h1
            rw [List.length_append] at h2
            omega) CS.out.bel.size
          have HO3 := Lib.hid ho
          have HG3 := Lib.hid hg
          have CL3 := Lib.hid (grown_blk hg CS.out.lst (own_no CS.out.own CS.out.lst (by intro cur; simp)))
          replace CT := Lib.hid (grown_blk hg CT.out (fun e => HP5.out e.symm))
          clear ho hg
          rw [if_pos (by kernel_rfl)]
          refine oper_append _ _ _ rfl _ _ _ rfl rfl hrun ?_
          clear hrun
          refine hK.out _ _ CT.out (fun hHeld => ?_)
          clear hK K
          try simp only [Act.put, lq0, lq1, lq2, lq3, lq4, lq5]
          refine wpAnyH_ready (rs := [5]) (by kernel_rfl) (by simp) ?_
          refine AllReadyH.cons rfl (fun K hK => ?_) AllReadyH.nil
          have hc := cell_of CL3.out 0 (.slice a es.length c) rfl
          have hfz := frozen_of CL3.out 0
          have S9 := Lib.hid (CS.out.app (x := ⟨y.n, ta, tc⟩) HE.out HO.out HO3.out HG3.out)
          have h5 : some p5 ≠ some pL := fun e => by
            have h1 := CT.out
            rw [Option.some.inj e, CL3.out] at h1
            cases h1
          replace CT := Lib.hid (grown_blk (setCell_grown v9 pL 0 (.slice a' (es.length + 1) c')) CT.out h5)
          go_simp
          refine hK.out _ _ CT.out (fun hHeld => ?_)
          clear hK K
          try simp only [Act.put, lq0, lq1, lq2, lq3, lq4, lq5]
          refine wpAnyH_done (by kernel_rfl) ?_ _
          refine NoPanic.normal ?_
          go_wp2_with fail
          go_roundw
          case rel => exact ⟨_, _, _, _, _, S9⟩
          case measure => rw [S9.out.rng.left_eq, HM.out]; exact HLT.out
      | some z =>
        have HJ := Lib.hid hJ; clear hJ
        refine wp_region_noPanic ?_
        refine wp_region_held_drew (S := fun w' => Below wt.heap.size wt w') (by kernel_rfl) (show Below wt.heap.size wt wt.drew from (Below.refl _ _).drew) (fun hHeld => ?_)
        refine wpAnyH_take (i := 0) (v := .pointer (some ⟨pB, 0, none⟩)) rfl (by kernel_rfl) (by kernel_rfl) (by kernel_rfl) (fun _ _ _ h => h) (Or.inl ⟨by kernel_rfl, by intro W _; go_simp⟩) (by assumption) ?_
        try simp only [Act.put, lq0, lq1, lq2, lq3, lq4, lq5]
        refine wpAnyH_take (i := 1) (v := .pointer (some ⟨pB, 0, none⟩)) rfl (by kernel_rfl) (by kernel_rfl) (by kernel_rfl) (fun _ _ _ h => h) (Or.inl ⟨by kernel_rfl, by intro W _; go_simp⟩) (by assumption) ?_
        try simp only [Act.put, lq0, lq1, lq2, lq3, lq4, lq5]
        refine wpAnyH_take (i := 2) (v := .pointer (some ⟨pB, 1, none⟩)) rfl (by kernel_rfl) (by kernel_rfl) (by kernel_rfl) (fun _ _ _ h => h) (Or.inl ⟨by kernel_rfl, by intro W _; go_simp⟩) (by assumption) ?_
        try simp only [Act.put, lq0, lq1, lq2, lq3, lq4, lq5]
        refine wpAnyH_take (i := 3) (v := .map (some bJ)) rfl (by kernel_rfl) (by kernel_rfl) (by kernel_rfl) (fun _ _ _ h => h) (Or.inl ⟨by kernel_rfl, by intro W h; have hc := cell_of (below_blk h (below_blk CS.out.bel HBN.out)) 1 (.map (some bJ)) rfl; go_simp⟩) (by assumption) ?_
        try simp only [Act.put, lq0, lq1, lq2, lq3, lq4, lq5]
        refine wpAnyH_take (i := 4) (v := .agg #[.int .i64 kh, .int .i64 km]) rfl (by kernel_rfl) (by kernel_rfl) (by kernel_rfl) (fun _ _ _ h => h) (Or.inl ⟨by kernel_rfl, by intro W h; have h0 := cell_of (below_blk h CN.out) 0 (.int .i64 kh) rfl; have h1 := cell_of (below_blk h CN.out) 1 (.int .i64 km) rfl; go_simp⟩) (by assumption) ?_
        try simp only [Act.put, lq0, lq1, lq2, lq3, lq4, lq5]
        refine wpAnyH_take (i := 5) (v := .tuple #[.agg (noteA z.n z.sa z.sc), .bool true]) rfl (by kernel_rfl) (by kernel_rfl) (by kernel_rfl) (fun _ _ _ h => h) (Or.inl ⟨by kernel_rfl, by intro W h; have hg : (Instr.lookup 106 (.map (some bJ)) (.agg #[.int .i64 kh, .int .i64 km]) true).run Tryz.prog W = .ok (.tuple #[.agg (noteA z.n z.sa z.sc), .bool true]) W := (by have h2 := run_get_nm (t := 106) (JT.out.below h) Tryz.underlying106 (zero_note W) kh km HKok.out; rw [HJ.out] at h2; exact h2); go_simp⟩) (by assumption) ?_
        try simp only [Act.put, lq0, lq1, lq2, lq3, lq4, lq5]
        refine wpAnyH_take (i := 6) (v := .tuple #[.agg (noteA z.n z.sa z.sc), .bool true]) rfl (by kernel_rfl) (by kernel_rfl) (by kernel_rfl) (fun _ _ _ h => h) (Or.inl ⟨by kernel_rfl, by intro W _; go_simp⟩) (by assumption) ?_
        try simp only [Act.put, lq0, lq1, lq2, lq3, lq4, lq5]
        refine wpAnyH_take (i := 7) (v := .agg (noteA z.n z.sa z.sc)) rfl (by kernel_rfl) (by kernel_rfl) (by kernel_rfl) (fun _ _ _ h => h) (Or.inl ⟨by kernel_rfl, by intro W _; go_simp⟩) (by assumption) ?_
        try simp only [Act.put, lq0, lq1, lq2, lq3, lq4, lq5]
        refine wpAnyH_take (i := 8) (v := .bool true) rfl (by kernel_rfl) (by kernel_rfl) (by kernel_rfl) (fun _ _ _ h => h) (Or.inl ⟨by kernel_rfl, by intro W _; go_simp⟩) (by assumption) ?_
        try simp only [Act.put, lq0, lq1, lq2, lq3, lq4, lq5]
        refine wpAnyH_ready (rs := [9]) (by kernel_rfl) (by simp) ?_
        refine AllReadyH.cons rfl (fun K hK => ?_) AllReadyH.nil
        go_simp
        refine hK.out _ _ ((Below.refl wt.heap.size wt).drew.alloc (Nat.le_refl _) _) (fun hHeld => ?_)
        clear hK K
        try simp only [Act.put, lq0, lq1, lq2, lq3, lq4, lq5]
        refine wpAnyH_ready (rs := [10]) (by kernel_rfl) (by simp) ?_
        refine AllReadyH.cons rfl (fun K hK => ?_) AllReadyH.nil
        rw [if_pos (by kernel_rfl)]
        refine oper_store_blk 47 _ _ rfl wt.drew.heap.size _ (noteA z.n z.sa z.sc) 47 rfl rfl (heap_last _ _) (I43.out _ _ _) rfl (noteA_one _ _ _) ?_
        intro w5 h8 hg8 hs8
        have b8 : Below wt.heap.size wt w5 := ((Below.refl wt.heap.size wt).drew.alloc (Nat.le_refl _) _).grown hg8 (by simp) (fun q hq => by cases hq; exact Nat.le_refl _)
        have C6 : Hid (w5.heap[wt.heap.size]? = some (.cells (noteA z.n z.sa z.sc) 47 (0, 0))) := Lib.hid h8
        have B8 := Lib.hid b8
        clear h8 hg8 hs8 b8
        simp only [Act.put, lq0, lq1, lq2]
        refine hK.out _ _ B8.out (fun hHeld => ?_)
        clear hK K
        try simp only [Act.put, lq0, lq1, lq2, lq3, lq4, lq5]
        refine wpAnyH_take (i := 11) (oi := { dst := some 7, op := .assign (.tmp 26), type := _, pos := _, after := _, guard := none }) (v := .bool true) rfl (by kernel_rfl) (by kernel_rfl) (by kernel_rfl) (fun _ _ _ h => h) (Or.inl ⟨by kernel_rfl, by intro W _; go_simp⟩) (by assumption) ?_
        try simp only [Act.put, lq0, lq1, lq2, lq3, lq4, lq5]
        refine wpAnyH_done (by kernel_rfl) ?_ _
        refine NoPanic.normal ?_
        obtain ⟨p6, hp6⟩ : ∃ p6, Hid (wt.heap.size = p6) := ⟨_, Lib.hid rfl⟩
        rw [hp6.out] at C6 ⊢
        replace CS := Lib.hid (CS.out.below B8.out)
        replace CT := Lib.hid (below_blk B8.out CT.out)
        replace CQ := Lib.hid (show y.ok w5 ∧ y.n.strokes.length ≤ 1000000 from ⟨CQ.out.1.below B8.out, CQ.out.2⟩)
        clear B8 CN JT hHeld
        go_wp2_with (first
          | (refine wpList_load_row rfl 47 _ rfl p5 rfl 47 (noteA y.n y.sa y.sc) (0, 0) _ CT.out Tryz.underlying47 rfl (I43.out _ _ _) ?_))
        refine (done_any y.n y.sa y.sc _).mono ?_
        rintro e w6 ⟨rfl, b6⟩
        replace CS := Lib.hid (CS.out.below b6)
        replace CT := Lib.hid (below_blk b6 CT.out)
        replace C6 := Lib.hid (below_blk b6 C6.out)
        replace CQ := Lib.hid (show y.ok w6 ∧ y.n.strokes.length ≤ 1000000 from ⟨CQ.out.1.below b6, CQ.out.2⟩)
        clear b6
        cases hd : doneB y.n
        · have HE := Lib.hid (show evN f J (kh, km) = none by simp [evN, HF.out, hd])
          clear hd
          go_wp2_with fail
          go_roundw
          case rel => exact ⟨_, _, _, _, _, Lib.hid (CS.out.skip HE.out)⟩
          case measure => rw [CS.out.rng.left_eq, HM.out]; exact HLT.out
        · have c4 := cell_of C6.out 4 (.int .i64 z.n.kind) rfl
          by_cases hk : z.n.kind = 6
          · have t0 : (z.n.kind == 6) = true := by simp [hk]
            have HE := Lib.hid (show evN f J (kh, km) = none by simp [evN, HF.out, HJ.out, hk])
            clear hd hk
            go_wp2_with fail
            go_roundw
            case rel => exact ⟨_, _, _, _, _, Lib.hid (CS.out.skip HE.out)⟩
            case measure => rw [CS.out.rng.left_eq, HM.out]; exact HLT.out
          · have t0 : (z.n.kind == 6) = false := by simp [hk]
            have HE := Lib.hid (show evN f J (kh, km) = some (countN y.n z.n) by simp [evN, HF.out, HJ.out, hd, hk])
            clear hd hk
            obtain ⟨kz, hkz⟩ := JF.out _ _ HJ.out
            have CZ := Lib.hid (show z.ok w6 ∧ z.n.strokes.length ≤ 1000000 from ⟨(RDF.out _ _ hkz).1.below CS.out.bel, (RDF.out _ _ hkz).2⟩)
            clear hkz
            go_wp2_with (first
              | (refine wpList_load_row rfl 47 _ rfl p5 rfl 47 (noteA y.n y.sa y.sc) (0, 0) _ CT.out Tryz.underlying47 rfl (I43.out _ _ _) ?_)
              | (refine wpList_load_row rfl 47 _ rfl p6 rfl 47 (noteA z.n z.sa z.sc) (0, 0) _ C6.out Tryz.underlying47 rfl (I43.out _ _ _) ?_))
            refine (counts_any y.n z.n y.sa y.sc z.sa z.sc _ CZ.out.1 (by have := CZ.out.2; omega)).mono ?_
            rintro e w7 ⟨qa, qc, rfl, hq, b7⟩
            replace CS := Lib.hid (CS.out.below b7)
            replace CT := Lib.hid (below_blk b7 CT.out)
            obtain ⟨q, hqe⟩ : ∃ q, Hid (countN y.n z.n = q) := ⟨_, Lib.hid rfl⟩
            have hq' : w7.ownsRow w6.heap.size 3 1 (.slice qa q.strokes.length qc) q.strokes.length (q.strokes.map intV) := by rw [← hqe.out]; exact hq
            have HQL := Lib.hid (show q.strokes.length ≤ 1000000 by rw [← hqe.out]; exact CZ.out.2)
            rw [hqe.out] at HE ⊢
            clear b7 c4 CZ C6 CQ hq
            have CQ2 := Lib.hid hq'; clear hq'
            have oneQ := noteA_one q qa qc
            go_upto_region 10 with (first
              | (refine wpList_store_rowN rfl 47 _ _ rfl p5 (noteA y.n y.sa y.sc) (noteA q qa qc) 47 rfl rfl CT.out (I43.out _ _ _) rfl oneQ ?_))
            have CQ := Lib.hid (show RdI (w7.setRow p5 (noteA q qa qc)) qa q.strokes.length qc q.strokes ∧ q.strokes.length ≤ 1000000 from ⟨RdA.of_own (CQ2.out.kept (setRow_grown w7 p5 (noteA q qa qc)) (.inr (own_no CQ2.out CT.out (by intro cur; simp)).symm)), HQL.out⟩)
            replace CS := Lib.hid (CS.out.note (B := noteA q qa qc) CT.out HP5.out HG5.out)
            replace CT := Lib.hid (setRow_at w7 p5 _ (noteA q qa qc) _ _ CT.out)
            clear CQ2
            generalize w7.setRow p5 (noteA q qa qc) = wd at *
            refine wp_region_noPanic ?_
            refine wp_region_held_drew (S := fun w' => w'.heap[p5]? = some (.cells (noteA q qa qc) 47 (0, 0))) (by kernel_rfl) (show wd.drew.heap[p5]? = _ from CT.out) (fun hHeld => ?_)
            replace CS := Lib.hid (CS.out.below ((Below.refl wd.heap.size wd).drew))
            replace CT := Lib.hid (show wd.drew.heap[p5]? = _ from CT.out)
            replace CQ := Lib.hid (show RdI wd.drew qa q.strokes.length qc q.strokes ∧ q.strokes.length ≤ 1000000 from ⟨RdI.below CQ.out.1 ((Below.refl wd.heap.size wd).drew), CQ.out.2⟩)
            refine wpAnyH_take (i := 1) (v := .agg (noteA q qa qc)) rfl (by kernel_rfl) (by kernel_rfl) (by kernel_rfl) (fun _ _ _ h => h) (yields_row (by kernel_rfl) 47 _ rfl p5 rfl _ 47 (0, 0) _ (fun W h => h) Tryz.underlying47 rfl (I43.out _ _ _)) (by assumption) ?_
            try simp only [Act.put, lq0, lq1, lq2, lq3, lq4, lq5]
            refine wpAnyH_ready (rs := [0, 2]) (by kernel_rfl) (by simp) ?_
            refine AllReadyH.cons rfl (fun K hK => ?_) ?_
            · have hc := cell_of CS.out.lst 0 (.slice a es.length c) rfl
              go_simp
              clear hc
              refine hK.out _ _ CT.out (fun hHeld => ?_)
              clear hK K
              try simp only [Act.put, lq0, lq1, lq2, lq3, lq4, lq5]
              refine wpAnyH_ready (rs := [2]) (by kernel_rfl) (by simp) ?_
              refine AllReadyH.cons rfl (fun K hK => ?_) AllReadyH.nil
              go_simp
              go_at_call 66
              refine (copied_any q qa qc _ CQ.out.1 (by have := CQ.out.2; omega)).mono ?_
              rintro e v8 ⟨ta, tc, rfl, ho, b8⟩
              have HO := Lib.hid (own_mono ho (show w.heap.size ≤ _ from CS.out.bel.size))
              replace CS := Lib.hid (CS.out.below b8)
              replace CT := Lib.hid (below_blk b8 CT.out)
              clear ho b8 CQ
              dsimp only
              refine hK.out _ _ CT.out (fun hHeld => ?_)
              clear hK K
              try simp only [Act.put, lq0, lq1, lq2, lq3, lq4, lq5]
              refine wpAnyH_ready (rs := [3]) (by kernel_rfl) (by simp) ?_
              refine AllReadyH.cons rfl (fun K hK => ?_) AllReadyH.nil
              rw [if_pos (by kernel_rfl)]
              refine oper_build_note _ rfl (q) ta tc rfl ?_
              have b9 : Below v8.heap.size v8 (v8.alloc (.cells (noteA q ta tc) 47)) := (Below.refl _ _).alloc (Nat.le_refl _) _
              have CR := Lib.hid (lit_note v8 (q) ta tc)
              replace HO := Lib.hid (own_below HO.out b9)
              replace CS := Lib.hid (CS.out.below b9)
              replace CT := Lib.hid (below_blk b9 CT.out)
              clear b9
              refine hK.out _ _ CT.out (fun hHeld => ?_)
              clear hK K
              try simp only [Act.put, lq0, lq1, lq2, lq3, lq4, lq5]
              refine wpAnyH_ready (rs := [4]) (by kernel_rfl) (by simp) ?_
              refine AllReadyH.cons rfl (fun K hK => ?_) AllReadyH.nil
              obtain ⟨a', c', v9, hrun, ho, hg⟩ := run_app_nt _ w.heap.size a es.length c _ CS.out.own _ 1 1 _ CR.out (NoteV.cells_one _ _ _) (by
                have h1 := congrArg List.length CS.out.evs
                have h2 := CS.out.rng.count
                have h3 := HNn.out
                have h4 : (ks.filterMap (evN f J)).length ≤ ks.length := List.length_filterMap_le _ _
                rw [List.length_map] at h1
                rw [List.length_append] at h2
                omega) CS.out.bel.size
              have HO3 := Lib.hid ho
              have HG3 := Lib.hid hg
              have CL3 := Lib.hid (grown_blk hg CS.out.lst (own_no CS.out.own CS.out.lst (by intro cur; simp)))
              replace CT := Lib.hid (grown_blk hg CT.out (fun e => HP5.out e.symm))
              clear ho hg
              rw [if_pos (by kernel_rfl)]
              refine oper_append _ _ _ rfl _ _ _ rfl rfl hrun ?_
              clear hrun
              refine hK.out _ _ CT.out (fun hHeld => ?_)
              clear hK K
              try simp only [Act.put, lq0, lq1, lq2, lq3, lq4, lq5]
              refine wpAnyH_ready (rs := [5]) (by kernel_rfl) (by simp) ?_
              refine AllReadyH.cons rfl (fun K hK => ?_) AllReadyH.nil
              have hc := cell_of CL3.out 0 (.slice a es.length c) rfl
              have hfz := frozen_of CL3.out 0
              have S9 := Lib.hid (CS.out.app (x := ⟨q, ta, tc⟩) HE.out HO.out HO3.out HG3.out)
              have h5 : some p5 ≠ some pL := fun e => by
                have h1 := CT.out
                rw [Option.some.inj e, CL3.out] at h1
                cases h1
              replace CT := Lib.hid (grown_blk (setCell_grown v9 pL 0 (.slice a' (es.length + 1) c')) CT.out h5)
              go_simp
              refine hK.out _ _ CT.out (fun hHeld => ?_)
              clear hK K
              try simp only [Act.put, lq0, lq1, lq2, lq3, lq4, lq5]
              refine wpAnyH_done (by kernel_rfl) ?_ _
              refine NoPanic.normal ?_
              go_wp2_with fail
              go_roundw
              case rel => exact ⟨_, _, _, _, _, S9⟩
              case measure => rw [S9.out.rng.left_eq, HM.out]; exact HLT.out
            refine AllReadyH.cons rfl (fun K hK => ?_) AllReadyH.nil
            go_simp
            go_at_call 66
            refine (copied_any q qa qc _ CQ.out.1 (by have := CQ.out.2; omega)).mono ?_
            rintro e v8 ⟨ta, tc, rfl, ho, b8⟩
            have HO := Lib.hid (own_mono ho (show w.heap.size ≤ _ from CS.out.bel.size))
            replace CS := Lib.hid (CS.out.below b8)
            replace CT := Lib.hid (below_blk b8 CT.out)
            clear ho b8 CQ
            dsimp only
            refine hK.out _ _ CT.out (fun hHeld => ?_)
            clear hK K
            try simp only [Act.put, lq0, lq1, lq2, lq3, lq4, lq5]
            refine wpAnyH_ready (rs := [0, 3]) (by kernel_rfl) (by simp) ?_
            refine AllReadyH.cons rfl (fun K hK => ?_) ?_
            · have hc := cell_of CS.out.lst 0 (.slice a es.length c) rfl
              go_simp
              clear hc
              refine hK.out _ _ CT.out (fun hHeld => ?_)
              clear hK K
              try simp only [Act.put, lq0, lq1, lq2, lq3, lq4, lq5]
              refine wpAnyH_ready (rs := [3]) (by kernel_rfl) (by simp) ?_
              refine AllReadyH.cons rfl (fun K hK => ?_) AllReadyH.nil
              rw [if_pos (by kernel_rfl)]
              refine oper_build_note _ rfl (q) ta tc rfl ?_
              have b9 : Below v8.heap.size v8 (v8.alloc (.cells (noteA q ta tc) 47)) := (Below.refl _ _).alloc (Nat.le_refl _) _
              have CR := Lib.hid (lit_note v8 (q) ta tc)
              replace HO := Lib.hid (own_below HO.out b9)
              replace CS := Lib.hid (CS.out.below b9)
              replace CT := Lib.hid (below_blk b9 CT.out)
              clear b9
              refine hK.out _ _ CT.out (fun hHeld => ?_)
              clear hK K
              try simp only [Act.put, lq0, lq1, lq2, lq3, lq4, lq5]
              refine wpAnyH_ready (rs := [4]) (by kernel_rfl) (by simp) ?_
              refine AllReadyH.cons rfl (fun K hK => ?_) AllReadyH.nil
              obtain ⟨a', c', v9, hrun, ho, hg⟩ := run_app_nt _ w.heap.size a es.length c _ CS.out.own _ 1 1 _ CR.out (NoteV.cells_one _ _ _) (by
                have h1 := congrArg List.length CS.out.evs
                have h2 := CS.out.rng.count
                have h3 := HNn.out
                have h4 : (ks.filterMap (evN f J)).length ≤ ks.length := List.length_filterMap_le _ _
                rw [List.length_map] at h1
                rw [List.length_append] at h2
                omega) CS.out.bel.size
              have HO3 := Lib.hid ho
              have HG3 := Lib.hid hg
              have CL3 := Lib.hid (grown_blk hg CS.out.lst (own_no CS.out.own CS.out.lst (by intro cur; simp)))
              replace CT := Lib.hid (grown_blk hg CT.out (fun e => HP5.out e.symm))
              clear ho hg
              rw [if_pos (by kernel_rfl)]
              refine oper_append _ _ _ rfl _ _ _ rfl rfl hrun ?_
              clear hrun
              refine hK.out _ _ CT.out (fun hHeld => ?_)
              clear hK K
              try simp only [Act.put, lq0, lq1, lq2, lq3, lq4, lq5]
              refine wpAnyH_ready (rs := [5]) (by kernel_rfl) (by simp) ?_
              refine AllReadyH.cons rfl (fun K hK => ?_) AllReadyH.nil
              have hc := cell_of CL3.out 0 (.slice a es.length c) rfl
              have hfz := frozen_of CL3.out 0
              have S9 := Lib.hid (CS.out.app (x := ⟨q, ta, tc⟩) HE.out HO.out HO3.out HG3.out)
              have h5 : some p5 ≠ some pL := fun e => by
                have h1 := CT.out
                rw [Option.some.inj e, CL3.out] at h1
                cases h1
              replace CT := Lib.hid (grown_blk (setCell_grown v9 pL 0 (.slice a' (es.length + 1) c')) CT.out h5)
              go_simp
              refine hK.out _ _ CT.out (fun hHeld => ?_)
              clear hK K
              try simp only [Act.put, lq0, lq1, lq2, lq3, lq4, lq5]
              refine wpAnyH_done (by kernel_rfl) ?_ _
              refine NoPanic.normal ?_
              go_wp2_with fail
              go_roundw
              case rel => exact ⟨_, _, _, _, _, S9⟩
              case measure => rw [S9.out.rng.left_eq, HM.out]; exact HLT.out
            refine AllReadyH.cons rfl (fun K hK => ?_) AllReadyH.nil
            rw [if_pos (by kernel_rfl)]
            refine oper_build_note _ rfl (q) ta tc rfl ?_
            have b9 : Below v8.heap.size v8 (v8.alloc (.cells (noteA q ta tc) 47)) := (Below.refl _ _).alloc (Nat.le_refl _) _
            have CR := Lib.hid (lit_note v8 (q) ta tc)
            replace HO := Lib.hid (own_below HO.out b9)
            replace CS := Lib.hid (CS.out.below b9)
            replace CT := Lib.hid (below_blk b9 CT.out)
            clear b9
            refine hK.out _ _ CT.out (fun hHeld => ?_)
            clear hK K
            try simp only [Act.put, lq0, lq1, lq2, lq3, lq4, lq5]
            refine wpAnyH_ready (rs := [0]) (by kernel_rfl) (by simp) ?_
            refine AllReadyH.cons rfl (fun K hK => ?_) AllReadyH.nil
            have hc := cell_of CS.out.lst 0 (.slice a es.length c) rfl
            go_simp
            clear hc
            refine hK.out _ _ CT.out (fun hHeld => ?_)
            clear hK K
            try simp only [Act.put, lq0, lq1, lq2, lq3, lq4, lq5]
            refine wpAnyH_ready (rs := [4]) (by kernel_rfl) (by simp) ?_
            refine AllReadyH.cons rfl (fun K hK => ?_) AllReadyH.nil
            obtain ⟨a', c', v9, hrun, ho, hg⟩ := run_app_nt _ w.heap.size a es.length c _ CS.out.own _ 1 1 _ CR.out (NoteV.cells_one _ _ _) (by
              have h1 := congrArg List.length CS.out.evs
              have h2 := CS.out.rng.count
              have h3 := HNn.out
              have h4 : (ks.filterMap (evN f J)).length ≤ ks.length := List.length_filterMap_le _ _
              rw [List.length_map] at h1
              rw [List.length_append] at h2
              omega) CS.out.bel.size
            have HO3 := Lib.hid ho
            have HG3 := Lib.hid hg
            have CL3 := Lib.hid (grown_blk hg CS.out.lst (own_no CS.out.own CS.out.lst (by intro cur; simp)))
            replace CT := Lib.hid (grown_blk hg CT.out (fun e => HP5.out e.symm))
            clear ho hg
            rw [if_pos (by kernel_rfl)]
            refine oper_append _ _ _ rfl _ _ _ rfl rfl hrun ?_
            clear hrun
            refine hK.out _ _ CT.out (fun hHeld => ?_)
            clear hK K
            try simp only [Act.put, lq0, lq1, lq2, lq3, lq4, lq5]
            refine wpAnyH_ready (rs := [5]) (by kernel_rfl) (by simp) ?_
            refine AllReadyH.cons rfl (fun K hK => ?_) AllReadyH.nil
            have hc := cell_of CL3.out 0 (.slice a es.length c) rfl
            have hfz := frozen_of CL3.out 0
            have S9 := Lib.hid (CS.out.app (x := ⟨q, ta, tc⟩) HE.out HO.out HO3.out HG3.out)
            have h5 : some p5 ≠ some pL := fun e => by
              have h1 := CT.out
              rw [Option.some.inj e, CL3.out] at h1
              cases h1
            replace CT := Lib.hid (grown_blk (setCell_grown v9 pL 0 (.slice a' (es.length + 1) c')) CT.out h5)
            go_simp
            refine hK.out _ _ CT.out (fun hHeld => ?_)
            clear hK K
            try simp only [Act.put, lq0, lq1, lq2, lq3, lq4, lq5]
            refine wpAnyH_done (by kernel_rfl) ?_ _
            refine NoPanic.normal ?_
            go_wp2_with fail
            go_roundw
            case rel => exact ⟨_, _, _, _, _, S9⟩
            case measure => rw [S9.out.rng.left_eq, HM.out]; exact HLT.out
end
end Go.Proofs.YtlnhppgfhkkidaaGreat
namespace Go.Proofs.YtlnhppgfhkkidaaGreat
set_option linter.unusedSimpArgs false
open Go.RowKit

def evCells (l : List EvV) : List Value := (l.map EvV.cells).flatten
theorem evCells_snoc (l : List EvV) (e : EvV) : evCells (l ++ [e]) = evCells l ++ e.cells := by simp [evCells]
theorem run_build_ev1 (w : World) (b0 b1 a0 a1 a2 a3 a4 a5 a6 a7 a8 a9 a10 a11 a12 a13 a14 a15 a16 a17 a18 : Value) :
    (Instr.buildSlice 74 1 #[(0, .agg #[b0, b1, a0, a1, a2, a3, a4, a5, a6, a7, a8, a9, a10, a11, a12, a13, a14, a15, a16, a17, a18])]).run Tryz.prog w = .ok (.slice (some ⟨w.heap.size, 0, none⟩) 1 1) (w.alloc (.cells #[b0, b1, a0, a1, a2, a3, a4, a5, a6, a7, a8, a9, a10, a11, a12, a13, a14, a15, a16, a17, a18] 210)) := by
  kernel_rfl
theorem run_build_ev (w : World) (e : EvV) : (Instr.buildSlice 74 1 #[(0, .agg (evA e))]).run Tryz.prog w = .ok (.slice (some ⟨w.heap.size, 0, none⟩) 1 1) (w.alloc (.cells (evA e) 210)) := run_build_ev1 w ..
theorem oper_build_ev {op : Oper} {a : Act} {w : World} {K : Act → World → Prop} {Q : Exit → Act → World → Prop} (x : Operand) (ho : op.op = .buildSlice 74 1 #[(0, x)]) (e : EvV) (hx : a.eval x = .agg (evA e))
    (h : K (a.put op.dst (.slice (some ⟨w.heap.size, 0, none⟩) 1 1)) (w.alloc (.cells (evA e) 210))) : op.wp Tryz.prog a w K Q := by
  have e1 := run_build_ev w e
  unfold Oper.wp execOp
  simp [ho, hx, e1, Result.andThen]
  exact h
theorem infoEv : (Tryz.prog.info? 210).map (fun i => (i.zero, i.size, i.bytes)) = some (some (.agg (evA ⟨(0, 0), ⟨zeroN, none, 0⟩⟩)), 21, 184) := by kernel_rfl
theorem run_app_ev (w : World) (base : Nat) (sa : Option Addr) (sn sc : Nat) (xs : List Value) (hown : w.ownsRow base 210 21 (.slice sa sn sc) sn xs) (xa : Option Addr) (m xc : Nat) (ys : List Value) (hrd : RdA w 21 xa m xc ys) (h1 : ∀ u ∈ ys, u.oneCell' = true)
    (hbytes : (sn + m) * 184 ≤ 140737488355328) (hbase : base ≤ w.heap.size) :
    ∃ a' c' w', (Builtin.append_ #[74, 74] 74 #[.slice sa sn sc, .slice xa m xc]).run Tryz.prog w = .ok (.slice a' (sn + m) c') w' ∧ w'.ownsRow base 210 21 (.slice a' (sn + m) c') (sn + m) (xs ++ ys) ∧ w.grownBy w' (Value.ownBlock (.slice sa sn sc)) ∧ (a' = sa ∨ a' = some ⟨w.heap.size, 0, none⟩) := by
  obtain ⟨i, hi, hz0, hz1, hz2⟩ := info_parts infoEv
  obtain ⟨a', c', w', h2, h3, h4⟩ := run_append_rd w base 74 74 210 i _ 21 184 Tryz.underlying74 hi hz0 hz1 hz2 rfl (by decide) sa sn sc xs hown xa m xc ys hrd h1 (by unfold maxLen; omega) hbytes hbase
  have hloc := run_append_loc (P := Tryz.prog) w base 74 74 210 i _ 21 184 Tryz.underlying74 hi hz0 hz1 hz2 sa sn sc xs hown xa m xc ys hrd h1 (by unfold maxLen; omega) hbytes _ _ h2
  refine ⟨a', c', w', h2, h3, h4, ?_⟩
  rcases hloc with ⟨n', c'', h⟩ | ⟨n', c'', h⟩
  · simp only [Value.slice.injEq] at h; exact .inl h.1
  · simp only [Value.slice.injEq] at h; exact .inr h.1
theorem lit_ev (W : World) (e : EvV) : RdA (W.alloc (.cells (evA e) 210)) 21 (some ⟨W.heap.size, 0, none⟩) 1 1 e.cells :=
  RdA.of_own (World.ownsRow_lit (base := W.heap.size) (e := 210) (size := 21) W (evA e) 1 (Nat.le_refl _) (by unfold maxLen; omega) rfl)

structure RegAt (base : Nat) (W : World) (p : Nat) (ha : Option Addr) (hc : Nat) (ea : Option Addr) (ec : Nat) (ca : Option Addr) (cc : Nat) (hs es : List EvV) (cs : List Nm) : Prop where
  blk : W.heap[p]? = some (.cells #[.slice ha hs.length hc, .slice ea es.length ec, .slice ca cs.length cc] 77 (0, 0))
  hown : W.ownsRow base 210 21 (.slice ha hs.length hc) hs.length (evCells hs)
  eown : W.ownsRow base 210 21 (.slice ea es.length ec) es.length (evCells es)
  cown : W.ownsRow base 45 2 (.slice ca cs.length cc) cs.length (nmCells cs)
  dis : Value.ownBlock (.slice ha hs.length hc) = none ∨ Value.ownBlock (.slice ha hs.length hc) ≠ Value.ownBlock (.slice ea es.length ec)
section
variable {base : Nat} {W W' : World} {p : Nat} {ha : Option Addr} {hc : Nat} {ea : Option Addr} {ec : Nat} {ca : Option Addr} {cc : Nat} {hs es : List EvV} {cs : List Nm}
theorem RegAt.below (h : RegAt base W p ha hc ea ec ca cc hs es cs) (hb : Below W.heap.size W W') : RegAt base W' p ha hc ea ec ca cc hs es cs :=
  ⟨below_blk hb h.blk, own_below h.hown hb, own_below h.eown hb, own_below h.cown hb, h.dis⟩
theorem RegAt.lt (h : RegAt base W p ha hc ea ec ca cc hs es cs) : p < W.heap.size := blk_lt h.blk
theorem RegAt.addE {e : EvV} {a' : Option Addr} {c' : Nat} (h : RegAt base W p ha hc ea ec ca cc hs es cs) (ho : W'.ownsRow base 210 21 (.slice a' (es.length + 1) c') (es.length + 1) (evCells es ++ e.cells)) (hg : W.grownBy W' (Value.ownBlock (.slice ea es.length ec))) (hl : a' = ea ∨ a' = some ⟨W.heap.size, 0, none⟩) :
    RegAt base (W'.setCell ⟨p, 1, none⟩ (.slice a' (es.length + 1) c')) p ha hc a' c' ca cc hs (es ++ [e]) cs ∧ Same (fun k => k = p ∨ Value.ownBlock (.slice ea es.length ec) = some k) W (W'.setCell ⟨p, 1, none⟩ (.slice a' (es.length + 1) c')) := by
  have hb2 := grown_blk hg h.blk (own_no h.eown h.blk (by intro cur; simp))
  have G := setCell_grown W' p 1 (.slice a' (es.length + 1) c')
  refine ⟨⟨?_, ?_, ?_, ?_, ?_⟩, (Same.of_grown hg (fun k e => .inr e)).trans (Same.of_grown G (fun k e => by cases e; exact .inl rfl))⟩
  · rw [setCell_at hb2 1 (.slice a' (es.length + 1) c'), List.length_append]; rfl
  · have h1 := h.hown.kept hg h.dis
    exact h1.kept G (.inr (own_no h1 hb2 (by intro cur; simp)).symm)
  · rw [evCells_snoc, List.length_append]
    exact ho.kept G (.inr (own_no ho hb2 (by intro cur; simp)).symm)
  · have h1 := h.cown.kept hg (own_apart h.cown h.eown (by decide))
    exact h1.kept G (.inr (own_no h1 hb2 (by intro cur; simp)).symm)
  · rw [List.length_append]
    rcases hl with rfl | rfl
    · rcases h.dis with hd | hd
      · exact .inl hd
      · exact .inr (by cases a' <;> exact hd)
    · cases hq : Value.ownBlock (.slice ha hs.length hc) with
      | none => exact .inl rfl
      | some k =>
        have := (h.hown.lt k hq).2
        exact .inr (by simp only [Value.ownBlock, ne_eq, Option.some.injEq]; omega)
theorem RegAt.addH {e : EvV} {a' : Option Addr} {c' : Nat} (h : RegAt base W p ha hc ea ec ca cc hs es cs) (ho : W'.ownsRow base 210 21 (.slice a' (hs.length + 1) c') (hs.length + 1) (evCells hs ++ e.cells)) (hg : W.grownBy W' (Value.ownBlock (.slice ha hs.length hc))) (hl : a' = ha ∨ a' = some ⟨W.heap.size, 0, none⟩) :
    RegAt base (W'.setCell ⟨p, 0, none⟩ (.slice a' (hs.length + 1) c')) p a' c' ea ec ca cc (hs ++ [e]) es cs ∧ Same (fun k => k = p ∨ Value.ownBlock (.slice ha hs.length hc) = some k) W (W'.setCell ⟨p, 0, none⟩ (.slice a' (hs.length + 1) c')) := by
  have hb2 := grown_blk hg h.blk (own_no h.hown h.blk (by intro cur; simp))
  have G := setCell_grown W' p 0 (.slice a' (hs.length + 1) c')
  have hd2 : Value.ownBlock (.slice ea es.length ec) = none ∨ Value.ownBlock (.slice ea es.length ec) ≠ Value.ownBlock (.slice ha hs.length hc) := by
    rcases h.dis with hd | hd
    · cases hq : Value.ownBlock (.slice ea es.length ec) with
      | none => exact .inl rfl
      | some k => exact .inr (by rw [hd]; simp)
    · exact .inr (fun e => hd e.symm)
  refine ⟨⟨?_, ?_, ?_, ?_, ?_⟩, (Same.of_grown hg (fun k e => .inr e)).trans (Same.of_grown G (fun k e => by cases e; exact .inl rfl))⟩
  · rw [setCell_at hb2 0 (.slice a' (hs.length + 1) c'), List.length_append]; rfl
  · rw [evCells_snoc, List.length_append]
    exact ho.kept G (.inr (own_no ho hb2 (by intro cur; simp)).symm)
  · have h1 := h.eown.kept hg hd2
    exact h1.kept G (.inr (own_no h1 hb2 (by intro cur; simp)).symm)
  · have h1 := h.cown.kept hg (own_apart h.cown h.hown (by decide))
    exact h1.kept G (.inr (own_no h1 hb2 (by intro cur; simp)).symm)
  · rw [List.length_append]
    rcases hl with rfl | rfl
    · rcases h.dis with hd | hd
      · exact .inl (by cases a' <;> exact hd)
      · exact .inr (by cases a' <;> exact hd)
    · refine .inr (fun e => ?_)
      have := (h.eown.lt W.heap.size e.symm).2
      omega
end
set_option maxHeartbeats 8000000 in
set_option maxRecDepth 100000 in
theorem add_any (e : EvV) (base : Nat) (p : Nat) (ha : Option Addr) (hc : Nat) (ea : Option Addr) (ec : Nat) (ca : Option Addr) (cc : Nat) (hs es : List EvV) (cs : List Nm) (W : World) (h : RegAt base W p ha hc ea ec ca cc hs es cs) (hbase : base ≤ W.heap.size) (hsz : es.length ≤ 1000000) :
    Calls Tryz.prog 216 #[.pointer (some ⟨p, 0, none⟩), .agg (evA e)] W fun r W' => r = .returned (.bool true) ∧ ∃ a' c', RegAt base W' p ha hc a' c' ca cc hs (es ++ [e]) cs ∧ Same (fun k => k = p ∨ Value.ownBlock (.slice ea es.length ec) = some k) W W' := by
  have I21 := Lib.hid (show ∀ (x : EvV), (Tryz.prog.info? 210).map (·.size) = some (evA x).size from fun x => by kernel_rfl)
  have B1 := Lib.hid ((Below.refl W.heap.size W).alloc (Nat.le_refl _) (.cells (evA e) 210))
  have CT := Lib.hid (heap_last W (.cells (evA e) 210))
  have R1 := Lib.hid (h.below B1.out)
  have R0 := Lib.hid h
  have HB1 : Hid (base ≤ (W.alloc (.cells (evA e) 210)).heap.size) := Lib.hid (Nat.le_trans hbase B1.out.size)
  have HS := Lib.hid hsz
  clear h hbase hsz
  go_enter Tryz.func216, Tryz.ntmps216
  go_upto_region 1 with fail
  obtain ⟨p3, hp3⟩ : ∃ p3, Hid (W.heap.size = p3) := ⟨_, Lib.hid rfl⟩
  have HNE := Lib.hid (show Value.ownBlock (.slice ea es.length ec) ≠ some p3 from fun e2 => by have h1 := (R0.out.eown.lt p3 e2).2; have h2 := hp3.out; omega)
  rw [hp3.out] at CT ⊢
  generalize W.alloc (.cells (evA e) 210) = W1 at *
  refine wp_region_noPanic ?_
  refine wp_region_held_drew (S := fun w' => w'.heap[p3]? = some (.cells (evA e) 210 (0, 0))) (by kernel_rfl) (show W1.drew.heap[p3]? = _ from CT.out) (fun hHeld => ?_)
  have B2 := Lib.hid (B1.out.trans ((Below.refl W1.heap.size W1).drew.mono B1.out.size))
  have R2 := Lib.hid (R1.out.below ((Below.refl W1.heap.size W1).drew))
  have HB2 : Hid (base ≤ W1.drew.heap.size) := HB1
  replace CT := Lib.hid (show W1.drew.heap[p3]? = _ from CT.out)
  clear R1 B1 HB1
  generalize W1.drew = V at *
  refine wpAnyH_take (i := 0) (v := .pointer (some ⟨p, 0, none⟩)) rfl (by kernel_rfl) (by kernel_rfl) (by kernel_rfl) (fun _ _ _ h => h) (Or.inl ⟨by kernel_rfl, by intro W _; go_simp⟩) (by assumption) ?_
  try simp only [Act.put, lq0, lq1, lq2, lq3, lq4, lq5]
  refine wpAnyH_take (i := 1) (v := .pointer (some ⟨p, 0, none⟩)) rfl (by kernel_rfl) (by kernel_rfl) (by kernel_rfl) (fun _ _ _ h => h) (Or.inl ⟨by kernel_rfl, by intro W _; go_simp⟩) (by assumption) ?_
  try simp only [Act.put, lq0, lq1, lq2, lq3, lq4, lq5]
  refine wpAnyH_take (i := 2) (v := .pointer (some ⟨p, 0, none⟩)) rfl (by kernel_rfl) (by kernel_rfl) (by kernel_rfl) (fun _ _ _ h => h) (Or.inl ⟨by kernel_rfl, by intro W _; go_simp⟩) (by assumption) ?_
  try simp only [Act.put, lq0, lq1, lq2, lq3, lq4, lq5]
  refine wpAnyH_take (i := 3) (v := .pointer (some ⟨p, 1, none⟩)) rfl (by kernel_rfl) (by kernel_rfl) (by kernel_rfl) (fun _ _ _ h => h) (Or.inl ⟨by kernel_rfl, by intro W _; go_simp⟩) (by assumption) ?_
  try simp only [Act.put, lq0, lq1, lq2, lq3, lq4, lq5]
  refine wpAnyH_take (i := 5) (v := .agg (evA e)) rfl (by kernel_rfl) (by kernel_rfl) (by kernel_rfl) (fun _ _ _ h => h) (yields_row (by kernel_rfl) 210 _ rfl p3 rfl _ 210 (0, 0) _ (fun W h => h) Tryz.underlying210 rfl (I21.out _)) (by assumption) ?_
  try simp only [Act.put, lq0, lq1, lq2, lq3, lq4, lq5]
  refine wpAnyH_ready (rs := [4, 6]) (by kernel_rfl) (by simp) ?_
  refine AllReadyH.cons rfl (fun K hK => ?_) ?_
  · have hcl := cell_of R2.out.blk 1 (.slice ea es.length ec) rfl
    go_simp
    clear hcl
    refine hK.out _ _ CT.out (fun hHeld => ?_)
    clear hK K
    try simp only [Act.put, lq0, lq1, lq2, lq3, lq4, lq5]
    refine wpAnyH_ready (rs := [6]) (by kernel_rfl) (by simp) ?_
    refine AllReadyH.cons rfl (fun K hK => ?_) AllReadyH.nil
    rw [if_pos (by kernel_rfl)]
    refine oper_build_ev _ rfl e rfl ?_
    have b9 : Below V.heap.size V (V.alloc (.cells (evA e) 210)) := (Below.refl _ _).alloc (Nat.le_refl _) _
    have CR := Lib.hid (lit_ev V e)
    replace B2 := Lib.hid (B2.out.trans (b9.mono B2.out.size))
    replace R2 := Lib.hid (R2.out.below b9)
    replace HB2 := Lib.hid (Nat.le_trans HB2.out b9.size)
    replace CT := Lib.hid (below_blk b9 CT.out)
    clear b9
    generalize V.alloc (.cells (evA e) 210) = V2 at *
    refine hK.out _ _ CT.out (fun hHeld => ?_)
    clear hK K
    try simp only [Act.put, lq0, lq1, lq2, lq3, lq4, lq5]
    refine wpAnyH_ready (rs := [7]) (by kernel_rfl) (by simp) ?_
    refine AllReadyH.cons rfl (fun K hK => ?_) AllReadyH.nil
    obtain ⟨a', c', v9, hrun, ho, hg, hl⟩ := run_app_ev _ base ea es.length ec _ R2.out.eown _ 1 1 _ CR.out (evA_one e) (by have := HS.out; omega) HB2.out
    have HN := Lib.hid (R2.out.addE ho hg hl)
    have CL3 := Lib.hid (grown_blk hg R2.out.blk (own_no R2.out.eown R2.out.blk (by intro cur; simp)))
    replace CT : Hid (v9.heap[p3]? = some (.cells (evA e) 210 (0, 0))) := Lib.hid (grown_blk hg CT.out (fun e2 => HNE.out e2.symm))
    clear ho hg hl
    rw [if_pos (by kernel_rfl)]
    refine oper_append _ _ _ rfl _ _ _ rfl rfl hrun ?_
    clear hrun
    refine hK.out _ _ CT.out (fun hHeld => ?_)
    clear hK K
    try simp only [Act.put, lq0, lq1, lq2, lq3, lq4, lq5]
    refine wpAnyH_take (i := 8) (v := .pointer (some ⟨p, 0, none⟩)) rfl (by kernel_rfl) (by kernel_rfl) (by kernel_rfl) (fun _ _ _ h => h) (Or.inl ⟨by kernel_rfl, by intro W _; go_simp⟩) (by assumption) ?_
    try simp only [Act.put, lq0, lq1, lq2, lq3, lq4, lq5]
    refine wpAnyH_take (i := 9) (v := .pointer (some ⟨p, 1, none⟩)) rfl (by kernel_rfl) (by kernel_rfl) (by kernel_rfl) (fun _ _ _ h => h) (Or.inl ⟨by kernel_rfl, by intro W _; go_simp⟩) (by assumption) ?_
    try simp only [Act.put, lq0, lq1, lq2, lq3, lq4, lq5]
    refine wpAnyH_ready (rs := [10]) (by kernel_rfl) (by simp) ?_
    refine AllReadyH.cons rfl (fun K hK => ?_) AllReadyH.nil
    have hcl := cell_of CL3.out 1 (.slice ea es.length ec) rfl
    have hfz := frozen_of CL3.out 1
    have h5 : some p3 ≠ some p := fun e2 => by
      have h1 := CT.out
      rw [Option.some.inj e2, CL3.out] at h1
      cases h1
    replace CT := Lib.hid (grown_blk (setCell_grown v9 p 1 (.slice a' (es.length + 1) c')) CT.out h5)
    go_simp
    refine hK.out _ _ CT.out (fun hHeld => ?_)
    clear hK K
    try simp only [Act.put, lq0, lq1, lq2, lq3, lq4, lq5]
    refine wpAnyH_done (by kernel_rfl) ?_ _
    refine NoPanic.normal ?_
    go_wp2_with fail
    go_ret
    exact ⟨rfl, a', c', HN.out.1, (Same.of_below B2.out).trans HN.out.2⟩
  refine AllReadyH.cons rfl (fun K hK => ?_) AllReadyH.nil
  rw [if_pos (by kernel_rfl)]
  refine oper_build_ev _ rfl e rfl ?_
  have b9 : Below V.heap.size V (V.alloc (.cells (evA e) 210)) := (Below.refl _ _).alloc (Nat.le_refl _) _
  have CR := Lib.hid (lit_ev V e)
  replace B2 := Lib.hid (B2.out.trans (b9.mono B2.out.size))
  replace R2 := Lib.hid (R2.out.below b9)
  replace HB2 := Lib.hid (Nat.le_trans HB2.out b9.size)
  replace CT := Lib.hid (below_blk b9 CT.out)
  clear b9
  generalize V.alloc (.cells (evA e) 210) = V2 at *
  refine hK.out _ _ CT.out (fun hHeld => ?_)
  clear hK K
  try simp only [Act.put, lq0, lq1, lq2, lq3, lq4, lq5]
  refine wpAnyH_ready (rs := [4]) (by kernel_rfl) (by simp) ?_
  refine AllReadyH.cons rfl (fun K hK => ?_) AllReadyH.nil
  have hcl := cell_of R2.out.blk 1 (.slice ea es.length ec) rfl
  go_simp
  clear hcl
  refine hK.out _ _ CT.out (fun hHeld => ?_)
  clear hK K
  try simp only [Act.put, lq0, lq1, lq2, lq3, lq4, lq5]
  refine wpAnyH_ready (rs := [7]) (by kernel_rfl) (by simp) ?_
  refine AllReadyH.cons rfl (fun K hK => ?_) AllReadyH.nil
  obtain ⟨a', c', v9, hrun, ho, hg, hl⟩ := run_app_ev _ base ea es.length ec _ R2.out.eown _ 1 1 _ CR.out (evA_one e) (by have := HS.out; omega) HB2.out
  have HN := Lib.hid (R2.out.addE ho hg hl)
  have CL3 := Lib.hid (grown_blk hg R2.out.blk (own_no R2.out.eown R2.out.blk (by intro cur; simp)))
  replace CT : Hid (v9.heap[p3]? = some (.cells (evA e) 210 (0, 0))) := Lib.hid (grown_blk hg CT.out (fun e2 => HNE.out e2.symm))
  clear ho hg hl
  rw [if_pos (by kernel_rfl)]
  refine oper_append _ _ _ rfl _ _ _ rfl rfl hrun ?_
  clear hrun
  refine hK.out _ _ CT.out (fun hHeld => ?_)
  clear hK K
  try simp only [Act.put, lq0, lq1, lq2, lq3, lq4, lq5]
  refine wpAnyH_take (i := 8) (v := .pointer (some ⟨p, 0, none⟩)) rfl (by kernel_rfl) (by kernel_rfl) (by kernel_rfl) (fun _ _ _ h => h) (Or.inl ⟨by kernel_rfl, by intro W _; go_simp⟩) (by assumption) ?_
  try simp only [Act.put, lq0, lq1, lq2, lq3, lq4, lq5]
  refine wpAnyH_take (i := 9) (v := .pointer (some ⟨p, 1, none⟩)) rfl (by kernel_rfl) (by kernel_rfl) (by kernel_rfl) (fun _ _ _ h => h) (Or.inl ⟨by kernel_rfl, by intro W _; go_simp⟩) (by assumption) ?_
  try simp only [Act.put, lq0, lq1, lq2, lq3, lq4, lq5]
  refine wpAnyH_ready (rs := [10]) (by kernel_rfl) (by simp) ?_
  refine AllReadyH.cons rfl (fun K hK => ?_) AllReadyH.nil
  have hcl := cell_of CL3.out 1 (.slice ea es.length ec) rfl
  have hfz := frozen_of CL3.out 1
  have h5 : some p3 ≠ some p := fun e2 => by
    have h1 := CT.out
    rw [Option.some.inj e2, CL3.out] at h1
    cases h1
  replace CT := Lib.hid (grown_blk (setCell_grown v9 p 1 (.slice a' (es.length + 1) c')) CT.out h5)
  go_simp
  refine hK.out _ _ CT.out (fun hHeld => ?_)
  clear hK K
  try simp only [Act.put, lq0, lq1, lq2, lq3, lq4, lq5]
  refine wpAnyH_done (by kernel_rfl) ?_ _
  refine NoPanic.normal ?_
  go_wp2_with fail
  go_ret
  exact ⟨rfl, a', c', HN.out.1, (Same.of_below B2.out).trans HN.out.2⟩
theorem add_fn (args : Array Value) (w : World) : (callFunc 216 args).run Tryz.prog w = .ok (.enter 216 args) w := by kernel_rfl
set_option maxHeartbeats 8000000 in
set_option maxRecDepth 100000 in
theorem heapEff_any (e : EvV) (base : Nat) (p : Nat) (ha : Option Addr) (hc : Nat) (ea : Option Addr) (ec : Nat) (ca : Option Addr) (cc : Nat) (hs es : List EvV) (cs : List Nm) (W : World) (h : RegAt base W p ha hc ea ec ca cc hs es cs) (hbase : base ≤ W.heap.size) (hsz : hs.length ≤ 1000000) :
    Calls Tryz.prog 217 #[.pointer (some ⟨p, 0, none⟩), .agg (evA e)] W fun r W' => (hs.length = 8 ∧ r = .returned (.bool false) ∧ Below W.heap.size W W') ∨ (hs.length ≠ 8 ∧ r = .returned (.bool true) ∧ ∃ a' c', RegAt base W' p a' c' ea ec ca cc (hs ++ [e]) es cs ∧ Same (fun k => k = p ∨ Value.ownBlock (.slice ha hs.length hc) = some k) W W') := by
  have I21 := Lib.hid (show ∀ (x : EvV), (Tryz.prog.info? 210).map (·.size) = some (evA x).size from fun x => by kernel_rfl)
  have B1 := Lib.hid ((Below.refl W.heap.size W).alloc (Nat.le_refl _) (.cells (evA e) 210))
  have CT := Lib.hid (heap_last W (.cells (evA e) 210))
  have R1 := Lib.hid (h.below B1.out)
  have R0 := Lib.hid h
  have HB1 : Hid (base ≤ (W.alloc (.cells (evA e) 210)).heap.size) := Lib.hid (Nat.le_trans hbase B1.out.size)
  have HS := Lib.hid hsz
  clear h hbase hsz
  go_enter Tryz.func217, Tryz.ntmps217
  go_upto_region 1 with fail
  obtain ⟨p3, hp3⟩ : ∃ p3, Hid (W.heap.size = p3) := ⟨_, Lib.hid rfl⟩
  have HNE := Lib.hid (show Value.ownBlock (.slice ha hs.length hc) ≠ some p3 from fun e2 => by have h1 := (R0.out.hown.lt p3 e2).2; have h2 := hp3.out; omega)
  rw [hp3.out] at CT ⊢
  generalize W.alloc (.cells (evA e) 210) = W1 at *
  have c0 := cell_of R1.out.blk 0 (.slice ha hs.length hc) rfl
  by_cases h8 : hs.length = 8
  · have t0 : ((hs.length : Int) == 8) = true := by simp; omega
    have H8 := Lib.hid h8; clear h8
    go_wp2_with fail
    go_ret
    exact .inl ⟨H8.out, rfl, B1.out⟩
  · have t0 : ((hs.length : Int) == 8) = false := by simp; omega
    have H8 := Lib.hid h8; clear h8
    go_upto_region 3 with fail
    clear c0 t0
    refine wp_region_noPanic ?_
    refine wp_region_held_drew (S := fun w' => w'.heap[p3]? = some (.cells (evA e) 210 (0, 0))) (by kernel_rfl) (show W1.drew.heap[p3]? = _ from CT.out) (fun hHeld => ?_)
    have B2 := Lib.hid (B1.out.trans ((Below.refl W1.heap.size W1).drew.mono B1.out.size))
    have R2 := Lib.hid (R1.out.below ((Below.refl W1.heap.size W1).drew))
    have HB2 : Hid (base ≤ W1.drew.heap.size) := HB1
    replace CT := Lib.hid (show W1.drew.heap[p3]? = _ from CT.out)
    clear R1 B1 HB1
    generalize W1.drew = V at *
    refine wpAnyH_take (i := 0) (v := .pointer (some ⟨p, 0, none⟩)) rfl (by kernel_rfl) (by kernel_rfl) (by kernel_rfl) (fun _ _ _ h => h) (Or.inl ⟨by kernel_rfl, by intro W _; go_simp⟩) (by assumption) ?_
    try simp only [Act.put, lq0, lq1, lq2, lq3, lq4, lq5]
    refine wpAnyH_take (i := 1) (v := .pointer (some ⟨p, 0, none⟩)) rfl (by kernel_rfl) (by kernel_rfl) (by kernel_rfl) (fun _ _ _ h => h) (Or.inl ⟨by kernel_rfl, by intro W _; go_simp⟩) (by assumption) ?_
    try simp only [Act.put, lq0, lq1, lq2, lq3, lq4, lq5]
    refine wpAnyH_take (i := 2) (v := .pointer (some ⟨p, 0, none⟩)) rfl (by kernel_rfl) (by kernel_rfl) (by kernel_rfl) (fun _ _ _ h => h) (Or.inl ⟨by kernel_rfl, by intro W _; go_simp⟩) (by assumption) ?_
    try simp only [Act.put, lq0, lq1, lq2, lq3, lq4, lq5]
    refine wpAnyH_take (i := 3) (v := .pointer (some ⟨p, 0, none⟩)) rfl (by kernel_rfl) (by kernel_rfl) (by kernel_rfl) (fun _ _ _ h => h) (Or.inl ⟨by kernel_rfl, by intro W _; go_simp⟩) (by assumption) ?_
    try simp only [Act.put, lq0, lq1, lq2, lq3, lq4, lq5]
    refine wpAnyH_take (i := 5) (v := .agg (evA e)) rfl (by kernel_rfl) (by kernel_rfl) (by kernel_rfl) (fun _ _ _ h => h) (yields_row (by kernel_rfl) 210 _ rfl p3 rfl _ 210 (0, 0) _ (fun W h => h) Tryz.underlying210 rfl (I21.out _)) (by assumption) ?_
    try simp only [Act.put, lq0, lq1, lq2, lq3, lq4, lq5]
    refine wpAnyH_ready (rs := [4, 6]) (by kernel_rfl) (by simp) ?_
    refine AllReadyH.cons rfl (fun K hK => ?_) ?_
    · have hcl := cell_of R2.out.blk 0 (.slice ha hs.length hc) rfl
      go_simp
      clear hcl
      refine hK.out _ _ CT.out (fun hHeld => ?_)
      clear hK K
      try simp only [Act.put, lq0, lq1, lq2, lq3, lq4, lq5]
      refine wpAnyH_ready (rs := [6]) (by kernel_rfl) (by simp) ?_
      refine AllReadyH.cons rfl (fun K hK => ?_) AllReadyH.nil
      rw [if_pos (by kernel_rfl)]
      refine oper_build_ev _ rfl e rfl ?_
      have b9 : Below V.heap.size V (V.alloc (.cells (evA e) 210)) := (Below.refl _ _).alloc (Nat.le_refl _) _
      have CR := Lib.hid (lit_ev V e)
      replace B2 := Lib.hid (B2.out.trans (b9.mono B2.out.size))
      replace R2 := Lib.hid (R2.out.below b9)
      replace HB2 := Lib.hid (Nat.le_trans HB2.out b9.size)
      replace CT := Lib.hid (below_blk b9 CT.out)
      clear b9
      generalize V.alloc (.cells (evA e) 210) = V2 at *
      refine hK.out _ _ CT.out (fun hHeld => ?_)
      clear hK K
      try simp only [Act.put, lq0, lq1, lq2, lq3, lq4, lq5]
      refine wpAnyH_ready (rs := [7]) (by kernel_rfl) (by simp) ?_
      refine AllReadyH.cons rfl (fun K hK => ?_) AllReadyH.nil
      obtain ⟨a', c', v9, hrun, ho, hg, hl⟩ := run_app_ev _ base ha hs.length hc _ R2.out.hown _ 1 1 _ CR.out (evA_one e) (by have := HS.out; omega) HB2.out
      have HN := Lib.hid (R2.out.addH ho hg hl)
      have CL3 := Lib.hid (grown_blk hg R2.out.blk (own_no R2.out.hown R2.out.blk (by intro cur; simp)))
      replace CT : Hid (v9.heap[p3]? = some (.cells (evA e) 210 (0, 0))) := Lib.hid (grown_blk hg CT.out (fun e2 => HNE.out e2.symm))
      clear ho hg hl
      rw [if_pos (by kernel_rfl)]
      refine oper_append _ _ _ rfl _ _ _ rfl rfl hrun ?_
      clear hrun
      refine hK.out _ _ CT.out (fun hHeld => ?_)
      clear hK K
      try simp only [Act.put, lq0, lq1, lq2, lq3, lq4, lq5]
      refine wpAnyH_take (i := 8) (v := .pointer (some ⟨p, 0, none⟩)) rfl (by kernel_rfl) (by kernel_rfl) (by kernel_rfl) (fun _ _ _ h => h) (Or.inl ⟨by kernel_rfl, by intro W _; go_simp⟩) (by assumption) ?_
      try simp only [Act.put, lq0, lq1, lq2, lq3, lq4, lq5]
      refine wpAnyH_take (i := 9) (v := .pointer (some ⟨p, 0, none⟩)) rfl (by kernel_rfl) (by kernel_rfl) (by kernel_rfl) (fun _ _ _ h => h) (Or.inl ⟨by kernel_rfl, by intro W _; go_simp⟩) (by assumption) ?_
      try simp only [Act.put, lq0, lq1, lq2, lq3, lq4, lq5]
      refine wpAnyH_ready (rs := [10]) (by kernel_rfl) (by simp) ?_
      refine AllReadyH.cons rfl (fun K hK => ?_) AllReadyH.nil
      have hcl := cell_of CL3.out 0 (.slice ha hs.length hc) rfl
      have hfz := frozen_of CL3.out 0
      have h5 : some p3 ≠ some p := fun e2 => by
        have h1 := CT.out
        rw [Option.some.inj e2, CL3.out] at h1
        cases h1
      replace CT := Lib.hid (grown_blk (setCell_grown v9 p 0 (.slice a' (hs.length + 1) c')) CT.out h5)
      go_simp
      refine hK.out _ _ CT.out (fun hHeld => ?_)
      clear hK K
      try simp only [Act.put, lq0, lq1, lq2, lq3, lq4, lq5]
      refine wpAnyH_done (by kernel_rfl) ?_ _
      refine NoPanic.normal ?_
      go_wp2_with fail
      go_ret
      exact .inr ⟨H8.out, rfl, a', c', HN.out.1, (Same.of_below B2.out).trans HN.out.2⟩
    refine AllReadyH.cons rfl (fun K hK => ?_) AllReadyH.nil
    rw [if_pos (by kernel_rfl)]
    refine oper_build_ev _ rfl e rfl ?_
    have b9 : Below V.heap.size V (V.alloc (.cells (evA e) 210)) := (Below.refl _ _).alloc (Nat.le_refl _) _
    have CR := Lib.hid (lit_ev V e)
    replace B2 := Lib.hid (B2.out.trans (b9.mono B2.out.size))
    replace R2 := Lib.hid (R2.out.below b9)
    replace HB2 := Lib.hid (Nat.le_trans HB2.out b9.size)
    replace CT := Lib.hid (below_blk b9 CT.out)
    clear b9
    generalize V.alloc (.cells (evA e) 210) = V2 at *
    refine hK.out _ _ CT.out (fun hHeld => ?_)
    clear hK K
    try simp only [Act.put, lq0, lq1, lq2, lq3, lq4, lq5]
    refine wpAnyH_ready (rs := [4]) (by kernel_rfl) (by simp) ?_
    refine AllReadyH.cons rfl (fun K hK => ?_) AllReadyH.nil
    have hcl := cell_of R2.out.blk 0 (.slice ha hs.length hc) rfl
    go_simp
    clear hcl
    refine hK.out _ _ CT.out (fun hHeld => ?_)
    clear hK K
    try simp only [Act.put, lq0, lq1, lq2, lq3, lq4, lq5]
    refine wpAnyH_ready (rs := [7]) (by kernel_rfl) (by simp) ?_
    refine AllReadyH.cons rfl (fun K hK => ?_) AllReadyH.nil
    obtain ⟨a', c', v9, hrun, ho, hg, hl⟩ := run_app_ev _ base ha hs.length hc _ R2.out.hown _ 1 1 _ CR.out (evA_one e) (by have := HS.out; omega) HB2.out
    have HN := Lib.hid (R2.out.addH ho hg hl)
    have CL3 := Lib.hid (grown_blk hg R2.out.blk (own_no R2.out.hown R2.out.blk (by intro cur; simp)))
    replace CT : Hid (v9.heap[p3]? = some (.cells (evA e) 210 (0, 0))) := Lib.hid (grown_blk hg CT.out (fun e2 => HNE.out e2.symm))
    clear ho hg hl
    rw [if_pos (by kernel_rfl)]
    refine oper_append _ _ _ rfl _ _ _ rfl rfl hrun ?_
    clear hrun
    refine hK.out _ _ CT.out (fun hHeld => ?_)
    clear hK K
    try simp only [Act.put, lq0, lq1, lq2, lq3, lq4, lq5]
    refine wpAnyH_take (i := 8) (v := .pointer (some ⟨p, 0, none⟩)) rfl (by kernel_rfl) (by kernel_rfl) (by kernel_rfl) (fun _ _ _ h => h) (Or.inl ⟨by kernel_rfl, by intro W _; go_simp⟩) (by assumption) ?_
    try simp only [Act.put, lq0, lq1, lq2, lq3, lq4, lq5]
    refine wpAnyH_take (i := 9) (v := .pointer (some ⟨p, 0, none⟩)) rfl (by kernel_rfl) (by kernel_rfl) (by kernel_rfl) (fun _ _ _ h => h) (Or.inl ⟨by kernel_rfl, by intro W _; go_simp⟩) (by assumption) ?_
    try simp only [Act.put, lq0, lq1, lq2, lq3, lq4, lq5]
    refine wpAnyH_ready (rs := [10]) (by kernel_rfl) (by simp) ?_
    refine AllReadyH.cons rfl (fun K hK => ?_) AllReadyH.nil
    have hcl := cell_of CL3.out 0 (.slice ha hs.length hc) rfl
    have hfz := frozen_of CL3.out 0
    have h5 : some p3 ≠ some p := fun e2 => by
      have h1 := CT.out
      rw [Option.some.inj e2, CL3.out] at h1
      cases h1
    replace CT := Lib.hid (grown_blk (setCell_grown v9 p 0 (.slice a' (hs.length + 1) c')) CT.out h5)
    go_simp
    refine hK.out _ _ CT.out (fun hHeld => ?_)
    clear hK K
    try simp only [Act.put, lq0, lq1, lq2, lq3, lq4, lq5]
    refine wpAnyH_done (by kernel_rfl) ?_ _
    refine NoPanic.normal ?_
    go_wp2_with fail
    go_ret
    exact .inr ⟨H8.out, rfl, a', c', HN.out.1, (Same.of_below B2.out).trans HN.out.2⟩
end Go.Proofs.YtlnhppgfhkkidaaGreat
namespace Go.Proofs.YtlnhppgfhkkidaaGreat
set_option linter.unusedSimpArgs false
open Go.RowKit
open Go.Maps (Keyed)

theorem int_key : Keyed Tryz.prog 3 := Go.Maps.int_keyed Tryz.underlying3
def fAdd : Value := .func (.func 216) #[] #[]
def fHeap : Value := .func (.func 217) #[] #[]
def fPass (q : Nat) : Value := .func (.func 218) #[] #[.pointer (some ⟨q, 0, none⟩)]
def tableD (q : Nat) : DataW Value := ((((DataW.map []).put (.int .i64 1) (.held fHeap)).put (.int .i64 2) (.held (fPass q))).put (.int .i64 3) (.held fAdd)).put (.int .i64 4) (.held fAdd)
def TableAt (W : World) (bT q : Nat) : Prop := W.heap[q]? = some (.cells #[fAdd] 250 (0, 0)) ∧ W.ownsMap Tryz.prog 3 heldR bT 4 (tableD q)
theorem TableAt.of_blocks {W W' : World} {bT q : Nat} (h : TableAt W bT q) (h1 : W'.heap[q]? = W.heap[q]?) (h2 : W'.heap[bT]? = W.heap[bT]?) : TableAt W' bT q := by
  obtain ⟨h3, es, clock, h4, h5⟩ := h
  exact ⟨h1.trans h3, es, clock, h2.trans h4, h5⟩
theorem TableAt.lt {W : World} {bT q : Nat} (h : TableAt W bT q) : q < W.heap.size ∧ bT < W.heap.size := ⟨blk_lt h.1, h.2.lt⟩
theorem TableAt.below {W W' : World} {bT q : Nat} (h : TableAt W bT q) (hb : Below W.heap.size W W') : TableAt W' bT q := h.of_blocks (hb.block q h.lt.1) (hb.block bT h.lt.2)
theorem zero_eff (w : World) : (zeroValue 250).run Tryz.prog w = .ok .nilFunc w := by kernel_rfl
theorem TableAt.look {W : World} {bT q : Nat} (h : TableAt W bT q) (k : Int) (v : Value) (hk : keyOf Tryz.prog 3 (.int .i64 k) = some (.int .i64 k)) (hv : (tableD q).atKey (.int .i64 k) (.held .nilFunc) = .held v) :
    (Instr.lookup 245 (.map (some bT)) (.int .i64 k) false).run Tryz.prog W = .ok v W := by
  obtain ⟨v', ps, h1, h2⟩ := h.2.lookup int_key Tryz.underlying245 (zero_eff W) (zd := .held .nilFunc) (zp := []) rfl hk
  rw [hv] at h2
  simp only [heldR, Option.some.injEq, Prod.mk.injEq, DataW.held.injEq] at h2
  rw [h1, h2.1]
theorem TableAt.at1 {W : World} {bT q : Nat} (h : TableAt W bT q) : (Instr.lookup 245 (.map (some bT)) (.int .i64 1) false).run Tryz.prog W = .ok fHeap W := h.look 1 _ (by kernel_rfl) (by rfl)
theorem TableAt.at2 {W : World} {bT q : Nat} (h : TableAt W bT q) : (Instr.lookup 245 (.map (some bT)) (.int .i64 2) false).run Tryz.prog W = .ok (fPass q) W := h.look 2 _ (by kernel_rfl) (by rfl)
theorem TableAt.at3 {W : World} {bT q : Nat} (h : TableAt W bT q) : (Instr.lookup 245 (.map (some bT)) (.int .i64 3) false).run Tryz.prog W = .ok fAdd W := h.look 3 _ (by kernel_rfl) (by rfl)
theorem TableAt.at4 {W : World} {bT q : Nat} (h : TableAt W bT q) : (Instr.lookup 245 (.map (some bT)) (.int .i64 4) false).run Tryz.prog W = .ok fAdd W := h.look 4 _ (by kernel_rfl) (by rfl)

theorem map_turn {w w' : World} {b p : Nat} {o : Obj} (h : w.mapTurned w' b) (hp : w.heap[p]? = some o) (hne : p ≠ b) : w'.heap[p]? = some o := grown_blk h.grown hp (fun e => hne (Option.some.inj e))
set_option maxHeartbeats 4000000 in
set_option maxRecDepth 100000 in
theorem effects_any (w : World) : Calls Tryz.prog 192 #[] w fun e w' => ∃ bT q, e = .returned (.map (some bT)) ∧ TableAt w' bT q ∧ Below w.heap.size w w' ∧ w.heap.size ≤ q ∧ w.heap.size ≤ bT := by
  have hmf : ∀ (fn : Fn) (first cap : Array Value) (w : World), (Instr.makeFunc fn first cap).run Tryz.prog w = .ok (.func fn first cap) w := fun _ _ _ _ => rfl
  have hmm := @run_makeMap Tryz.prog
  have ht : Tryz.prog.underlying 245 = some (.map 3 250) := Tryz.underlying245
  have q0 := heap_before _ (.map #[] 0) _ _ (heap_last w (.cells #[fAdd] 250))
  have m0 := World.ownsMap_made (w.alloc (.cells #[fAdd] 250)) Tryz.prog 3 heldR
  have b0 : Below w.heap.size w ((w.alloc (.cells #[fAdd] 250)).alloc (.map #[] 0)) := ((Below.refl _ _).alloc (Nat.le_refl _) _).alloc (by simp) _
  have hz : (w.alloc (.cells #[fAdd] 250)).heap.size = w.heap.size + 1 := by simp
  rw [hz] at m0
  obtain ⟨w1, r1, m1, t1⟩ := m0.store int_key ht (by unfold maxLen; omega) (key := .int .i64 1) (kl := .int .i64 1) (by kernel_rfl) (val := fHeap) (d := .held fHeap) (ps := []) rfl
  have q1 := map_turn t1 q0 (by omega)
  obtain ⟨w2, r2, m2, t2⟩ := m1.store int_key ht (by unfold maxLen; omega) (key := .int .i64 2) (kl := .int .i64 2) (by kernel_rfl) (val := fPass w.heap.size) (d := .held (fPass w.heap.size)) (ps := []) rfl
  have q2 := map_turn t2 q1 (by omega)
  obtain ⟨w3, r3, m3, t3⟩ := m2.store int_key ht (by unfold maxLen; omega) (key := .int .i64 3) (kl := .int .i64 3) (by kernel_rfl) (val := fAdd) (d := .held fAdd) (ps := []) rfl
  have q3 := map_turn t3 q2 (by omega)
  obtain ⟨w4, r4, m4, t4⟩ := m3.store int_key ht (by unfold maxLen; omega) (key := .int .i64 4) (kl := .int .i64 4) (by kernel_rfl) (val := fAdd) (d := .held fAdd) (ps := []) rfl
  have q4 := map_turn t4 q3 (by omega)
  have hb : Hid (Below w.heap.size w w4) := Lib.hid (by
    have g : ∀ {a b : World}, Below w.heap.size w a → a.mapTurned b (w.heap.size + 1) → w.heap.size ≤ a.heap.size → Below w.heap.size w b := fun h t hle => h.grown t.grown hle (fun k e => by cases e; omega)
    have h1 := g b0 t1 b0.size
    have h2 := g h1 t2 h1.size
    have h3 := g h2 t3 h2.size
    exact g h3 t4 h3.size)
  have hT : Hid (TableAt w4 (w.heap.size + 1) w.heap.size) := Lib.hid ⟨q4, m4⟩
  have c2 := cell_of q2 0 fAdd rfl
  have c3 := cell_of q3 0 fAdd rfl
  clear q0 q1 q2 q3 q4 m0 m1 m2 m3 m4 t1 t2 t3 t4 b0 hz ht
  unfold fAdd at *
  unfold fHeap fPass at *
  go_enter Tryz.func192, Tryz.ntmps192
  go_wp2_with fail
  go_ret
  exact ⟨_, _, rfl, hT.out, hb.out, Nat.le_refl _, by omega⟩
end Go.Proofs.YtlnhppgfhkkidaaGreat
namespace Go.Proofs.YtlnhppgfhkkidaaGreat
set_option linter.unusedSimpArgs false
open Go.RowKit

structure RegV where
  hs : List EvV
  es : List EvV
  cs : List Nm
def effB (R : RegV) (e : EvV) : Bool := if e.x.n.kind = 1 then decide (R.hs.length ≠ 8) else if e.x.n.kind = 2 then decide (¬ idxI R.hs (isNm e.x.n.refH e.x.n.refN) < 0) else true
def effR (R : RegV) (e : EvV) : RegV := if effB R e = true then (if e.x.n.kind = 1 then { R with hs := R.hs ++ [e] } else { R with es := R.es ++ [e] }) else R
def regStep (day : Int) (R : RegV) (e : EvV) : RegV := if e.x.n.day ≤ day then (if effB R e = true then effR R e else { R with cs := R.cs ++ [e.nm] }) else R
def regOf (day : Int) (l : List EvV) : RegV := l.foldl (regStep day) ⟨[], [], []⟩
theorem regOf_snoc (day : Int) (l : List EvV) (e : EvV) : regOf day (l ++ [e]) = regStep day (regOf day l) e := by simp [regOf, List.foldl_append]
theorem effR_len (R : RegV) (e : EvV) : (effR R e).hs.length + (effR R e).es.length + (effR R e).cs.length ≤ R.hs.length + R.es.length + R.cs.length + 1 := by
  unfold effR; split <;> (try split) <;> simp <;> omega
theorem regStep_len (day : Int) (R : RegV) (e : EvV) : (regStep day R e).hs.length + (regStep day R e).es.length + (regStep day R e).cs.length ≤ R.hs.length + R.es.length + R.cs.length + 1 := by
  unfold regStep
  split
  · split
    · exact effR_len R e
    · simp; omega
  · omega
theorem regFold_len (day : Int) : ∀ (l : List EvV) (R : RegV), (l.foldl (regStep day) R).hs.length + (l.foldl (regStep day) R).es.length + (l.foldl (regStep day) R).cs.length ≤ R.hs.length + R.es.length + R.cs.length + l.length
  | [], R => by simp
  | e :: l, R => by
    have h1 := regFold_len day l (regStep day R e)
    have h2 := regStep_len day R e
    simp only [List.foldl_cons, List.length_cons]
    omega
theorem regOf_len (day : Int) (l : List EvV) : (regOf day l).hs.length + (regOf day l).es.length + (regOf day l).cs.length ≤ l.length := by
  have := regFold_len day l ⟨[], [], []⟩
  simpa [regOf] using this
def RegSt (base : Nat) (W : World) (p : Nat) (R : RegV) : Prop := ∃ ha hc ea ec ca cc, RegAt base W p ha hc ea ec ca cc R.hs R.es R.cs
theorem RegSt.below {base p : Nat} {W W' : World} {R : RegV} (h : RegSt base W p R) (hb : Below W.heap.size W W') : RegSt base W' p R := by
  obtain ⟨ha, hc, ea, ec, ca, cc, h⟩ := h
  exact ⟨ha, hc, ea, ec, ca, cc, h.below hb⟩
abbrev RegW (base p : Nat) : Nat → Prop := fun k => k = p ∨ base ≤ k
theorem RdEs.of_own {W : World} {base : Nat} {a : Option Addr} {c : Nat} {l : List EvV} (h : W.ownsRow base 210 21 (.slice a l.length c) l.length (evCells l)) : RdEs W a l.length c l := by
  have h := RdA.of_own h
  refine ⟨rfl, h.le, h.max, h.2.2.2.imp id ?_⟩
  rintro ⟨b, off, rfl, h4⟩
  refine ⟨b, off, rfl, fun i x hx j v hv => ?_⟩
  have hj : j < 21 := (List.getElem?_eq_some_iff.1 hv).1
  have h5 := flat_at 21 (l.map EvV.cells) (by intro r hr; obtain ⟨y, _, rfl⟩ := List.mem_map.1 hr; rfl) i x.cells (by rw [List.getElem?_map, hx]; rfl) j hj
  have h6 := h4 (i * 21 + j) v (h5.trans hv)
  rwa [← Nat.add_assoc] at h6
end Go.Proofs.YtlnhppgfhkkidaaGreat
namespace Go.Proofs.YtlnhppgfhkkidaaGreat
set_option linter.unusedSimpArgs false
open Go.RowKit

theorem heapOfV_parts (hs : List EvV) (h m : Int) : ∃ i0 e0 : Int, heapOfV hs h m = #[.int .i64 i0, .int .i64 e0] ∧ (idxI hs (isNm h m) < 0 → e0 = 3) ∧ (¬ idxI hs (isNm h m) < 0 → e0 = 0) := by
  unfold heapOfV
  by_cases hlt : idxI hs (isNm h m) < 0
  · exact ⟨0, 3, by rw [if_pos hlt], fun _ => rfl, fun h => absurd hlt h⟩
  · exact ⟨_, 0, by rw [if_neg hlt], fun h => absurd h hlt, fun _ => rfl⟩
set_option maxHeartbeats 8000000 in
set_option maxRecDepth 100000 in
theorem passEff_any (e : EvV) (base : Nat) (p : Nat) (ha : Option Addr) (hc : Nat) (ea : Option Addr) (ec : Nat) (ca : Option Addr) (cc : Nat) (hs es : List EvV) (cs : List Nm) (q : Nat) (W : World) (h : RegAt base W p ha hc ea ec ca cc hs es cs) (hq : W.heap[q]? = some (.cells #[fAdd] 250 (0, 0))) (hbase : base ≤ W.heap.size) (hsz : es.length ≤ 1000000) :
    Calls Tryz.prog 218 #[.pointer (some ⟨p, 0, none⟩), .agg (evA e), .pointer (some ⟨q, 0, none⟩)] W fun r W' => (idxI hs (isNm e.x.n.refH e.x.n.refN) < 0 ∧ r = .returned (.bool false) ∧ Below W.heap.size W W') ∨ (¬ idxI hs (isNm e.x.n.refH e.x.n.refN) < 0 ∧ r = .returned (.bool true) ∧ ∃ a' c', RegAt base W' p ha hc a' c' ca cc hs (es ++ [e]) cs ∧ Same (fun k => k = p ∨ Value.ownBlock (.slice ea es.length ec) = some k) W W') := by
  have I21 := Lib.hid (show ∀ (x : EvV), (Tryz.prog.info? 210).map (·.size) = some (evA x).size from fun x => by kernel_rfl)
  have B1 := Lib.hid ((Below.refl W.heap.size W).alloc (Nat.le_refl _) (.cells (evA e) 210))
  have CT := Lib.hid (heap_last W (.cells (evA e) 210))
  have R1 := Lib.hid (h.below B1.out)
  have Q1 := Lib.hid (below_blk B1.out hq)
  have R0 := Lib.hid h
  have HB1 : Hid (base ≤ (W.alloc (.cells (evA e) 210)).heap.size) := Lib.hid (Nat.le_trans hbase B1.out.size)
  have HS := Lib.hid hsz
  clear h hbase hsz hq
  obtain ⟨i0, e0, hv, hp1, hp2⟩ := heapOfV_parts hs e.x.n.refH e.x.n.refN
  have HV := Lib.hid hv
  have HP1 := Lib.hid hp1
  have HP2 := Lib.hid hp2
  clear hv hp1 hp2
  go_enter Tryz.func218, Tryz.ntmps218
  go_upto_region 1 with fail
  obtain ⟨p3, hp3⟩ : ∃ p3, Hid (W.heap.size = p3) := ⟨_, Lib.hid rfl⟩
  rw [hp3.out] at CT ⊢
  generalize W.alloc (.cells (evA e) 210) = W1 at *
  refine wp_region_noPanic ?_
  refine wp_region_held_drew (S := fun w' => w'.heap[p3]? = some (.cells (evA e) 210 (0, 0)) ∧ w'.heap[p]? = some (.cells #[.slice ha hs.length hc, .slice ea es.length ec, .slice ca cs.length cc] 77 (0, 0))) (by kernel_rfl) (show W1.drew.heap[p3]? = _ ∧ W1.drew.heap[p]? = _ from ⟨CT.out, R1.out.blk⟩) (fun hHeld => ?_)
  have B2 := Lib.hid (B1.out.trans ((Below.refl W1.heap.size W1).drew.mono B1.out.size))
  have R2 := Lib.hid (R1.out.below ((Below.refl W1.heap.size W1).drew))
  have Q2 := Lib.hid (below_blk ((Below.refl W1.heap.size W1).drew) Q1.out)
  have HB2 : Hid (base ≤ W1.drew.heap.size) := HB1
  replace CT := Lib.hid (show W1.drew.heap[p3]? = _ from CT.out)
  clear R1 B1 HB1 Q1
  generalize W1.drew = V at *
  refine wpAnyH_take (i := 0) (v := .pointer (some ⟨p, 0, none⟩)) rfl (by kernel_rfl) (by kernel_rfl) (by kernel_rfl) (fun _ _ _ h => h) (Or.inl ⟨by kernel_rfl, by intro W _; go_simp⟩) (by assumption) ?_
  try simp only [Act.put, lq0, lq1, lq2, lq3, lq4, lq5]
  refine wpAnyH_take (i := 1) (v := .pointer (some ⟨p, 0, none⟩)) rfl (by kernel_rfl) (by kernel_rfl) (by kernel_rfl) (fun _ _ _ h => h) (Or.inl ⟨by kernel_rfl, by intro W _; go_simp⟩) (by assumption) ?_
  try simp only [Act.put, lq0, lq1, lq2, lq3, lq4, lq5]
  refine wpAnyH_take (i := 2) (v := .agg #[.slice ha hs.length hc, .slice ea es.length ec, .slice ca cs.length cc]) rfl (by kernel_rfl) (by kernel_rfl) (by kernel_rfl) (fun _ _ _ h => h) (Or.inl ⟨by kernel_rfl, by intro W h; have h0 := cell_of h.2 0 (.slice ha hs.length hc) rfl; have h1 := cell_of h.2 1 (.slice ea es.length ec) rfl; have h2 := cell_of h.2 2 (.slice ca cs.length cc) rfl; go_simp⟩) (by assumption) ?_
  try simp only [Act.put, lq0, lq1, lq2, lq3, lq4, lq5]
  refine wpAnyH_take (i := 3) (v := .pointer (some ⟨p3, 2, none⟩)) rfl (by kernel_rfl) (by kernel_rfl) (by kernel_rfl) (fun _ _ _ h => h) (Or.inl ⟨by kernel_rfl, by intro W _; go_simp⟩) (by assumption) ?_
  try simp only [Act.put, lq0, lq1, lq2, lq3, lq4, lq5]
  refine wpAnyH_take (i := 4) (v := .pointer (some ⟨p3, 18, none⟩)) rfl (by kernel_rfl) (by kernel_rfl) (by kernel_rfl) (fun _ _ _ h => h) (Or.inl ⟨by kernel_rfl, by intro W _; go_simp⟩) (by assumption) ?_
  try simp only [Act.put, lq0, lq1, lq2, lq3, lq4, lq5]
  refine wpAnyH_take (i := 5) (v := .agg #[.int .i64 e.x.n.refH, .int .i64 e.x.n.refN]) rfl (by kernel_rfl) (by kernel_rfl) (by kernel_rfl) (fun _ _ _ h => h) (Or.inl ⟨by kernel_rfl, by intro W h; have h0 := cell_of h.1 18 (.int .i64 e.x.n.refH) rfl; have h1 := cell_of h.1 19 (.int .i64 e.x.n.refN) rfl; go_simp⟩) (by assumption) ?_
  try simp only [Act.put, lq0, lq1, lq2, lq3, lq4, lq5]
  refine wpAnyH_ready (rs := [6]) (by kernel_rfl) (by simp) ?_
  refine AllReadyH.cons rfl (fun K hK => ?_) AllReadyH.nil
  go_simp
  go_at_call 219
  refine (heapOf_any hs ha hs.length hc _ _ e.x.n.refH e.x.n.refN _ (RdEs.of_own R2.out.hown)).mono ?_
  rintro r W3 ⟨rfl, b3⟩
  rw [HV.out]
  replace B2 := Lib.hid (B2.out.trans (b3.mono B2.out.size))
  replace R2 := Lib.hid (R2.out.below b3)
  replace Q2 := Lib.hid (below_blk b3 Q2.out)
  replace HB2 := Lib.hid (Nat.le_trans HB2.out b3.size)
  replace CT := Lib.hid (below_blk b3 CT.out)
  clear b3
  dsimp only
  refine hK.out _ _ ⟨CT.out, R2.out.blk⟩ (fun hHeld => ?_)
  clear hK K
  try simp only [Act.put, lq0, lq1, lq2, lq3, lq4, lq5]
  refine wpAnyH_take (i := 7) (v := .tuple #[.int .i64 i0, .int .i64 e0]) rfl (by kernel_rfl) (by kernel_rfl) (by kernel_rfl) (fun _ _ _ h => h) (Or.inl ⟨by kernel_rfl, by intro W _; go_simp⟩) (by assumption) ?_
  try simp only [Act.put, lq0, lq1, lq2, lq3, lq4, lq5]
  refine wpAnyH_take (i := 8) (v := .int .i64 i0) rfl (by kernel_rfl) (by kernel_rfl) (by kernel_rfl) (fun _ _ _ h => h) (Or.inl ⟨by kernel_rfl, by intro W _; go_simp⟩) (by assumption) ?_
  try simp only [Act.put, lq0, lq1, lq2, lq3, lq4, lq5]
  refine wpAnyH_take (i := 9) (v := .int .i64 e0) rfl (by kernel_rfl) (by kernel_rfl) (by kernel_rfl) (fun _ _ _ h => h) (Or.inl ⟨by kernel_rfl, by intro W _; go_simp⟩) (by assumption) ?_
  try simp only [Act.put, lq0, lq1, lq2, lq3, lq4, lq5]
  refine wpAnyH_take (i := 10) (v := .int .i64 i0) rfl (by kernel_rfl) (by kernel_rfl) (by kernel_rfl) (fun _ _ _ h => h) (Or.inl ⟨by kernel_rfl, by intro W _; go_simp⟩) (by assumption) ?_
  try simp only [Act.put, lq0, lq1, lq2, lq3, lq4, lq5]
  refine wpAnyH_take (i := 11) (oi := { dst := some 7, op := .assign (.tmp 17), type := _, pos := _, after := _, guard := none }) (v := .int .i64 e0) rfl (by kernel_rfl) (by kernel_rfl) (by kernel_rfl) (fun _ _ _ h => h) (Or.inl ⟨by kernel_rfl, by intro W _; go_simp⟩) (by assumption) ?_
  try simp only [Act.put, lq0, lq1, lq2, lq3, lq4, lq5]
  refine wpAnyH_done (by kernel_rfl) ?_ _
  refine NoPanic.normal ?_
  have cq := cell_of Q2.out 0 fAdd rfl
  unfold fAdd at cq
  by_cases hlt : idxI hs (isNm e.x.n.refH e.x.n.refN) < 0
  · have h3 : e0 = 3 := HP1.out hlt
    subst h3
    have HLT := Lib.hid hlt; clear hlt
    go_wp2_with fail
    go_ret
    exact .inl ⟨HLT.out, rfl, B2.out⟩
  · have h3 : e0 = 0 := HP2.out hlt
    subst h3
    have HLT := Lib.hid hlt; clear hlt
    go_wp2_with (first
      | (go_at_call 216
         refine (add_any e base p ha hc ea ec ca cc hs es cs _ R2.out HB2.out HS.out).mono ?_
         rintro r W5 ⟨rfl, a', c', r5, s5⟩
         have R5 := Lib.hid r5; clear r5
         have S5 := Lib.hid s5; clear s5
         dsimp only)
      | (refine wpList_load_rowG ?hw 210 _ rfl p3 rfl 210 (evA e) (0, 0) _ CT.out Tryz.underlying210 rfl (I21.out _) ?_; case hw => rfl)
      | fail)
    go_ret
    exact .inr ⟨HLT.out, rfl, ⟨a', c', R5.out⟩, (Same.of_below B2.out).trans S5.out⟩
end Go.Proofs.YtlnhppgfhkkidaaGreat
namespace Go.Proofs.YtlnhppgfhkkidaaGreat
open Go.RowKit

def Wide (F : Fence) : Prop := F = Fence.wide ∨ ∃ l, F = Fence.wide.inRound l
theorem Wide.fn {F : Fence} (h : Wide F) (f : FuncId) : F.fn f := by
  rcases h with rfl | ⟨l, rfl⟩ <;> trivial
theorem Wide.depth {F : Fence} (h : Wide F) : F.depth.isSome = true → ∀ {p : Prop}, p := by
  rcases h with rfl | ⟨l, rfl⟩ <;> intro h' <;> simp [Fence.wide] at h'
theorem Wide.calls {F : Fence} (h : Wide F) {n : Nat} {P : Program} {f : FuncId} {args : Array Value} {w : World} {R : Ending → World → Prop} (hc : Calls P f args w R) : CallsIn F n P f args w R := by
  rcases h with rfl | ⟨l, rfl⟩
  · exact callsIn_wide.2 hc
  · exact CallsIn.inRound l (callsIn_wide.2 hc)
theorem Wide.rows {F : Fence} (h : Wide F) {n : Nat} {P : Program} {row : String} {args : Array Value} {w : World} {R : Value → World → Prop} (hc : Rows P row args w R) : RowsIn F n P row args w R := by
  rcases h with rfl | ⟨l, rfl⟩ <;> exact fun c cs _ => let ⟨v, w', r, s⟩ := hc c cs; ⟨v, w', r, stepsIn_wide.2 s⟩
theorem wpIn_of_wp {F : Fence} (hF : Wide F) {n : Nat} {P : Program} {o : Oper} {a : Act} {w : World} {K : Act → World → Prop} {Q : Exit → Act → World → Prop} (hnd : ∀ c, o.op ≠ .defer c) (h : o.wp P a w K Q) : o.wpIn F n P a w K Q := by
  refine ⟨fun f _ => hF.fn f, ?_⟩
  rw [Oper.semAt_plain F _ _ hnd]
  unfold Oper.wp at h
  generalize (execOp a.eval o).run P w = r at h
  unfold Oper.upon at h
  unfold Oper.uponIn
  cases r with
  | ok v w' =>
    cases v with
    | enter f args => exact ⟨fun h' => hF.depth h', hF.calls h⟩
    | row r args => exact ⟨fun h' => hF.depth h', hF.rows h⟩
    | round _ _ _ _ _ => exact (show False from h).elim
    | _ => exact h
  | halt s w' => cases s <;> exact h
def noDefer (l : List Oper) : Bool := l.all fun o => match o.op with | .defer _ => false | _ => true
theorem noDefer_at {l : List Oper} (h : noDefer l = true) {o : Oper} (ho : o ∈ l) : ∀ c, o.op ≠ .defer c := fun c e => by
  have := List.all_eq_true.1 h o ho
  rw [e] at this
  cases this
theorem wpListIn_of_wpList {F : Fence} (hF : Wide F) {n : Nat} {P : Program} {ops : Array Oper} {Q : Exit → Act → World → Prop} (hQ : ¬ LetsOut Q) : ∀ (l : List Oper) (a : Act) (w : World), noDefer l = true → wpList P ops Q l a w → wpListIn F n P ops Q l a w
  | [], a, w, _, h => h
  | o :: l, a, w, hnd, h => by
    have h1 : ∀ c, o.op ≠ .defer c := noDefer_at hnd (List.mem_cons_self ..)
    have h2 : noDefer l = true := (Bool.and_eq_true_iff.1 hnd).2
    unfold wpList at h
    unfold wpListIn
    split at h
    · rename_i hw
      rw [if_pos hw]
      rcases h with h | h
      · exact wpIn_of_wp hF h1 (Oper.wp_mono (fun a w hk => wpListIn_of_wpList hF hQ l a w h2 hk) h)
      · exact (hQ h.2).elim
    · rename_i hw
      rw [if_neg hw]
      exact ⟨fun f _ => hF.fn f, wpListIn_of_wpList hF hQ l _ w h2 h⟩
theorem wpIn_region_plain {F : Fence} (hF : Wide F) {n : Nat} {P : Program} {id : Nat} {l : List Oper} {a : Act} {w : World} {Q : Exit → Act → World → Prop} (hQ : ¬ LetsOut Q) (hnd : noDefer l = true) (h : wpList P l.toArray Q l a w) : (Code.region id l.toArray false).wpIn F n P Q a w :=
  wpIn_region_lit (wpListIn_of_wpList hF hQ l a w hnd h)
section
variable {P : Program} {σ : Type} {n : Nat} {g : Operand} {ps : Array Tmp} {assign body : Code} {Q : Exit → Act → World → Prop} {a : Act} {w : World}
theorem wp_range_own2
    {gf : Nat} {lb : Array Value} (hg : a.eval g = .func (.func gf) #[] lb) (eg : ∀ args w, (callFunc gf args).run P w = .ok (.enter gf args) w)
    (encs : σ → Array Value) (hps : ∀ x, (encs x).size = ps.size)
    (A B : σ → World → Prop) (A' : σ → Act → World → Prop) (Done : World → Prop)
    (hA' : ∀ s a W o, A' s a W → (∃ r, W.heap[w.heap.size + 1]? = some (.loop r)) → A' s a (W.putObj (w.heap.size + 1) (.loop o)))
    (hB : ∀ s W o, B s W → (∃ r, W.heap[w.heap.size + 1]? = some (.loop r)) → B s (W.putObj (w.heap.size + 1) (.loop o)))
    (hDone : ∀ W o, Done W → (∃ r, W.heap[w.heap.size + 1]? = some (.loop r)) → Done (W.putObj (w.heap.size + 1) (.loop o)))
    (hassign : ∀ (s : σ) (W : World), A s W →
      assign.wpIn (Fence.wide.inRound (w.heap.size + 1)) (n - 1) P (Exit.then (fun a₁ W₁ => KeepsFrom w.heap.size W W₁ ∧ A' s a₁ W₁) (fun _ _ _ => False)) { tmps := (ps.zip (encs s)).foldl (fun t (p, v) => t.setIfInBounds p v) a.tmps, defers := [] } W)
    (hbody : ∀ (s : σ) (a₁ : Act) (W : World), A' s a₁ W → body.wpIn (Fence.wide.inRound (w.heap.size + 1)) (n - 1) P (roundEnd w.heap.size (B s) (fun _ _ => False) W) a₁ W)
    (hiter : ∀ (rec : LoopState → Option Code → Loop),
      LoopAt rec w.heap.size .ready none ((w.alloc (.deferred (some []))).alloc (.loop (rec .ready none))) →
      (∀ s W, A s W → LoopAt rec w.heap.size .ready none W → YieldAt Fence.wide (n - 1) P (w.heap.size + 1) (encs s) W fun e W' =>
        e = .returned (.bool true) ∧ B s W' ∧ LoopAt rec w.heap.size .ready none W') →
      CallsIn Fence.wide n P gf (#[.func (.yield (w.heap.size + 1)) #[] #[]] ++ lb) ((w.alloc (.deferred (some []))).alloc (.loop (rec .ready none))) fun e W' =>
        (∃ v, e = .returned v) ∧ Done W' ∧ LoopAt rec w.heap.size .ready none W')
    (hdone : ∀ (W : World), Done W → W.heap[w.heap.size]? = some (.deferred (some [])) → Q .normal { a with defers := { target := .collected w.heap.size, args := #[] } :: a.defers } W) :
    (Code.rangeFunc g ps assign body).wpIn Fence.wide (n + 1) P Q a w := by
  refine wpIn_rangeFunc ?_
  intro fn hfn
  obtain ⟨rec, hrec⟩ : ∃ rec : LoopState → Option Code → Loop, rec = fun st pe => { state := st, pending := pe, fn, tmps := a.tmps, params := ps, assign, body, defers := w.heap.size } := ⟨_, rfl⟩
  have hnew : LoopAt rec w.heap.size .ready none ((w.alloc (.deferred (some []))).alloc (.loop (rec .ready none))) := by
    refine ⟨?_, (Below.heap_alloc _ _ _ (by simp)).trans (World.alloc_heap_new w _)⟩
    have := World.alloc_heap_new (w.alloc (.deferred (some []))) (.loop (rec .ready none))
    rwa [World.size_alloc] at this
  have hput : ∀ (W : World) (st st' : LoopState) (pe pe' : Option Code), LoopAt rec w.heap.size st pe W → LoopAt rec w.heap.size st' pe' (W.putObj (w.heap.size + 1) (.loop (rec st' pe'))) :=
    fun W st st' pe pe' h => ⟨World.putObj_heap_same (Array.getElem?_eq_some_iff.1 h.1).1, (World.putObj_heap_other (by omega)).trans h.2⟩
  refine ⟨w.heap.size + 1, [{ target := .collected w.heap.size, args := #[] }], (w.alloc (.deferred (some []))).alloc (.loop (rec .ready none)), { target := .fn (.func gf) lb, args := #[.func (.yield (w.heap.size + 1)) #[] #[]] }, (w.alloc (.deferred (some []))).alloc (.loop (rec .ready none)), gf,
    #[.func (.yield (w.heap.size + 1)) #[] #[]] ++ lb, (w.alloc (.deferred (some []))).alloc (.loop (rec .ready none)), ?_, ?_, ?_, ?_, ?_, ?_⟩
  · rw [hrec]; exact run_enterLoop_outer _ _ _ _ _
  · simp only [resolve, hg]
    simp [go_sem]
  · intro f' _
    trivial
  · simp [invoke, go_sem, eg]
  · intro h
    simp [Fence.wide] at h
  · rw [Nat.add_sub_cancel]
    refine (hiter rec hnew ?_).mono ?_
    · intro s W hs hl
      have hy := run_yield (P := P) (args := encs s) hl.1 (by rw [hrec]; exact hps s)
      rw [hrec] at hy
      refine ⟨fn, _, assign, body, hy, roundIn_of_wpIn hfn (wpIn_mono (hassign s W hs) ?_)⟩
      rintro e a₁ W₁ hp
      cases e with
      | normal =>
        obtain ⟨hk1, hs1⟩ : KeepsFrom w.heap.size W W₁ ∧ A' s a₁ W₁ := hp
        have hl1 := hl.kept hk1
        refine ⟨_, run_beginRound hl1.1 (by rw [hrec]), ?_⟩
        have hbusy : ({ rec .ready none with state := .busy } : Loop) = rec .busy none := by rw [hrec]
        rw [hbusy]
        have hl2 := hput W₁ .ready .busy none none hl1
        refine wpIn_mono (hbody s a₁ _ (hA' s a₁ W₁ _ hs1 ⟨_, hl1.1⟩)) ?_
        have fin : ∀ (jump : Option Code) (W3 : World), KeepsFrom w.heap.size (W₁.putObj (w.heap.size + 1) (.loop (rec .busy none))) W3 →
            (Instr.endRound (w.heap.size + 1) jump).run P W3 = .ok (.bool jump.isNone) (W3.putObj (w.heap.size + 1) (.loop (rec (if jump.isNone then .ready else .done) jump))) ∧
            LoopAt rec w.heap.size .busy none W3 ∧ LoopAt rec w.heap.size (if jump.isNone then .ready else .done) jump (W3.putObj (w.heap.size + 1) (.loop (rec (if jump.isNone then .ready else .done) jump))) := fun jump W3 hk => by
          have h3 := hl2.kept hk
          have hr := run_endRound (P := P) jump h3.1
          rw [hrec] at hr ⊢
          exact ⟨hr, by rw [hrec] at h3; exact h3, by have := hput W3 .busy (if jump.isNone then .ready else .done) none jump h3; rw [hrec] at this; exact this⟩
        rintro e a3 W3 hp
        cases e with
        | normal =>
          obtain ⟨hk, hb⟩ := hp
          obtain ⟨hr, h3, h4⟩ := fin none W3 hk
          exact ⟨_, _, hr, rfl, hB s W3 _ hb ⟨_, h3.1⟩, h4⟩
        | ret => exact hp.2.elim
        | exit id => exact hp.2.elim
        | goto t => exact hp.2.elim
        | panic ch => exact hp.elim
        | outgrown => exact hp.elim
      | _ => exact hp.elim
    · rintro e W2 ⟨⟨v, rfl⟩, hd, hl⟩
      refine ⟨none, _, by have := run_endLoop (P := P) hl.1 (by rw [hrec]; simp); rw [hrec] at this; exact this, ?_⟩
      exact hdone _ (hDone W2 _ hd ⟨_, hl.1⟩) ((World.putObj_heap_other (by omega)).trans hl.2)
end
end Go.Proofs.YtlnhppgfhkkidaaGreat
