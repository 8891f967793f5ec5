/- Parts of the proof, in this order: A house's Crash; A house's Do; What stands of the memory of the law of power; The law's light, told exactly. -/
import Derived.Test.YtlnhppgfhkkidaaGreatKPpw13
set_option linter.unusedSimpArgs false
set_option linter.unusedVariables false
open List renaming getElem_toArray → lq0, getElem_cons_succ → lq1, getElem_cons_zero → lq2, setIfInBounds_toArray → lq3, set_cons_zero → lq4, set_cons_succ → lq5
namespace Go.Proofs.YtlnhppgfhkkidaaGreat
set_option linter.unusedSimpArgs false
open Go.RowKit

theorem small_i64 {z : Int} (h : SmallZ z) : I64 z := by
  unfold SmallZ far at h
  unfold I64
  omega
theorem small_Ok {n : NoteV} (h : SmallN n) : n.Ok := by
  obtain ⟨h1, h2, h3, _⟩ := h
  have a : ∀ z ∈ aheadN n, I64 z := fun z hz => small_i64 (h1 z hz)
  have b : ∀ z ∈ behindN n, I64 z := fun z hz => small_i64 (h3 z hz)
  simp only [aheadN, behindN, List.mem_cons, List.not_mem_nil, or_false] at a b
  refine ⟨a _ ?_, a _ ?_, a _ ?_, a _ ?_, a _ ?_, a _ ?_, a _ ?_, a _ ?_, a _ ?_, a _ ?_, a _ ?_, a _ ?_, a _ ?_, a _ ?_, a _ ?_, b _ ?_, b _ ?_, b _ ?_, fun z hz => small_i64 (h2 z hz)⟩ <;> simp
theorem joinF_len : ∀ (k : Nat) (st fo : List UInt8), (joinF k st fo).length ≤ k ∧ ∀ x ∈ joinF k st fo, x.length ≤ 8192
  | 0, _, _ => ⟨Nat.le_refl _, fun x h => by simp [joinF] at h⟩
  | k + 1, st, fo => by
    unfold joinF
    split
    · rename_i h
      obtain ⟨h1, h2⟩ := joinF_len k (st.drop (atN st 0 + 2)) (fo.drop 4)
      refine ⟨by rw [List.length_cons]; omega, fun x hx => ?_⟩
      rcases List.mem_cons.1 hx with rfl | hx
      · rw [List.length_take]; have := h.2.2.1; omega
      · exact h2 x hx
    · exact ⟨Nat.zero_le _, fun x h => by simp at h⟩
theorem hear_f (S : HouV) (l : List NoteV) : (hearP S l).1.f = S.f := by
  unfold hearP
  split
  · rfl
  · split
    · rfl
    · exact adds_f _ _
theorem hear_stop {A : HouV} {n : NoteV} (h : ¬ ((hearP A [n]).2.2 = 0 ∧ (hearP A [n]).2.1 = 1)) : (hearP A [n]).1 = A := by
  cases hb : [n].any (fun n => !decide (checkN A.f n = 0)) with
  | true => rw [hearP_bad hb]
  | false =>
    cases hg : hearGo A.l [] A.c [n] with
    | none => rw [hearP_fork hb hg]
    | some r =>
      obtain ⟨fr, c'⟩ := r
      rw [hearP_ok hb hg] at h ⊢
      have h2 : fr = [] := by
        rw [hearGo] at hg
        split at hg
        · split at hg
          · simp [hearGo] at hg
            exact hg.1
          · cases hg
        · split at hg
          · simp [hearGo] at hg
            exact hg.1
          · simp [hearGo] at hg
            obtain ⟨rfl, _⟩ := hg
            exact absurd ⟨rfl, rfl⟩ h
      rw [h2]
      rfl
theorem drop_get {α : Type} {l : List α} {i : Nat} {x : α} (h : l[i]? = some x) : l.drop i = x :: l.drop (i + 1) := by
  obtain ⟨h1, h2⟩ := List.getElem?_eq_some_iff.1 h
  rw [List.drop_eq_getElem_cons h1, h2]
theorem same_rowC (W : World) (p : Nat) (c : Array Value) : Same (fun k => k = p) W (W.setRow p c) := Same.of_grown (setRow_grown W p c) (fun k e => by cases e; rfl)
def CrRet (w : World) (p mb : Nat) (G : Nm → Option LN) (SF : Nat → Prop) (S : HouV) (stock foil flip : Int) (e : Ending) (W : World) : Prop :=
  ∃ S' code, CrP S stock foil flip S' code ∧ HInv S' ∧ e = .returned (.int .i64 code) ∧ ∃ mb' sp' G' SF', HouAt W p mb' sp' G' SF' S' ∧ Same (houF p mb G SF) w W ∧ ∀ k, houF p mb' G' SF' k → houF p mb G SF k ∨ w.heap.size ≤ k
structure CrAt (w W3 W : World) (p p2 mb2 sp2 : Nat) (SF : Nat → Prop) (S : HouV) (mb sp : Nat) (G2 : Nm → Option LN) (SF2 : Nat → Prop) (A : HouV) (bs : List (List UInt8)) (i : Nat) : Prop where
  hou : HouAt W p2 mb2 sp2 G2 SF2 A
  inv : HInv A
  f : A.f = S.f
  rcv : recov (HouV.new S.f S.id) bs = recov A (bs.drop i)
  len : A.l.length ≤ i
  same : Same (fun k => k = p2 ∨ k = mb2 ∨ k = sp2 ∨ W3.heap.size ≤ k) W3 W
  foot : ∀ k, houF p2 mb2 G2 SF2 k → k = p2 ∨ k = mb2 ∨ k = sp2 ∨ W3.heap.size ≤ k
  blk : W.heap[p]? = some (.cells (houA S.f S.id mb S.c sp) 109 (0, 0))
  np : p ≠ p2 ∧ p ≠ mb2 ∧ p ≠ sp2 ∧ p < W3.heap.size
section
variable {w W3 W W' : World} {p p2 mb2 sp2 : Nat} {SF : Nat → Prop} {S : HouV} {mb sp : Nat} {G2 G3 : Nm → Option LN} {SF2 SF3 : Nat → Prop} {A A' : HouV} {bs : List (List UInt8)} {i j : Nat}
theorem CrAt.below (h : CrAt w W3 W p p2 mb2 sp2 SF S mb sp G2 SF2 A bs i) (hb : Below W.heap.size W W') : CrAt w W3 W' p p2 mb2 sp2 SF S mb sp G2 SF2 A bs i :=
  ⟨h.hou.below hb, h.inv, h.f, h.rcv, h.len, h.same.trans (Same.of_below hb), h.foot, below_blk hb h.blk, h.np⟩
theorem CrAt.step (h : CrAt w W3 W p p2 mb2 sp2 SF S mb sp G2 SF2 A bs i) (hh : HouAt W' p2 mb2 sp2 G3 SF3 A') (hi : HInv A') (hf : A'.f = S.f) (hr : recov (HouV.new S.f S.id) bs = recov A' (bs.drop j)) (hl : A'.l.length ≤ j)
    (hs : Same (houF p2 mb2 G2 SF2) W W') (hn : ∀ k, houF p2 mb2 G3 SF3 k → houF p2 mb2 G2 SF2 k ∨ W.heap.size ≤ k) : CrAt w W3 W' p p2 mb2 sp2 SF S mb sp G3 SF3 A' bs j :=
  ⟨hh, hi, hf, hr, hl, h.same.trans (hs.weaken h.foot), fun k hk => (hn k hk).elim (h.foot k) (fun h2 => .inr (.inr (.inr (Nat.le_trans h.same.size h2)))),
    (hs.block p (blk_lt h.blk) (fun hk => by rcases h.foot p hk with h2 | h2 | h2 | h2 <;> have := h.np <;> omega)).trans h.blk, h.np⟩
end
theorem houA_one (f : FrV) (id : Int) (mb : Nat) (c : Int → Nat) (sp : Nat) : (houA f id mb c sp).all (·.oneCell') = true := by simp [houA, Value.oneCell']

set_option maxHeartbeats 32000000 in
set_option maxRecDepth 100000 in
theorem hcrash_any (p mb sp : Nat) (G : Nm → Option LN) (SF : Nat → Prop) (S : HouV) (stock foil flip : Int) (w : World) (hh : HouAt w p mb sp G SF S) (hi : HInv S) (hlen : S.l.length < 400) :
    Calls Tryz.prog 21 #[.pointer (some ⟨p, 0, none⟩), .int .i64 stock, .int .i64 foil, .int .i64 flip] w fun e w' => CrRet w p mb G SF S stock foil flip e w' := by
  have I43 := Lib.hid (show ∀ (m : NoteV) (a : Option Addr) (c : Nat), (Tryz.prog.info? 47).map (·.size) = some (noteA m a c).size from fun m a c => by kernel_rfl)
  have HH := Lib.hid hh
  have HI := Lib.hid hi
  have HLEN := Lib.hid hlen
  have DIS := Lib.hid hh.dis
  have HLT := Lib.hid hh.lt
  have MD := Lib.hid (made_any w p mb sp S.f S.id S.c hh.blk)
  have c14 := cell_of hh.blk 14 (.pointer (some ⟨sp, 0, none⟩)) rfl
  by_cases hok : CrashOk S.sb S.fb S.sd S.fd stock foil flip
  case neg =>
    have HC := Lib.hid hok
    have CN := Lib.hid (crash_no w sp SF S.sb S.fb S.sd S.fd stock foil flip hh.stk hok)
    clear hh hi hok hlen
    go_enter Tryz.func21, Tryz.ntmps21
    go_wp2_with fail
    refine MD.out.mono ?_
    rintro e w1 ⟨rfl, rfl⟩
    go_wp2_with fail
    refine CN.out.mono ?_
    rintro e w2 ⟨rfl, q, rfl⟩
    clear c14
    go_wp2_with fail
    go_ret
    have bq := below_drewN (Below.refl w1.heap.size w1) q
    exact ⟨S, 1, .inl ⟨HC.out, rfl, rfl⟩, HI.out, rfl, mb, sp, G, SF, HH.out.below bq, Same.of_below bq, fun k hk => .inl hk⟩
  have HC := Lib.hid hok
  obtain ⟨st, rfl⟩ := Int.eq_ofNat_of_zero_le hok.1
  obtain ⟨fo, rfl⟩ := Int.eq_ofNat_of_zero_le hok.2.2.1
  have CY := Lib.hid (crash_yes w sp SF S.sb S.fb S.sd S.fd st fo flip hh.stk hok)
  clear hh hi hok hlen
  go_enter Tryz.func21, Tryz.ntmps21
  go_wp2_with fail
  refine MD.out.mono ?_
  rintro e w1 ⟨rfl, rfl⟩
  go_wp2_with fail
  refine CY.out.mono ?_
  rintro e W1 ⟨rfl, F1, h1, h2, h3⟩
  clear c14
  have K1 := Lib.hid h1
  have S1 := Lib.hid h2
  have P1 : Hid (W1.heap[p]? = some (.cells (houA S.f S.id mb S.c sp) 109 (0, 0))) := Lib.hid ((h2.block p (blk_lt HH.out.blk) DIS.out.ps).trans HH.out.blk)
  have PW1 : Hid (p < W1.heap.size) := Lib.hid (blk_lt P1.out)
  clear h1 h2 h3 CY MD
  obtain ⟨cs, hcs⟩ : ∃ z, Hid (crashS S.sb S.sd st flip = z) := ⟨_, Lib.hid rfl⟩
  obtain ⟨cf, hcf⟩ : ∃ z, Hid (crashF S.fb S.fd st fo flip = z) := ⟨_, Lib.hid rfl⟩
  have CFL : Hid (cf.length ≤ S.fb.length) := Lib.hid (by
    rw [← hcf.out]
    unfold crashF
    split
    · rw [flipAt_len, List.length_take]; omega
    · rw [List.length_take]; omega)
  rw [hcs.out, hcf.out] at K1
  go_upto_region 6 with fail
  refine wp_region_noPanic ?_
  refine wp_region_held_drew (S := fun w' => w'.heap[p]? = some (.cells (houA S.f S.id mb S.c sp) 109 (0, 0))) (by kernel_rfl) (show W1.drew.heap[p]? = _ from P1.out) (fun hHeld => ?_)
  have BU := Lib.hid ((Below.refl W1.heap.size W1).drew)
  generalize W1.drew = U at *
  refine wpAnyH_take (i := 0) (v := .pointer (some ⟨p, 0, none⟩)) rfl (by kernel_rfl) (by kernel_rfl) (by kernel_rfl) (fun _ _ _ h => h) (Or.inl ⟨by kernel_rfl, by intro W _; go_simp⟩) (by assumption) ?_
  try simp only [Act.put, lq0, lq1, lq2, lq3, lq4, lq5]
  refine wpAnyH_take (i := 1) (v := .pointer (some ⟨p, 0, none⟩)) rfl (by kernel_rfl) (by kernel_rfl) (by kernel_rfl) (fun _ _ _ h => h) (Or.inl ⟨by kernel_rfl, by intro W _; go_simp⟩) (by assumption) ?_
  try simp only [Act.put, lq0, lq1, lq2, lq3, lq4, lq5]
  refine wpAnyH_take (i := 2) (v := .pointer (some ⟨p, 0, none⟩)) rfl (by kernel_rfl) (by kernel_rfl) (by kernel_rfl) (fun _ _ _ h => h) (Or.inl ⟨by kernel_rfl, by intro W _; go_simp⟩) (by assumption) ?_
  try simp only [Act.put, lq0, lq1, lq2, lq3, lq4, lq5]
  refine wpAnyH_take (i := 3) (v := .agg #[.int .i64 S.f.rings, .int .i64 S.f.sectors, .int .i64 S.f.wide]) rfl (by kernel_rfl) (by kernel_rfl) (by kernel_rfl) (fun _ _ _ h => h) (Or.inl ⟨by kernel_rfl, by intro W h; have h0 := cell_of h 0 (.int .i64 S.f.rings) rfl; have h1 := cell_of h 1 (.int .i64 S.f.sectors) rfl; have h2 := cell_of h 2 (.int .i64 S.f.wide) rfl; go_simp⟩) (by assumption) ?_
  try simp only [Act.put, lq0, lq1, lq2, lq3, lq4, lq5]
  refine wpAnyH_take (i := 4) (v := .pointer (some ⟨p, 0, none⟩)) rfl (by kernel_rfl) (by kernel_rfl) (by kernel_rfl) (fun _ _ _ h => h) (Or.inl ⟨by kernel_rfl, by intro W _; go_simp⟩) (by assumption) ?_
  try simp only [Act.put, lq0, lq1, lq2, lq3, lq4, lq5]
  refine wpAnyH_take (i := 5) (v := .pointer (some ⟨p, 0, none⟩)) rfl (by kernel_rfl) (by kernel_rfl) (by kernel_rfl) (fun _ _ _ h => h) (Or.inl ⟨by kernel_rfl, by intro W _; go_simp⟩) (by assumption) ?_
  try simp only [Act.put, lq0, lq1, lq2, lq3, lq4, lq5]
  refine wpAnyH_take (i := 6) (v := .pointer (some ⟨p, 3, none⟩)) rfl (by kernel_rfl) (by kernel_rfl) (by kernel_rfl) (fun _ _ _ h => h) (Or.inl ⟨by kernel_rfl, by intro W _; go_simp⟩) (by assumption) ?_
  try simp only [Act.put, lq0, lq1, lq2, lq3, lq4, lq5]
  refine wpAnyH_take (i := 7) (v := .int .i64 S.id) rfl (by kernel_rfl) (by kernel_rfl) (by kernel_rfl) (fun _ _ _ h => h) (Or.inl ⟨by kernel_rfl, by intro W h; have hc := cell_of h 3 (.int .i64 S.id) rfl; go_simp⟩) (by assumption) ?_
  try simp only [Act.put, lq0, lq1, lq2, lq3, lq4, lq5]
  refine wpAnyH_ready (rs := [8]) (by kernel_rfl) (by simp) ?_
  refine AllReadyH.cons rfl (fun K hK => ?_) AllReadyH.nil
  go_simp
  go_at_call 12
  refine (newHouse8_any S.f S.id U HI.out.id).mono ?_
  rintro e W2 ⟨h1, bb⟩
  rcases h1 with ⟨hbad, _⟩ | ⟨_, _, p2, mb2, sp2, rfl, h2, h3⟩
  · exact absurd ⟨HI.out.v, HI.out.id⟩ hbad
  have B2 := Lib.hid (BU.out.trans (bb.mono BU.out.size))
  have P2 := Lib.hid (below_blk bb hHeld)
  have H2 := Lib.hid h2
  have GE2 := Lib.hid (show ∀ k, houF p2 mb2 (fun _ => none) (fun k => k = sp2) k → W1.heap.size ≤ k from fun k hk => Nat.le_trans BU.out.size (h3 k hk))
  clear bb h2 h3 hHeld
  dsimp only
  refine hK.out _ _ P2.out (fun hHeld => ?_)
  clear hK K
  try simp only [Act.put, lq0, lq1, lq2, lq3, lq4, lq5]
  refine wpAnyH_take (i := 9) (v := .tuple #[.pointer (some ⟨p2, 0, none⟩), .int .i64 0]) rfl (by kernel_rfl) (by kernel_rfl) (by kernel_rfl) (fun _ _ _ h => h) (Or.inl ⟨by kernel_rfl, by intro W _; go_simp⟩) (by assumption) ?_
  try simp only [Act.put, lq0, lq1, lq2, lq3, lq4, lq5]
  refine wpAnyH_take (i := 10) (v := .pointer (some ⟨p2, 0, none⟩)) rfl (by kernel_rfl) (by kernel_rfl) (by kernel_rfl) (fun _ _ _ h => h) (Or.inl ⟨by kernel_rfl, by intro W _; go_simp⟩) (by assumption) ?_
  try simp only [Act.put, lq0, lq1, lq2, lq3, lq4, lq5]
  refine wpAnyH_take (i := 11) (v := .int .i64 0) rfl (by kernel_rfl) (by kernel_rfl) (by kernel_rfl) (fun _ _ _ h => h) (Or.inl ⟨by kernel_rfl, by intro W _; go_simp⟩) (by assumption) ?_
  try simp only [Act.put, lq0, lq1, lq2, lq3, lq4, lq5]
  refine wpAnyH_take (i := 12) (v := .pointer (some ⟨p2, 0, none⟩)) rfl (by kernel_rfl) (by kernel_rfl) (by kernel_rfl) (fun _ _ _ h => h) (Or.inl ⟨by kernel_rfl, by intro W _; go_simp⟩) (by assumption) ?_
  try simp only [Act.put, lq0, lq1, lq2, lq3, lq4, lq5]
  refine wpAnyH_take (i := 13) (oi := { dst := some 11, op := .assign (.tmp 43), type := _, pos := _, after := _, guard := none }) (v := .int .i64 0) rfl (by kernel_rfl) (by kernel_rfl) (by kernel_rfl) (fun _ _ _ h => h) (Or.inl ⟨by kernel_rfl, by intro W _; go_simp⟩) (by assumption) ?_
  try simp only [Act.put, lq0, lq1, lq2, lq3, lq4, lq5]
  refine wpAnyH_done (by kernel_rfl) ?_ _
  refine NoPanic.normal ?_
  clear hHeld BU P1
  have K2 := Lib.hid (K1.out.same (S := fun _ => False) (Same.of_below B2.out) (fun _ h => h.elim))
  have c14 := cell_of P2.out 14 (.pointer (some ⟨sp, 0, none⟩)) rfl
  go_wp2_with fail
  refine (talliesOf_any W2 sp F1 cs cf cs.length cf.length K2.out).mono ?_
  rintro e W3 ⟨oa, oc, rfl, h1, b3⟩
  have L2 := Lib.hid H2.out.lt
  have OB := Lib.hid h1
  have P3 := Lib.hid (below_blk b3 P2.out)
  have H3 := Lib.hid (H2.out.below b3)
  have B3 := Lib.hid (B2.out.trans (b3.mono B2.out.size))
  have SZ3 := Lib.hid b3.size
  clear h1 b3 c14 K2 P2 K1
  obtain ⟨bs, hbs⟩ : ∃ z, Hid (joinOf cs cf = z) := ⟨_, Lib.hid rfl⟩
  rw [hbs.out] at OB ⊢
  have BL : Hid (bs.length ≤ S.l.length ∧ ∀ x ∈ bs, x.length ≤ 8192) := Lib.hid (by
    rw [← hbs.out]
    unfold joinOf
    obtain ⟨h1, h2⟩ := joinF_len (cf.length / 4) cs cf
    refine ⟨?_, h2⟩
    have h3 := CFL.out
    have h4 := HI.out.fbl
    have h5 := HI.out.len
    omega)
  obtain ⟨n, hn⟩ : ∃ n, Hid (bs.length = n) := ⟨_, Lib.hid rfl⟩
  rw [hn.out] at OB BL ⊢
  have BBX : Hid (∀ W', Same (fun k => k = p2 ∨ k = mb2 ∨ k = sp2 ∨ W3.heap.size ≤ k) W3 W' → RdBB W' oa n oc bs) := Lib.hid (fun W' hs => by
    obtain ⟨vs, o1, o2, o3⟩ := OB.out
    have l1 : p2 < W2.heap.size := L2.out p2 (.inl rfl)
    have l2 : mb2 < W2.heap.size := L2.out mb2 (.inr (.inl rfl))
    have l3 : sp2 < W2.heap.size := L2.out sp2 (.inr (.inr (.inl H2.out.stk.self)))
    have : OwnBB W' W2.heap.size oa n oc bs := ⟨vs, own_keep o1 hs (fun b hb h => by
        have h4 := o1.lt b hb
        rcases h with h | h | h | h <;> omega), o2, fun i hi => by
        obtain ⟨ai, ci, q1, q2⟩ := o3 i hi
        refine ⟨ai, ci, q1, own_keep q2 hs (fun b hb h => ?_)⟩
        obtain ⟨cur, hk⟩ := own_kind q2 b hb
        rcases h with rfl | rfl | rfl | h
        · rw [H3.out.blk] at hk
          simp only [Option.some.injEq, Obj.cells.injEq] at hk
          exact absurd hk.2.1 (by decide)
        · obtain ⟨es, cl, hm⟩ := H3.out.map.blk
          rw [hm] at hk
          cases hk
        · obtain ⟨sa, sc, fa, fc, g1, _⟩ := id H3.out.stk
          rw [g1] at hk
          simp only [Option.some.injEq, Obj.cells.injEq] at hk
          exact absurd hk.2.1 (by decide)
        · have := (q2.lt b hb).2
          omega⟩
    exact this.rd)
  have FT0 : ∀ k, houF p2 mb2 (fun _ => none) (fun k => k = sp2) k → k = p2 ∨ k = mb2 ∨ k = sp2 ∨ W3.heap.size ≤ k := fun k hk => by
    rcases hk with h | h | h | ⟨a, x, h, _⟩
    · exact .inl h
    · exact .inr (.inl h)
    · exact .inr (.inr (.inl h))
    · cases h
  have NP0 : p ≠ p2 ∧ p ≠ mb2 ∧ p ≠ sp2 ∧ p < W3.heap.size := by
    have q1 := GE2.out p2 (.inl rfl)
    have q2 := GE2.out mb2 (.inr (.inl rfl))
    have q3 := GE2.out sp2 (.inr (.inr (.inl rfl)))
    have q4 := PW1.out
    have q5 := blk_lt P3.out
    omega
  have CA0 : Hid (CrAt w1 W3 W3 p p2 mb2 sp2 SF S mb sp (fun _ => none) (fun k => k = sp2) (HouV.new S.f S.id) bs 0) := Lib.hid ⟨H3.out, HInv.new HI.out.v HI.out.id, rfl, by rw [List.drop_zero], Nat.le_refl _, Same.refl _ _, FT0, P3.out, NP0⟩
  clear FT0 NP0 OB H3 P3 H2 L2
  have N63 : Hid ((n : Int) ≤ 400) := Lib.hid (by have h1 := BL.out.1; have h2 := HLEN.out; have h3 := hn.out; omega)
  go_wp2_with fail
  go_loopw [50] (fun iv wr => ∃ (i : Nat) (A : HouV) (G2 : Nm → Option LN) (SF2 : Nat → Prop), iv = .int .i64 (i : Int) ∧ i ≤ n ∧ Hid (CrAt w1 W3 wr p p2 mb2 sp2 SF S mb sp G2 SF2 A bs i)) (fun iv _ => n - (intOf iv).toNat)
  case atStart => exact ⟨0, _, _, _, rfl, Nat.zero_le _, CA0⟩
  case round =>
    clear CA0
    obtain ⟨i, A, G2, SF2, rfl, hin, CA⟩ := hrel
    by_cases hlt : i < n
    · have t0 : decide ((i : Int) < (n : Int)) = true := by simp; omega
      obtain ⟨b, off, hoa, hc⟩ := (BBX.out wr CA.out.same).at (show 0 < n by omega)
      obtain ⟨ai, ci, hx, hri⟩ := hc i hlt
      obtain ⟨x, Hx⟩ : ∃ x, bs[i]? = some x := ⟨_, List.getElem?_eq_getElem (by rw [hn.out]; exact hlt)⟩
      rw [Hx] at hx hri
      have RX := Lib.hid (show RdB wr ai x.length ci x from hri)
      have XL := Lib.hid (BL.out.2 x (List.mem_of_getElem? Hx))
      have DR := Lib.hid (drop_get Hx)
      have hk64 : (i : Int) < n := by omega
      simp only [Option.getD_some] at hx
      clear hc hri Hx
      subst hoa
      have c0 := cell_of CA.out.blk 0 (.int .i64 S.f.rings) rfl
      have c1 := cell_of CA.out.blk 1 (.int .i64 S.f.sectors) rfl
      have c2 := cell_of CA.out.blk 2 (.int .i64 S.f.wide) rfl
      go_wp2_with fail
      clear t0
      have DC := Lib.hid (decode2_any S.f x ai x.length ci wr RX.out (Nat.le_trans XL.out (by decide)))
      have hvl : S.f.val = .agg #[.int .i64 S.f.rings, .int .i64 S.f.sectors, .int .i64 S.f.wide] := rfl
      rw [hvl] at DC
      clear hvl
      refine DC.out.mono ?_
      clear DC
      rintro e w5 (⟨m, sa, sc, hdec, rfl, ho, b5⟩ | ⟨hdec, rfl, b5⟩)
      · have DE : Hid (decP9 A.f x = some m) := Lib.hid (by rw [CA.out.f]; exact hdec)
        have MC := Lib.hid (decP9_ok hdec)
        have MOK : Hid m.Ok := Lib.hid (small_Ok (small_of MC.out.1))
        have O5 := Lib.hid ho
        have F2L := Lib.hid CA.out.hou.lt
        have WRS := Lib.hid b5.size
        replace CA := Lib.hid (CA.out.below b5)
        clear hdec ho b5 c0 c1 c2 hx
        go_upto_region 11 with (first
          | (refine wpList_store_newp w5 rfl 47 _ _ rfl w5.heap.size rfl _ (noteA m sa sc) rfl rfl (I43.out _ _ _) rfl (noteA_one m sa sc) ?_))
        have bt : Below w5.heap.size w5 (w5.alloc (.cells (noteA m sa sc) 47)) := (Below.refl _ _).alloc (Nat.le_refl _) _
        have N14 := Lib.hid (heap_last w5 (.cells (noteA m sa sc) 47))
        replace CA := Lib.hid (CA.out.below bt)
        replace O5 := Lib.hid (own_below O5.out bt)
        replace WRS := Lib.hid (Nat.le_trans WRS.out bt.size)
        obtain ⟨p14, hp14⟩ : ∃ z, Hid (w5.heap.size = z) := ⟨_, Lib.hid rfl⟩
        rw [hp14.out] at N14
        rw [hp14.out]
        generalize w5.alloc (.cells (noteA m sa sc) 47) = w6 at *
        clear bt hp14
        have b7 : Below w6.heap.size w6 (w6.alloc (.cells (noteA m sa sc) 47)) := (Below.refl _ _).alloc (Nat.le_refl _) _
        have R7 := Lib.hid (heap_last w6 (.cells (noteA m sa sc) 47))
        have CA7 := Lib.hid (CA.out.below b7)
        have O7 := Lib.hid (own_below O5.out b7)
        have PB : Hid (wr.heap.size ≤ w6.heap.size) := Lib.hid WRS.out
        obtain ⟨pb, hpb⟩ : ∃ z, Hid (w6.heap.size = z) := ⟨_, Lib.hid rfl⟩
        go_wp2_with (first
          | (refine wpList_load_row rfl 47 _ rfl p14 rfl 47 (noteA m sa sc) (0, 0) _ N14.out Tryz.underlying47 rfl (I43.out _ _ _) ?_)
          | (refine wpList_build_note rfl _ rfl m sa sc rfl ?_))
        rw [hpb.out] at R7 PB
        rw [hpb.out]
        generalize w6.alloc (.cells (noteA m sa sc) 47) = w7 at *
        clear b7 hpb
        refine (hhear_any p2 mb2 sp2 G2 SF2 A (some ⟨pb, 0, none⟩) 1 1 [m] [⟨m, sa, sc⟩] w7 CA7.out.hou CA7.out.inv rfl (fun W hs => ⟨rfl, Nat.le_refl _, by decide, .inr ⟨pb, 0, rfl, fun j y hy => by
          have hj : j = 0 := by have := (List.getElem?_eq_some_iff.1 hy).1; simp at this; exact this
          subst hj
          simp only [List.getElem?_cons_zero, Option.some.injEq] at hy
          subst hy
          refine ⟨fun q v hv => ?_, RdA.of_own (own_keep O7.out hs (fun b hb h => by have h1 := F2L.out b h; have h2 := (O7.out.lt b hb).1; omega))⟩
          have hb2 := hs.block pb (blk_lt R7.out) (fun h => by have h1 := F2L.out pb h; have h2 := PB.out; omega)
          have h3 : W.heap[pb]? = some (.cells (noteA m sa sc) 47 (0, 0)) := hb2.trans R7.out
          rw [show 0 + 0 * 19 + q = q by omega]
          exact cell_of h3 q v (by rw [← Array.getElem?_toList]; exact hv)⟩⟩) (fun y hy => by rw [List.mem_singleton.1 hy]; exact MOK.out) (by have h1 := CA7.out.len; have h2 := N63.out; omega)).mono ?_
        rintro e w8 ⟨rfl, G3, SF3, h1, h2, h3⟩
        obtain ⟨A', many, code, hap⟩ : ∃ A' many code, Hid (hearP A [m] = (A', many, code)) := ⟨_, _, _, Lib.hid rfl⟩
        have HI2 := (hearP_inv CA7.out.inv (l := [m]) (fun y hy => by rw [List.mem_singleton.1 hy]; exact MOK.out))
        have HF2 := hear_f A [m]
        have HST := @hear_stop A m
        rw [hap.out] at h1 HI2 HF2 HST ⊢
        dsimp only at h1 HI2 HF2 HST ⊢
        have H8 := Lib.hid h1
        have S8 := Lib.hid h2
        have F8 := Lib.hid h3
        have I8 := Lib.hid HI2
        have E8 := Lib.hid HF2
        have T8 := Lib.hid HST
        clear h1 h2 h3 HI2 HF2 HST
        by_cases hgo : code = 0 ∧ many = 1
        · obtain ⟨rfl, rfl⟩ := hgo
          have CA8 := Lib.hid (CA7.out.step (j := i + 1) H8.out I8.out.1 (E8.out.trans CA7.out.f) (CA7.out.rcv.trans (by rw [DR.out]; exact recov_cons DE.out hap.out)) (Nat.le_trans I8.out.2 (Nat.add_le_add_right CA7.out.len 1)) S8.out F8.out)
          clear CA CA7 H8 S8 F8 I8 E8 T8 hap
          have hi64 : (i : Int) + 1 ≤ 401 := by have := N63.out; omega
          go_wp2_with fail
          go_roundw
          case rel => exact ⟨i + 1, A', G3, SF3, by go_num, by omega, CA8⟩
          case measure => simp [intOf]; omega
        have hAA : A' = A := T8.out hgo
        have REC : Hid (recov (HouV.new S.f S.id) bs = A) := Lib.hid (by
          rw [CA7.out.rcv, DR.out]
          refine recov_stop ?_
          rw [DE.out]
          show (if (hearP A [m]).2.2 = 0 ∧ (hearP A [m]).2.1 = 1 then some (hearP A [m]).1 else none) = none
          rw [hap.out]
          exact if_neg hgo)
        rw [hAA] at H8
        replace CA := Lib.hid (CA7.out.step (j := i) H8.out CA7.out.inv CA7.out.f CA7.out.rcv CA7.out.len S8.out F8.out)
        clear CA7 H8 S8 F8 I8 E8 T8 hap hAA
        by_cases hc0 : code = 0
        · have t1 : (many != 1) = true := by
            have : many ≠ 1 := fun h => hgo ⟨hc0, h⟩
            simp [this]
          subst hc0
          clear hgo
          go_upto_region 15 with fail
          clear t1 hlt
          go_wp2_with fail
          refine (hsync_any p2 mb2 sp2 G3 SF3 A _ CA.out.hou).mono ?_
          rintro e X1 ⟨rfl, h1, h2⟩
          have HS := Lib.hid h1
          have SX := Lib.hid h2
          have PX := Lib.hid ((h2.block p (blk_lt CA.out.blk) CA.out.np.2.2.1).trans CA.out.blk)
          have P2X : Hid (X1.heap[p2]? = some (.cells (houA A.f A.id mb2 A.c sp2) 109 (0, 0))) := Lib.hid h1.blk
          have SP2 := Lib.hid CA.out.hou.stk.self
          have HSZ : Hid ((Tryz.prog.info? 109).map (·.size) = some (houA A.f A.id mb2 A.c sp2).size) := Lib.hid (by kernel_rfl)
          clear h1 h2
          have oneH := houA_one A.f A.id mb2 A.c sp2
          go_wp2_with (first
            | (refine wpList_load_row rfl 109 _ rfl p2 rfl 109 (houA A.f A.id mb2 A.c sp2) (0, 0) _ P2X.out Tryz.underlying109 rfl HSZ.out ?_)
            | (refine wpList_store_rowN rfl 109 _ _ rfl p (houA S.f S.id mb S.c sp) (houA A.f A.id mb2 A.c sp2) 109 rfl rfl PX.out HSZ.out rfl oneH ?_))
          go_ret
          have S3 := same_rowC X1 p (houA A.f A.id mb2 A.c sp2)
          have g1 := GE2.out p2 (.inl rfl)
          have g2 := GE2.out mb2 (.inr (.inl rfl))
          have g3 := GE2.out sp2 (.inr (.inr (.inl rfl)))
          have g4 := S1.out.size
          have g5 := B3.out.size
          have g6 : ∀ k, k = p2 ∨ k = mb2 ∨ k = sp2 ∨ W3.heap.size ≤ k → w1.heap.size ≤ k := fun k hk => by omega
          have HS3 := HS.out.same S3 (fun k hk h => by
            rw [show k = p from hk] at h
            have h5 := CA.out.np
            rcases CA.out.foot p h with h | h | h | h <;> omega)
          have SW1 : Same (houF p mb G SF) w1 W3 := (S1.out.weaken (fun k hk => .inr (.inr (.inl hk)))).trans (Same.of_below B3.out)
          have SW2 := same_trans2 SW1 CA.out.same (fun k hk => .inr (g6 k hk))
          have SW3 := same_trans2 SW2 SX.out (fun k hk => .inr (g6 k (.inr (.inr (.inl hk)))))
          have SW4 := SW3.trans (S3.weaken (fun k hk => .inl hk))
          exact ⟨A.sync, 0, .inr ⟨HC.out, by rw [Int.toNat_natCast, Int.toNat_natCast, hcs.out, hcf.out, hbs.out, REC.out], rfl⟩, CA.out.inv.sync, rfl, mb2, sp2, G3, SF3,
            ⟨setRow_at X1 p _ (houA A.f A.id mb2 A.c sp2) _ _ PX.out, HS3.map, HS3.gs, HS3.gl, HS3.str, HS3.stk⟩, SW4, fun k hk => by
              rcases hk with h | h
              · exact .inl (.inl h)
              · exact .inr (g6 k (CA.out.foot k (.inr h)))⟩
        · have t1 : (code != 0) = true := by simp [hc0]
          clear hgo hc0
          go_upto_region 15 with fail
          clear t1 hlt
          go_wp2_with fail
          refine (hsync_any p2 mb2 sp2 G3 SF3 A _ CA.out.hou).mono ?_
          rintro e X1 ⟨rfl, h1, h2⟩
          have HS := Lib.hid h1
          have SX := Lib.hid h2
          have PX := Lib.hid ((h2.block p (blk_lt CA.out.blk) CA.out.np.2.2.1).trans CA.out.blk)
          have P2X : Hid (X1.heap[p2]? = some (.cells (houA A.f A.id mb2 A.c sp2) 109 (0, 0))) := Lib.hid h1.blk
          have SP2 := Lib.hid CA.out.hou.stk.self
          have HSZ : Hid ((Tryz.prog.info? 109).map (·.size) = some (houA A.f A.id mb2 A.c sp2).size) := Lib.hid (by kernel_rfl)
          clear h1 h2
          have oneH := houA_one A.f A.id mb2 A.c sp2
          go_wp2_with (first
            | (refine wpList_load_row rfl 109 _ rfl p2 rfl 109 (houA A.f A.id mb2 A.c sp2) (0, 0) _ P2X.out Tryz.underlying109 rfl HSZ.out ?_)
            | (refine wpList_store_rowN rfl 109 _ _ rfl p (houA S.f S.id mb S.c sp) (houA A.f A.id mb2 A.c sp2) 109 rfl rfl PX.out HSZ.out rfl oneH ?_))
          go_ret
          have S3 := same_rowC X1 p (houA A.f A.id mb2 A.c sp2)
          have g1 := GE2.out p2 (.inl rfl)
          have g2 := GE2.out mb2 (.inr (.inl rfl))
          have g3 := GE2.out sp2 (.inr (.inr (.inl rfl)))
          have g4 := S1.out.size
          have g5 := B3.out.size
          have g6 : ∀ k, k = p2 ∨ k = mb2 ∨ k = sp2 ∨ W3.heap.size ≤ k → w1.heap.size ≤ k := fun k hk => by omega
          have HS3 := HS.out.same S3 (fun k hk h => by
            rw [show k = p from hk] at h
            have h5 := CA.out.np
            rcases CA.out.foot p h with h | h | h | h <;> omega)
          have SW1 : Same (houF p mb G SF) w1 W3 := (S1.out.weaken (fun k hk => .inr (.inr (.inl hk)))).trans (Same.of_below B3.out)
          have SW2 := same_trans2 SW1 CA.out.same (fun k hk => .inr (g6 k hk))
          have SW3 := same_trans2 SW2 SX.out (fun k hk => .inr (g6 k (.inr (.inr (.inl hk)))))
          have SW4 := SW3.trans (S3.weaken (fun k hk => .inl hk))
          exact ⟨A.sync, 0, .inr ⟨HC.out, by rw [Int.toNat_natCast, Int.toNat_natCast, hcs.out, hcf.out, hbs.out, REC.out], rfl⟩, CA.out.inv.sync, rfl, mb2, sp2, G3, SF3,
            ⟨setRow_at X1 p _ (houA A.f A.id mb2 A.c sp2) _ _ PX.out, HS3.map, HS3.gs, HS3.gl, HS3.str, HS3.stk⟩, SW4, fun k hk => by
              rcases hk with h | h
              · exact .inl (.inl h)
              · exact .inr (g6 k (CA.out.foot k (.inr h)))⟩
      · have REC : Hid (recov (HouV.new S.f S.id) bs = A) := Lib.hid (by
          rw [CA.out.rcv, DR.out]
          refine recov_stop ?_
          rw [CA.out.f, hdec]
          rfl)
        replace CA := Lib.hid (CA.out.below b5)
        clear hdec b5 c0 c1 c2 hx
        go_upto_region 11 with (first
          | (refine wpList_store_newp w5 rfl 47 _ _ rfl w5.heap.size rfl _ (noteA zeroN none 0) rfl rfl (I43.out _ _ _) rfl (noteA_one zeroN none 0) ?_))
        have bt : Below w5.heap.size w5 (w5.alloc (.cells (noteA zeroN none 0) 47)) := (Below.refl _ _).alloc (Nat.le_refl _) _
        replace CA := Lib.hid (CA.out.below bt)
        clear bt
        generalize w5.alloc (.cells (noteA zeroN none 0) 47) = w6 at *
        go_upto_region 15 with fail
        clear hlt
        go_wp2_with fail
        refine (hsync_any p2 mb2 sp2 G2 SF2 A _ CA.out.hou).mono ?_
        rintro e X1 ⟨rfl, h1, h2⟩
        have HS := Lib.hid h1
        have SX := Lib.hid h2
        have PX := Lib.hid ((h2.block p (blk_lt CA.out.blk) CA.out.np.2.2.1).trans CA.out.blk)
        have P2X : Hid (X1.heap[p2]? = some (.cells (houA A.f A.id mb2 A.c sp2) 109 (0, 0))) := Lib.hid h1.blk
        have SP2 := Lib.hid CA.out.hou.stk.self
        have HSZ : Hid ((Tryz.prog.info? 109).map (·.size) = some (houA A.f A.id mb2 A.c sp2).size) := Lib.hid (by kernel_rfl)
        clear h1 h2
        have oneH := houA_one A.f A.id mb2 A.c sp2
        go_wp2_with (first
          | (refine wpList_load_row rfl 109 _ rfl p2 rfl 109 (houA A.f A.id mb2 A.c sp2) (0, 0) _ P2X.out Tryz.underlying109 rfl HSZ.out ?_)
          | (refine wpList_store_rowN rfl 109 _ _ rfl p (houA S.f S.id mb S.c sp) (houA A.f A.id mb2 A.c sp2) 109 rfl rfl PX.out HSZ.out rfl oneH ?_))
        go_ret
        have S3 := same_rowC X1 p (houA A.f A.id mb2 A.c sp2)
        have g1 := GE2.out p2 (.inl rfl)
        have g2 := GE2.out mb2 (.inr (.inl rfl))
        have g3 := GE2.out sp2 (.inr (.inr (.inl rfl)))
        have g4 := S1.out.size
        have g5 := B3.out.size
        have g6 : ∀ k, k = p2 ∨ k = mb2 ∨ k = sp2 ∨ W3.heap.size ≤ k → w1.heap.size ≤ k := fun k hk => by omega
        have HS3 := HS.out.same S3 (fun k hk h => by
          rw [show k = p from hk] at h
          have h5 := CA.out.np
          rcases CA.out.foot p h with h | h | h | h <;> omega)
        have SW1 : Same (houF p mb G SF) w1 W3 := (S1.out.weaken (fun k hk => .inr (.inr (.inl hk)))).trans (Same.of_below B3.out)
        have SW2 := same_trans2 SW1 CA.out.same (fun k hk => .inr (g6 k hk))
        have SW3 := same_trans2 SW2 SX.out (fun k hk => .inr (g6 k (.inr (.inr (.inl hk)))))
        have SW4 := SW3.trans (S3.weaken (fun k hk => .inl hk))
        exact ⟨A.sync, 0, .inr ⟨HC.out, by rw [Int.toNat_natCast, Int.toNat_natCast, hcs.out, hcf.out, hbs.out, REC.out], rfl⟩, CA.out.inv.sync, rfl, mb2, sp2, G2, SF2,
          ⟨setRow_at X1 p _ (houA A.f A.id mb2 A.c sp2) _ _ PX.out, HS3.map, HS3.gs, HS3.gl, HS3.str, HS3.stk⟩, SW4, fun k hk => by
            rcases hk with h | h
            · exact .inl (.inl h)
            · exact .inr (g6 k (CA.out.foot k (.inr h)))⟩
    · have t0 : decide ((i : Int) < (n : Int)) = false := by simp; omega
      have REC : Hid (recov (HouV.new S.f S.id) bs = A) := Lib.hid (by rw [CA.out.rcv, List.drop_of_length_le (by rw [hn.out]; omega)]; rfl)
      go_upto_region 15 with fail
      clear t0 hlt
      go_wp2_with fail
      refine (hsync_any p2 mb2 sp2 G2 SF2 A _ CA.out.hou).mono ?_
      rintro e X1 ⟨rfl, h1, h2⟩
      have HS := Lib.hid h1
      have SX := Lib.hid h2
      have PX := Lib.hid ((h2.block p (blk_lt CA.out.blk) CA.out.np.2.2.1).trans CA.out.blk)
      have P2X : Hid (X1.heap[p2]? = some (.cells (houA A.f A.id mb2 A.c sp2) 109 (0, 0))) := Lib.hid h1.blk
      have SP2 := Lib.hid CA.out.hou.stk.self
      have HSZ : Hid ((Tryz.prog.info? 109).map (·.size) = some (houA A.f A.id mb2 A.c sp2).size) := Lib.hid (by kernel_rfl)
      clear h1 h2
      have oneH := houA_one A.f A.id mb2 A.c sp2
      go_wp2_with (first
        | (refine wpList_load_row rfl 109 _ rfl p2 rfl 109 (houA A.f A.id mb2 A.c sp2) (0, 0) _ P2X.out Tryz.underlying109 rfl HSZ.out ?_)
        | (refine wpList_store_rowN rfl 109 _ _ rfl p (houA S.f S.id mb S.c sp) (houA A.f A.id mb2 A.c sp2) 109 rfl rfl PX.out HSZ.out rfl oneH ?_))
      go_ret
      have S3 := same_rowC X1 p (houA A.f A.id mb2 A.c sp2)
      have g1 := GE2.out p2 (.inl rfl)
      have g2 := GE2.out mb2 (.inr (.inl rfl))
      have g3 := GE2.out sp2 (.inr (.inr (.inl rfl)))
      have g4 := S1.out.size
      have g5 := B3.out.size
      have g6 : ∀ k, k = p2 ∨ k = mb2 ∨ k = sp2 ∨ W3.heap.size ≤ k → w1.heap.size ≤ k := fun k hk => by omega
      have HS3 := HS.out.same S3 (fun k hk h => by
        rw [show k = p from hk] at h
        have h5 := CA.out.np
        rcases CA.out.foot p h with h | h | h | h <;> omega)
      have SW1 : Same (houF p mb G SF) w1 W3 := (S1.out.weaken (fun k hk => .inr (.inr (.inl hk)))).trans (Same.of_below B3.out)
      have SW2 := same_trans2 SW1 CA.out.same (fun k hk => .inr (g6 k hk))
      have SW3 := same_trans2 SW2 SX.out (fun k hk => .inr (g6 k (.inr (.inr (.inl hk)))))
      have SW4 := SW3.trans (S3.weaken (fun k hk => .inl hk))
      exact ⟨A.sync, 0, .inr ⟨HC.out, by rw [Int.toNat_natCast, Int.toNat_natCast, hcs.out, hcf.out, hbs.out, REC.out], rfl⟩, CA.out.inv.sync, rfl, mb2, sp2, G2, SF2,
        ⟨setRow_at X1 p _ (houA A.f A.id mb2 A.c sp2) _ _ PX.out, HS3.map, HS3.gs, HS3.gl, HS3.str, HS3.stk⟩, SW4, fun k hk => by
          rcases hk with h | h
          · exact .inl (.inl h)
          · exact .inr (g6 k (CA.out.foot k (.inr h)))⟩
end Go.Proofs.YtlnhppgfhkkidaaGreat
namespace Go.Proofs.YtlnhppgfhkkidaaGreat
set_option linter.unusedSimpArgs false
open Go.RowKit

structure DoAt (w W : World) (p3 p4 : Nat) (m : NoteV) (ta : Option Addr) (tc : Nat) : Prop where
  bel : Below w.heap.size w W
  n : W.heap[p3]? = some (.cells (noteA m ta tc) 47 (0, 0))
  z : W.heap[p4]? = some (.cells (noteA zeroN none 0) 47 (0, 0))
  own : W.ownsRow w.heap.size 3 1 (.slice ta m.strokes.length tc) m.strokes.length (m.strokes.map intV)
  ge : w.heap.size ≤ p3 ∧ p3 < p4
section
variable {w W W' : World} {p3 p4 : Nat} {m m' : NoteV} {ta : Option Addr} {tc : Nat}
theorem DoAt.below (h : DoAt w W p3 p4 m ta tc) (hb : Below W.heap.size W W') : DoAt w W' p3 p4 m ta tc :=
  ⟨h.bel.trans (hb.mono h.bel.size), below_blk hb h.n, below_blk hb h.z, own_below h.own hb, h.ge⟩
theorem DoAt.set (h : DoAt w W p3 p4 m ta tc) (hs : Same (fun k => k = p3) W W') (hn : W'.heap[p3]? = some (.cells (noteA m' ta tc) 47 (0, 0))) (he : m'.strokes = m.strokes) : DoAt w W' p3 p4 m' ta tc :=
  ⟨hs.below h.bel h.bel.size (fun k hk => by rw [show k = p3 from hk]; exact h.ge.1), hn, (hs.block p4 (blk_lt h.z) (fun e => by have := h.ge; omega)).trans h.z,
    by rw [he]; exact own_keep h.own hs (fun b hb e => own_no h.own h.n (by intro cur; simp) (by rw [hb, show b = p3 from e])), h.ge⟩
theorem below_of_none {W W' : World} (hg : W.grownBy W' none) : Below W.heap.size W W' := ⟨hg.os, hg.tape, hg.output, hg.size, fun k hk => hg.block k hk (by simp)⟩
theorem DoAt.other {r : Nat} {o : Obj} (h : DoAt w W p3 p4 m ta tc) (hs : Same (fun k => k = r) W W') (hr : p4 < r) (ho : W.heap[r]? = some o) (hne : ∀ cur, o ≠ .cells cur 3 (0, 0)) : DoAt w W' p3 p4 m ta tc :=
  ⟨hs.below h.bel h.bel.size (fun k hk => by rw [show k = r from hk]; have := h.ge; omega), (hs.block p3 (blk_lt h.n) (fun e => by have := h.ge; omega)).trans h.n, (hs.block p4 (blk_lt h.z) (fun e => by omega)).trans h.z,
    own_keep h.own hs (fun b hb e => own_no h.own ho hne (by rw [hb, show b = r from e])), h.ge⟩
theorem DoAt.done (h : DoAt w W p3 p4 m ta tc) (hs : Same (fun k => k = p4) W W') : Below w.heap.size w W' ∧ W'.ownsRow w.heap.size 3 1 (.slice ta m.strokes.length tc) m.strokes.length (m.strokes.map intV) :=
  ⟨hs.below h.bel h.bel.size (fun k hk => by rw [show k = p4 from hk]; have := h.ge; omega), own_keep h.own hs (fun b hb e => own_no h.own h.z (by intro cur; simp) (by rw [hb, show b = p4 from e]))⟩
end
theorem same_row (W : World) (p : Nat) (c : Array Value) : Same (fun k => k = p) W (W.setRow p c) := Same.of_grown (setRow_grown W p c) (fun k e => by cases e; rfl)
theorem maxZ_eq (x y : Int) : maxZ x y = max x y := by unfold maxZ; split <;> omega
def doC (S : HouV) (n : NoteV) (c : Int) : NoteV := { n with house := S.id, num := (S.c S.id : Int) + 1, clock := c }
def DoRet (w : World) (p mb sp : Nat) (G : Nm → Option LN) (SF : Nat → Prop) (S : HouV) (n : NoteV) (e : Ending) (W : World) : Prop :=
  (∃ ta tc, e = .returned (.tuple #[.agg (noteA (doP S n).2.1 ta tc), .int .i64 (doP S n).2.2]) ∧ RdI W ta (doP S n).2.1.strokes.length tc (doP S n).2.1.strokes) ∧
  ∃ G' SF', HouAt W p mb sp G' SF' (doP S n).1 ∧ Same (houF p mb G SF) w W ∧ ∀ k, houF p mb G' SF' k → houF p mb G SF k ∨ w.heap.size ≤ k
theorem DoRet.no {w W : World} {p mb sp : Nat} {G : Nm → Option LN} {SF : Nat → Prop} {S : HouV} {n : NoteV} {e : Ending} {c : Int} (hd : doP S n = (S, zeroN, c)) (he : e = .returned (.tuple #[.agg (noteA zeroN none 0), .int .i64 c])) (hh : HouAt w p mb sp G SF S) (hb : Below w.heap.size w W) : DoRet w p mb sp G SF S n e W :=
  ⟨⟨none, 0, by rw [hd]; exact he, by rw [hd]; exact RdA.nil _ _⟩, G, SF, by rw [hd]; exact hh.below hb, Same.of_below hb, fun k hk => .inl hk⟩
theorem cnt_le {S : HouV} (h : HInv S) (a : Int) : S.c a ≤ 400 := by
  by_cases h0 : S.c a = 0
  · omega
  · obtain ⟨x, hx, e⟩ := (h.nms a (S.c a : Int)).2 ⟨by omega, Int.le_refl _⟩
    have h1 := h.frm x hx
    simp only [formedB, Bool.and_eq_true, rightNameB, inB_true] at h1
    have h2 : x.house = a ∧ x.num = (S.c a : Int) := by simpa [nmOf] using e
    omega

theorem doN_ok {S : HouV} {n : NoteV} (h : n.Ok) (hf : formedB S.f (doN S n) = true) : (doN S n).Ok := by
  have h1 := formed_house hf
  have h2 := formed_clock hf
  have h3 : (doN S n).num ≤ 400 := by
    simp only [formedB, Bool.and_eq_true, rightNameB, inB_true] at hf
    omega
  exact ⟨by unfold I64; omega, by unfold I64; omega, by unfold I64; omega, h.day, h.kind, h.stone, h.heap, h.turns, h.hardLo, h.hardHi, h.diffLo, h.diffHi, h.a, h.b, h.ring, h.refH, h.refN, h.fix, h.strokes⟩
theorem list_of {G : Nm → Option LN} {L : List NoteV} {ks : List Nm} (gs : ∀ k x, G k = some x → x.n ∈ L ∧ x.nm = k) (gl : ∀ n ∈ L, ∃ x, G (nmOf n) = some x ∧ x.n = n) (hsr : L.Pairwise ltN) (ha : AllIn G ks) (hs : ks.Pairwise (fun x y => nmLt x y = true)) : (ks.filterMap G).map LN.n = L := by
  refine sortedN_eq ?_ hsr fun x => ?_
  · rw [List.pairwise_map]
    clear ha
    induction ks with
    | nil => exact List.Pairwise.nil
    | cons k ks ih =>
      rw [List.pairwise_cons] at hs
      cases hk : G k with
      | none => rw [List.filterMap_cons_none hk]; exact ih hs.2
      | some x =>
        rw [List.filterMap_cons_some hk]
        refine List.pairwise_cons.2 ⟨fun y hy => ?_, ih hs.2⟩
        obtain ⟨k', hk', h'⟩ := List.mem_filterMap.1 hy
        unfold ltN
        rw [show nmOf x.n = k from (gs k x hk).2, show nmOf y.n = k' from (gs k' y h').2]
        exact hs.1 k' hk'
  · constructor
    · intro hx
      obtain ⟨y, hy, rfl⟩ := List.mem_map.1 hx
      obtain ⟨k, _, hk⟩ := List.mem_filterMap.1 hy
      exact (gs k y hk).1
    · intro hx
      obtain ⟨y, hy, rfl⟩ := gl x hx
      exact List.mem_map_of_mem (List.mem_filterMap.2 ⟨_, ha _ (by rw [hy]; rfl), hy⟩)
theorem upd_gs {G : Nm → Option LN} {L : List NoteV} {x : LN} (gs : ∀ k y, G k = some y → y.n ∈ L ∧ y.nm = k) : ∀ k y, updF G (nmOf x.n) x k = some y → y.n ∈ insN L x.n ∧ y.nm = k := fun k y h => by
  unfold updF at h
  split at h
  · rename_i e
    cases h
    exact ⟨insN_mem.2 (.inr rfl), e.symm⟩
  · obtain ⟨h1, h2⟩ := gs k y h
    exact ⟨insN_mem.2 (.inl h1), h2⟩
theorem upd_gl {G : Nm → Option LN} {L : List NoteV} {x : LN} (gl : ∀ n ∈ L, ∃ y, G (nmOf n) = some y ∧ y.n = n) (hf : ∀ y ∈ L, nmOf y ≠ nmOf x.n) : ∀ n ∈ insN L x.n, ∃ y, updF G (nmOf x.n) x (nmOf n) = some y ∧ y.n = n := fun n hn => by
  rcases insN_mem.1 hn with hn | rfl
  · obtain ⟨y, h1, h2⟩ := gl n hn
    exact ⟨y, by unfold updF; rw [if_neg (hf n hn)]; exact h1, h2⟩
  · exact ⟨x, by unfold updF; rw [if_pos rfl], rfl⟩
theorem rdA_off {W W' : World} {p k : Nat} {a : Option Addr} {n c : Nat} {l : List Value} {A : Array Value} {t : TypeId} {fr : Nat × Nat} (h : RdA W k a n c l) (hs : Same (fun q => q = p) W W') (hp : W.heap[p]? = some (.cells A t fr)) (hl : ∀ v ∈ l, ∃ x, v = .int .i64 x) (hA : ∀ v ∈ A.toList, ∀ x, v ≠ .int .i64 x) : RdA W' k a n c l := by
  refine ⟨h.1, h.2.1, h.2.2.1, h.2.2.2.imp id ?_⟩
  rintro ⟨b, off, rfl, h4⟩
  refine ⟨b, off, rfl, fun i v hv => ?_⟩
  have h5 := h4 i v hv
  have hb : b ≠ p := fun e => by
    subst e
    simp only [World.cell?, hp] at h5
    obtain ⟨x, hx⟩ := hl v (List.mem_of_getElem? hv)
    rw [← Array.getElem?_toList] at h5
    exact hA v (List.mem_of_getElem? (by simpa using h5)) x hx
  rw [← h5]
  exact World.cell?_of_block (hs.block b (World.block_lt_of_cell? W _ h5) hb)
theorem cut6 {A1 A2 A3 A4 A5 A6 : Type} {P T : A1 → A2 → A3 → A4 → A5 → A6 → Prop} {G : Prop} (h1 : (∀ x1 x2 x3 x4 x5 x6, P x1 x2 x3 x4 x5 x6 → T x1 x2 x3 x4 x5 x6) → G) (h2 : ∀ x1 x2 x3 x4 x5 x6, P x1 x2 x3 x4 x5 x6 → T x1 x2 x3 x4 x5 x6) : G := h1 h2
section
attribute [local go_sem] noteA_0 noteA_1 noteA_2 noteA_4
set_option maxHeartbeats 32000000 in
set_option maxRecDepth 100000 in
theorem hdo_any (p mb sp : Nat) (G : Nm → Option LN) (SF : Nat → Prop) (S : HouV) (n : NoteV) (sa : Option Addr) (sc : Nat) (w : World) (hh : HouAt w p mb sp G SF S) (hi : HInv S) (hs : RdI w sa n.strokes.length sc n.strokes) (hok : n.Ok) (hst : n.strokes.length ≤ 1000000000) (hlen : S.l.length < 400) :
    Calls Tryz.prog 19 #[.pointer (some ⟨p, 0, none⟩), .agg (noteA n sa sc)] w fun e w' => DoRet w p mb sp G SF S n e w' := by
  have I43 := Lib.hid (show ∀ (m : NoteV) (a : Option Addr) (c : Nat), (Tryz.prog.info? 47).map (·.size) = some (noteA m a c).size from fun m a c => by kernel_rfl)
  have HH := Lib.hid hh
  have HI := Lib.hid hi
  have HOK := Lib.hid hok
  have HLEN := Lib.hid hlen
  have HLT := Lib.hid hh.lt
  obtain ⟨k, hk, hk8⟩ : ∃ k : Nat, S.id = (k : Int) ∧ k ≤ 8 := ⟨S.id.toNat, by have := hi.id; omega, by have := hi.id; omega⟩
  have HK := Lib.hid hk
  have HK8 := Lib.hid hk8
  have CB : Hid (S.c (k : Int) ≤ 400) := Lib.hid (cnt_le hi _)
  have oneZ := Lib.hid (noteA_one zeroN none 0)
  have B0 : Hid (Below w.heap.size w ((w.alloc (.cells (noteA n sa sc) 47)).alloc (.cells (noteA zeroN none 0) 47))) := Lib.hid (((Below.refl _ _).alloc (Nat.le_refl _) _).alloc (by simp) _)
  have N0 := Lib.hid (heap_before _ (.cells (noteA zeroN none 0) 47) _ _ (heap_last w (.cells (noteA n sa sc) 47)))
  have Z0 := Lib.hid (heap_at (w.alloc (.cells (noteA n sa sc) 47)) (.cells (noteA zeroN none 0) 47) (w.heap.size + 1) (by simp))
  have RS := Lib.hid (hs.below B0.out)
  clear hh hi hs hok hlen hk hk8
  go_enter Tryz.func19, Tryz.ntmps19
  go_upto_region 1 with fail
  rw [← noteA_zero]
  obtain ⟨p3, hp3⟩ : ∃ q, Hid (w.heap.size = q) := ⟨_, Lib.hid rfl⟩
  obtain ⟨p4, hp4⟩ : ∃ q, Hid (w.heap.size + 1 = q) := ⟨_, Lib.hid rfl⟩
  have GE0 : Hid (w.heap.size ≤ p3 ∧ p3 < p4) := Lib.hid (by have := hp3.out; have := hp4.out; omega)
  rw [hp3.out] at N0
  rw [hp4.out] at Z0
  rw [hp4.out, hp3.out]
  generalize (w.alloc (.cells (noteA n sa sc) 47)).alloc (.cells (noteA zeroN none 0) 47) = w0 at *
  go_wp2_with fail
  refine (made_any w0 p mb sp S.f S.id S.c (HH.out.below B0.out).blk).mono ?_
  rintro e w1 ⟨rfl, hw1⟩
  rw [hw1]
  clear hw1 w1
  go_upto_region 3 with fail
  go_wp2_with (first
    | (refine wpList_load_row rfl 47 _ rfl p3 rfl 47 (noteA n sa sc) (0, 0) _ N0.out Tryz.underlying47 rfl (I43.out _ _ _) ?_))
  refine (copied2_any n sa sc w0 RS.out hst).mono ?_
  rintro e w2 ⟨ta, tc, rfl, ho, b2⟩
  have N2 := Lib.hid (below_blk b2 N0.out)
  have Z2 := Lib.hid (below_blk b2 Z0.out)
  have B2 := Lib.hid (B0.out.trans (b2.mono B0.out.size))
  have O2 := Lib.hid (own_mono ho B0.out.size)
  clear ho b2 N0 Z0 RS
  have oneN := noteA_one n ta tc
  go_upto_region 4 with (refine wpList_store_rowN rfl 47 _ _ rfl p3 (noteA n sa sc) (noteA n ta tc) 47 rfl rfl N2.out (I43.out _ _ _) rfl oneN ?_)
  clear oneN
  have N3 := Lib.hid (setRow_at w2 p3 _ (noteA n ta tc) _ _ N2.out)
  have S3 := Lib.hid (same_row w2 p3 (noteA n ta tc))
  generalize w2.setRow p3 (noteA n ta tc) = w3 at *
  have DA : Hid (DoAt w w3 p3 p4 n ta tc) := Lib.hid ⟨S3.out.below B2.out B2.out.size (fun q hq => by rw [show q = p3 from hq]; exact GE0.out.1), N3.out, (S3.out.block p4 (blk_lt Z2.out) (fun e => by have := GE0.out; omega)).trans Z2.out, own_keep O2.out S3.out (fun b hb e => own_no O2.out N2.out (by intro cur; simp) (by rw [hb, show b = p3 from e])), GE0.out⟩
  clear N2 Z2 O2 N3 S3 B2 GE0 hst
  refine wp_region_noPanic ?_
  refine wp_region_held_drew (S := fun w' => w'.heap[p]? = some (.cells (houA S.f S.id mb S.c sp) 109 (0, 0))) (by kernel_rfl) (show w3.drew.heap[p]? = _ from (HH.out.below DA.out.bel).blk) (fun hHeld => ?_)
  have DB := Lib.hid (DA.out.below ((Below.refl w3.heap.size w3).drew))
  generalize w3.drew = V0 at *
  clear DA
  refine wpAnyH_take (i := 0) (v := .pointer (some ⟨p, 0, none⟩)) rfl (by kernel_rfl) (by kernel_rfl) (by kernel_rfl) (fun _ _ _ h => h) (Or.inl ⟨by kernel_rfl, by intro W _; go_simp⟩) (by assumption) ?_
  try simp only [Act.put, lq0, lq1, lq2, lq3, lq4, lq5]
  refine wpAnyH_take (i := 1) (v := .pointer (some ⟨p, 0, none⟩)) rfl (by kernel_rfl) (by kernel_rfl) (by kernel_rfl) (fun _ _ _ h => h) (Or.inl ⟨by kernel_rfl, by intro W _; go_simp⟩) (by assumption) ?_
  try simp only [Act.put, lq0, lq1, lq2, lq3, lq4, lq5]
  refine wpAnyH_take (i := 2) (v := .pointer (some ⟨p, 3, none⟩)) rfl (by kernel_rfl) (by kernel_rfl) (by kernel_rfl) (fun _ _ _ h => h) (Or.inl ⟨by kernel_rfl, by intro W _; go_simp⟩) (by assumption) ?_
  try simp only [Act.put, lq0, lq1, lq2, lq3, lq4, lq5]
  refine wpAnyH_take (i := 3) (v := .int .i64 (k : Int)) rfl (by kernel_rfl) (by kernel_rfl) (by kernel_rfl) (fun _ _ _ h => h) (Or.inl ⟨by kernel_rfl, by intro W h; have hc := cell_of h 3 (.int .i64 (k : Int)) (by rw [HK.out]; rfl); go_simp⟩) (by assumption) ?_
  try simp only [Act.put, lq0, lq1, lq2, lq3, lq4, lq5]
  refine wpAnyH_take (i := 4) (v := .pointer (some ⟨p, 0, none⟩)) rfl (by kernel_rfl) (by kernel_rfl) (by kernel_rfl) (fun _ _ _ h => h) (Or.inl ⟨by kernel_rfl, by intro W _; go_simp⟩) (by assumption) ?_
  try simp only [Act.put, lq0, lq1, lq2, lq3, lq4, lq5]
  refine wpAnyH_take (i := 5) (v := .pointer (some ⟨p, 0, none⟩)) rfl (by kernel_rfl) (by kernel_rfl) (by kernel_rfl) (fun _ _ _ h => h) (Or.inl ⟨by kernel_rfl, by intro W _; go_simp⟩) (by assumption) ?_
  try simp only [Act.put, lq0, lq1, lq2, lq3, lq4, lq5]
  refine wpAnyH_take (i := 6) (v := .pointer (some ⟨p, 0, none⟩)) rfl (by kernel_rfl) (by kernel_rfl) (by kernel_rfl) (fun _ _ _ h => h) (Or.inl ⟨by kernel_rfl, by intro W _; go_simp⟩) (by assumption) ?_
  try simp only [Act.put, lq0, lq1, lq2, lq3, lq4, lq5]
  refine wpAnyH_take (i := 7) (v := .pointer (some ⟨p, 3, none⟩)) rfl (by kernel_rfl) (by kernel_rfl) (by kernel_rfl) (fun _ _ _ h => h) (Or.inl ⟨by kernel_rfl, by intro W _; go_simp⟩) (by assumption) ?_
  try simp only [Act.put, lq0, lq1, lq2, lq3, lq4, lq5]
  refine wpAnyH_take (i := 8) (v := .int .i64 (k : Int)) rfl (by kernel_rfl) (by kernel_rfl) (by kernel_rfl) (fun _ _ _ h => h) (Or.inl ⟨by kernel_rfl, by intro W h; have hc := cell_of h 3 (.int .i64 (k : Int)) (by rw [HK.out]; rfl); go_simp⟩) (by assumption) ?_
  try simp only [Act.put, lq0, lq1, lq2, lq3, lq4, lq5]
  refine wpAnyH_take (i := 9) (v := .pointer (some ⟨p, 0, none⟩)) rfl (by kernel_rfl) (by kernel_rfl) (by kernel_rfl) (fun _ _ _ h => h) (Or.inl ⟨by kernel_rfl, by intro W _; go_simp⟩) (by assumption) ?_
  try simp only [Act.put, lq0, lq1, lq2, lq3, lq4, lq5]
  refine wpAnyH_take (i := 10) (v := .pointer (some ⟨p, 5, none⟩)) rfl (by kernel_rfl) (by kernel_rfl) (by kernel_rfl) (fun _ _ _ h => h) (Or.inl ⟨by kernel_rfl, by intro W _; go_simp⟩) (by assumption) ?_
  try simp only [Act.put, lq0, lq1, lq2, lq3, lq4, lq5]
  refine wpAnyH_take (i := 11) (v := .pointer (some ⟨p, 5 + k, none⟩)) rfl (by kernel_rfl) (by kernel_rfl) (by kernel_rfl) (fun _ _ _ h => h) (Or.inl ⟨by kernel_rfl, by intro W h; have hc := idx_cnt (W := W) (p := p) (k := k) (by have := HK8.out; omega); go_simp⟩) (by assumption) ?_
  try simp only [Act.put, lq0, lq1, lq2, lq3, lq4, lq5]
  refine wpAnyH_take (i := 12) (v := .int .i64 (S.c (k : Int) : Int)) rfl (by kernel_rfl) (by kernel_rfl) (by kernel_rfl) (fun _ _ _ h => h) (Or.inl ⟨by kernel_rfl, by intro W h; have hc := cell_of h (5 + k) (.int .i64 (S.c (k : Int) : Int)) (houA_cnt _ _ _ _ _ k HK8.out); go_simp⟩) (by assumption) ?_
  try simp only [Act.put, lq0, lq1, lq2, lq3, lq4, lq5]
  refine wpAnyH_take (i := 13) (v := .int .i64 ((S.c (k : Int) : Int) + 1)) rfl (by kernel_rfl) (by kernel_rfl) (by kernel_rfl) (fun _ _ _ h => h) (Or.inl ⟨by kernel_rfl, by intro W h; have hcb : IntKind.i64.wrap ((S.c (k : Int) : Int) + 1) = (S.c (k : Int) : Int) + 1 := (by have h9 := CB.out; rw [IntKind.wrap_i64]; omega); go_simp⟩) (by assumption) ?_
  try simp only [Act.put, lq0, lq1, lq2, lq3, lq4, lq5]
  refine wpAnyH_take (i := 14) (v := .pointer (some ⟨p3, 0, none⟩)) rfl (by kernel_rfl) (by kernel_rfl) (by kernel_rfl) (fun _ _ _ h => h) (Or.inl ⟨by kernel_rfl, by intro W _; go_simp⟩) (by assumption) ?_
  try simp only [Act.put, lq0, lq1, lq2, lq3, lq4, lq5]
  refine wpAnyH_ready (rs := [15]) (by kernel_rfl) (by simp) ?_
  refine AllReadyH.cons rfl (fun K hK => ?_) AllReadyH.nil
  have hc := cell_of DB.out.n 0 _ rfl
  have hfz := frozen_of DB.out.n 0
  have DE : Hid (DoAt w (V0.setCell ⟨p3, 0, none⟩ (.int .i64 (k : Int))) p3 p4 { n with house := (k : Int) } ta tc) := Lib.hid (DB.out.set (Same.of_grown (setCell_grown _ p3 0 _) (fun q e => by cases e; rfl)) (by have h1 := setCell_at DB.out.n 0 (.int .i64 (k : Int)); exact h1) rfl)
  have HP1 := Lib.hid ((HH.out.below DE.out.bel).blk)
  go_simp
  clear hc hfz hHeld
  refine hK.out _ _ HP1.out (fun hHeld => ?_)
  clear hK K
  try simp only [Act.put, lq0, lq1, lq2, lq3, lq4, lq5]
  refine wpAnyH_take (i := 16) (v := .pointer (some ⟨p3, 1, none⟩)) rfl (by kernel_rfl) (by kernel_rfl) (by kernel_rfl) (fun _ _ _ h => h) (Or.inl ⟨by kernel_rfl, by intro W _; go_simp⟩) (by assumption) ?_
  try simp only [Act.put, lq0, lq1, lq2, lq3, lq4, lq5]
  refine wpAnyH_ready (rs := [17]) (by kernel_rfl) (by simp) ?_
  refine AllReadyH.cons rfl (fun K hK => ?_) AllReadyH.nil
  have hc := cell_of DE.out.n 1 _ rfl
  have hfz := frozen_of DE.out.n 1
  have DF : Hid (DoAt w ((V0.setCell ⟨p3, 0, none⟩ (.int .i64 (k : Int))).setCell ⟨p3, 1, none⟩ (.int .i64 ((S.c (k : Int) : Int) + 1))) p3 p4 { n with house := (k : Int), num := (S.c (k : Int) : Int) + 1 } ta tc) := Lib.hid (DE.out.set (Same.of_grown (setCell_grown _ p3 1 _) (fun q e => by cases e; rfl)) (by have h1 := setCell_at DE.out.n 1 (.int .i64 ((S.c (k : Int) : Int) + 1)); exact h1) rfl)
  have HP2 := Lib.hid ((HH.out.below DF.out.bel).blk)
  go_simp
  clear hc hfz hHeld
  refine hK.out _ _ HP2.out (fun hHeld => ?_)
  clear hK K
  try simp only [Act.put, lq0, lq1, lq2, lq3, lq4, lq5]
  refine wpAnyH_take (i := 18) (v := .pointer (some ⟨p3, 2, none⟩)) rfl (by kernel_rfl) (by kernel_rfl) (by kernel_rfl) (fun _ _ _ h => h) (Or.inl ⟨by kernel_rfl, by intro W _; go_simp⟩) (by assumption) ?_
  try simp only [Act.put, lq0, lq1, lq2, lq3, lq4, lq5]
  refine wpAnyH_ready (rs := [19]) (by kernel_rfl) (by simp) ?_
  refine AllReadyH.cons rfl (fun K hK => ?_) AllReadyH.nil
  have hc := cell_of DF.out.n 2 _ rfl
  have hfz := frozen_of DF.out.n 2
  have DG : Hid (DoAt w (((V0.setCell ⟨p3, 0, none⟩ (.int .i64 (k : Int))).setCell ⟨p3, 1, none⟩ (.int .i64 ((S.c (k : Int) : Int) + 1))).setCell ⟨p3, 2, none⟩ (.int .i64 1)) p3 p4 { n with house := (k : Int), num := (S.c (k : Int) : Int) + 1, clock := 1 } ta tc) := Lib.hid (DF.out.set (Same.of_grown (setCell_grown _ p3 2 _) (fun q e => by cases e; rfl)) (by have h1 := setCell_at DF.out.n 2 (.int .i64 1); exact h1) rfl)
  have HP3 := Lib.hid ((HH.out.below DG.out.bel).blk)
  go_simp
  clear hc hfz hHeld
  refine hK.out _ _ HP3.out (fun hHeld => ?_)
  clear hK K
  try simp only [Act.put, lq0, lq1, lq2, lq3, lq4, lq5]
  refine wpAnyH_done (by kernel_rfl) ?_ _
  refine NoPanic.normal ?_
  clear HP1 HP2 HP3 DB DE DF hHeld
  have DA : Hid (DoAt w (((V0.setCell ⟨p3, 0, none⟩ (.int .i64 (k : Int))).setCell ⟨p3, 1, none⟩ (.int .i64 ((S.c (k : Int) : Int) + 1))).setCell ⟨p3, 2, none⟩ (.int .i64 1)) p3 p4 (doC S n 1) ta tc) := Lib.hid (by
    have h := DG.out
    unfold doC
    rw [HK.out]
    exact h)
  clear DG
  generalize ((V0.setCell ⟨p3, 0, none⟩ (.int .i64 (k : Int))).setCell ⟨p3, 1, none⟩ (.int .i64 ((S.c (k : Int) : Int) + 1))).setCell ⟨p3, 2, none⟩ (.int .i64 1) = w4 at *
  have c4 := cell_of (HH.out.below DA.out.bel).blk 4 (.map (some mb)) rfl
  go_wp2_with (first
    | (at_range; refine wpList_range_nm _ rfl _ 106 47 rfl Tryz.underlying106 mb S.l.length rfl (HH.out.below DA.out.bel).map ?_; intro w5 cnt0 hrg0 hg0 hs0)
    | fail)
  go_frame
  have DA5 := Lib.hid (DA.out.below (below_of_none hg0))
  obtain ⟨r, hr⟩ : ∃ r, Hid (w4.heap.size = r) := ⟨_, Lib.hid rfl⟩
  have RNG := Lib.hid hrg0
  have RGE : Hid (p4 < r) := Lib.hid (by have := blk_lt DA.out.z; have := hr.out; omega)
  rw [hr.out] at RNG
  rw [hr.out]
  clear hrg0 hg0 hs0 c4
  go_loopw [39] (fun _ wr => ∃ (ks : List Nm) (cnt : Nat) (c : Int), Hid (RangeF LN.val wr mb r S.l.length G ks cnt) ∧ Hid (DoAt w wr p3 p4 (doC S n c) ta tc) ∧ Hid (ClkOf ((ks.filterMap G).map LN.n) c)) (fun _ wr => wr.rangeLeft mb r)
  case atStart => exact ⟨[], cnt0, 1, RNG, DA5, Lib.hid ClkOf.nil⟩
  case round =>
    obtain ⟨ks, cnt, c, HR, DR, HC⟩ := hrel
    clear RNG DA5 DA
    go_upto_region 7 with (first
      | (at_next; refine wpList_next_nm wr rfl _ rfl mb r S.l.length cnt ks rfl HR.out ?_ ?_)
      | fail)
    · intro hall
      have HALL := Lib.hid hall
      clear hall
      have CK : Hid (c = clkL S.l) := Lib.hid (HC.out.uniq ((clkL_of S.l).mem fun x => by
        constructor
        · intro hx
          obtain ⟨y, hy, rfl⟩ := List.mem_map.1 hx
          obtain ⟨q, _, hq⟩ := List.mem_filterMap.1 hy
          exact (HH.out.gs q y hq).1
        · intro hx
          obtain ⟨y, hy, rfl⟩ := HH.out.gl x hx
          exact List.mem_map_of_mem (List.mem_filterMap.2 ⟨_, HALL.out _ (by rw [hy]; rfl), hy⟩)))
      have DA : Hid (DoAt w wr p3 p4 (doN S n) ta tc) := Lib.hid (by have h := DR.out; rw [CK.out] at h; exact h)
      have CK2 : Hid (clkL S.l ≤ 1099511627777) := Lib.hid (by
        rcases (clkL_of S.l).2.2 with h | ⟨x, hx, h⟩
        · omega
        · have := formed_clock (HI.out.frm x hx); omega)
      clear HR DR HC HALL CK
      have c4 := cell_of (HH.out.below DA.out.bel).blk 4 (.map (some mb)) rfl
      have cn := cell_of DA.out.n 2 (.int .i64 (clkL S.l)) rfl
      by_cases hck : 1099511627776 < clkL S.l
      · have HD := Lib.hid (show doP S n = (S, zeroN, 2) by unfold doP; rw [if_pos (.inr hck)])
        have t1 : decide (1099511627776 < clkL S.l) = true := by simp [hck]
        clear hck
        go_wp2_with (first
          | (at_len; refine wpList_len_nm rfl _ 106 47 rfl Tryz.underlying106 mb S.l.length rfl (HH.out.below DA.out.bel).map ?_; intro kk hkk; have tkk : decide ((400 : Int) ≤ (kk : Int)) = false := (by have := HLEN.out; simp; omega))
          | (refine wpList_store_rowN rfl 47 _ _ rfl p4 (noteA zeroN none 0) (noteA zeroN none 0) 47 rfl rfl DA.out.z (I43.out _ _ _) rfl oneZ.out ?_))
        refine bodyPost_ret (results_cell_row_tmp rfl _ _ p4 47 (noteA zeroN none 0) (0, 0) _ rfl (setRow_at _ p4 _ _ _ _ DA.out.z) Tryz.underlying47 rfl (I43.out _ _ _)) rfl ?_
        exact DoRet.no HD.out rfl HH.out (DA.out.done (same_row _ p4 _)).1
      · have t1 : decide (1099511627776 < clkL S.l) = false := by simp; omega
        have CK3 := Lib.hid hck
        clear hck
        go_upto_region 11 with (first
            | (at_len; refine wpList_len_nm rfl _ 106 47 rfl Tryz.underlying106 mb S.l.length rfl (HH.out.below DA.out.bel).map ?_; intro kk hkk; have tkk : decide ((400 : Int) ≤ (kk : Int)) = false := (by have := HLEN.out; simp; omega))
            | fail)
        clear t1 tkk hkk c4 cn
        have CN := Lib.hid (fun W (hb : Below wr.heap.size wr W) => checkNote_any S.f (doN S n) ta tc W (RdA.of_own (own_below DA.out.own hb)))
        have hvl : S.f.val = .agg #[.int .i64 S.f.rings, .int .i64 S.f.sectors, .int .i64 S.f.wide] := rfl
        rw [hvl] at CN
        clear hvl
        obtain ⟨z, hz⟩ : ∃ z, Hid (checkN S.f (doN S n) = z) := ⟨_, Lib.hid rfl⟩
        rw [hz.out] at CN
        have hC0 : Below wr.heap.size wr wr.drew := (Below.refl _ _).drew
        have LH := Lib.hid (show ∀ w0, Below wr.heap.size wr w0 → w0.heap[p]? = some (.cells (houA S.f S.id mb S.c sp) 109 (0, 0)) from fun w0 h => (HH.out.below (DA.out.below h).bel).blk)
        have LN3 := Lib.hid (show ∀ w0, Below wr.heap.size wr w0 → w0.heap[p3]? = some (.cells (noteA (doN S n) ta tc) 47 (0, 0)) from fun w0 h => (DA.out.below h).n)
        try simp only [Act.put, lq3, lq4, lq5]
        refine wp_region_quiet (C := fun w' : World => Below wr.heap.size wr w') (by kernel_rfl) (by kernel_rfl) hC0 ?_
        show wpQuiet _ _ _ _ (_ :: _) _
        go_big_quiet_want
        go_big_quiet_op
        go_big_quiet_on
        go_big_quiet_want
        refine ⟨.pointer (some ⟨p, 0, none⟩), fun w0 hC => ?_, ?_⟩
        · clear hC
          go_simp
        simp only [Act.put, lq3, lq4, lq5]
        go_big_quiet_on
        go_big_quiet_want
        refine ⟨.pointer (some ⟨p, 0, none⟩), fun w0 hC => ?_, ?_⟩
        · clear hC
          go_simp
        simp only [Act.put, lq3, lq4, lq5]
        go_big_quiet_on
        go_big_quiet_want
        refine ⟨.agg #[.int .i64 S.f.rings, .int .i64 S.f.sectors, .int .i64 S.f.wide], fun w0 hC => ?_, ?_⟩
        · have c0 := cell_of (LH.out w0 hC) 0 (.int .i64 S.f.rings) rfl
          have c1 := cell_of (LH.out w0 hC) 1 (.int .i64 S.f.sectors) rfl
          have c2 := cell_of (LH.out w0 hC) 2 (.int .i64 S.f.wide) rfl
          clear hC
          go_simp
        simp only [Act.put, lq3, lq4, lq5]
        go_big_quiet_on
        go_big_quiet_want
        refine ⟨.agg (noteA (doN S n) ta tc), fun w0 hC => quiet_load43 (.tmp 3) rfl p3 rfl (doN S n) ta tc (LN3.out w0 hC), ?_⟩
        simp only [Act.put, lq3, lq4, lq5]
        go_big_quiet_on
        go_big_quiet_want
        refine ⟨.int .i64 z, fun w0 hC => ?_, ?_⟩
        · go_simp
          refine (CN.out w0 hC).mono ?_
          rintro e w1 ⟨rfl, b1⟩
          exact ⟨rfl, hC.trans (b1.mono hC.size)⟩
        simp only [Act.put, lq3, lq4, lq5]
        go_big_quiet_on
        go_big_quiet_want
        refine ⟨.bool (z != 0), fun w0 hC => ?_, ?_⟩
        · clear hC
          go_simp
        simp only [Act.put, lq3, lq4, lq5]
        go_big_quiet_on
        refine wpQuiet_nil ?_
        intro w' hC
        replace DA := Lib.hid (DA.out.below hC)
        clear hC LH LN3 CN hC0
        generalize hwr : wr = wold at *
        clear hwr
        generalize w' = wr at *
        by_cases hz0 : z = 0
        case neg =>
          have HD := Lib.hid (show doP S n = (S, zeroN, 80) by unfold doP; rw [if_neg (by have := HLEN.out; have := CK3.out; omega), if_pos (by rw [hz.out]; exact hz0)])
          have t1 : (z != 0) = true := by simp [hz0]
          clear hz0
          go_wp2_with (first
            | (refine wpList_store_rowN rfl 47 _ _ rfl p4 (noteA zeroN none 0) (noteA zeroN none 0) 47 rfl rfl DA.out.z (I43.out _ _ _) rfl oneZ.out ?_))
          refine bodyPost_ret (results_cell_row_tmp rfl _ _ p4 47 (noteA zeroN none 0) (0, 0) _ rfl (setRow_at _ p4 _ _ _ _ DA.out.z) Tryz.underlying47 rfl (I43.out _ _ _)) rfl ?_
          exact DoRet.no HD.out rfl HH.out (DA.out.done (same_row _ p4 _)).1
        rw [hz0]
        have CZ : Hid (checkN S.f (doN S n) = 0) := Lib.hid (hz.out.trans hz0)
        clear hz hz0
        have FM : Hid (formedB S.f (doN S n) = true) := Lib.hid (by
          have h := CZ.out
          unfold checkN at h
          rw [if_pos HI.out.v] at h
          by_cases h2 : formedB S.f (doN S n) = true
          · exact h2
          · rw [if_neg h2] at h; cases h)
        have MOK := Lib.hid (doN_ok HOK.out FM.out)
        have HNUM : Hid ((doN S n).num = (S.c (doN S n).house : Int) + 1) := Lib.hid rfl
        have HADD := Lib.hid (HI.out.add FM.out MOK.out HNUM.out)
        have NOK : Hid (nmOk ((doN S n).house, (doN S n).num)) := Lib.hid ⟨MOK.out.house, MOK.out.num⟩
        have KIND : Hid ((doN S n).kind = n.kind) := Lib.hid rfl
        obtain ⟨m, hm⟩ : ∃ m, Hid (doN S n = m) := ⟨_, Lib.hid rfl⟩
        rw [hm.out] at DA FM MOK HNUM HADD NOK KIND
        have c4 := cell_of (HH.out.below DA.out.bel).blk 4 (.map (some mb)) rfl
        go_wp2_with fail
        refine (mapsClone_any mb S.l.length G wr (HH.out.below DA.out.bel).map).mono ?_
        rintro e w14 ⟨rfl, hmk, bk⟩
        have MK := Lib.hid hmk
        have KGE : Hid (p4 < wr.heap.size) := Lib.hid (blk_lt DA.out.z)
        replace DA := Lib.hid (DA.out.below bk)
        clear bk hmk c4
        obtain ⟨kb, hkb⟩ : ∃ q, Hid (wr.heap.size = q) := ⟨_, Lib.hid rfl⟩
        rw [hkb.out] at MK KGE
        rw [hkb.out]
        go_upto_region 14 with fail
        refine wp_region_noPanic ?_
        refine wp_region_held_drew (S := fun w' => w'.heap[p3]? = some (.cells (noteA m ta tc) 47 (0, 0))) (by kernel_rfl) (show w14.drew.heap[p3]? = _ from DA.out.n) (fun hHeld => ?_)
        replace DA := Lib.hid (DA.out.below ((Below.refl w14.heap.size w14).drew))
        replace MK := Lib.hid (MK.out.below ((Below.refl w14.heap.size w14).drew))
        generalize w14.drew = V at *
        refine wpAnyH_take (i := 0) (v := .map (some kb)) rfl (by kernel_rfl) (by kernel_rfl) (by kernel_rfl) (fun _ _ _ h => h) (Or.inl ⟨by kernel_rfl, by intro W _; go_simp⟩) (by assumption) ?_
        try simp only [Act.put, lq0, lq1, lq2, lq3, lq4, lq5]
        refine wpAnyH_take (i := 1) (v := .agg (noteA m ta tc)) rfl (by kernel_rfl) (by kernel_rfl) (by kernel_rfl) (fun _ _ _ h => h) (yields_row (by kernel_rfl) 47 _ rfl p3 rfl _ 47 (0, 0) _ (fun W h => h) Tryz.underlying47 rfl (I43.out _ _ _)) (by assumption) ?_
        try simp only [Act.put, lq0, lq1, lq2, lq3, lq4, lq5]
        refine wpAnyH_take (i := 3) (v := .agg (noteA m ta tc)) rfl (by kernel_rfl) (by kernel_rfl) (by kernel_rfl) (fun _ _ _ h => h) (yields_row (by kernel_rfl) 47 _ rfl p3 rfl _ 47 (0, 0) _ (fun W h => h) Tryz.underlying47 rfl (I43.out _ _ _)) (by assumption) ?_
        try simp only [Act.put, lq0, lq1, lq2, lq3, lq4, lq5]
        refine wpAnyH_ready (rs := [2]) (by kernel_rfl) (by simp) ?_
        refine AllReadyH.cons rfl (fun K hK => ?_) AllReadyH.nil
        go_simp
        go_at_call 58
        refine (nameOf2_any m ta tc V).mono ?_
        rintro e V' ⟨rfl, bb⟩
        replace DA := Lib.hid (DA.out.below bb)
        replace MK := Lib.hid (MK.out.below bb)
        clear bb hHeld
        dsimp only
        generalize hVo : V = Vo at *
        clear hVo
        generalize V' = V at *
        refine hK.out _ _ DA.out.n (fun hHeld => ?_)
        clear hK K
        try simp only [Act.put, lq0, lq1, lq2, lq3, lq4, lq5]
        refine wpAnyH_ready (rs := [4]) (by kernel_rfl) (by simp) ?_
        refine AllReadyH.cons rfl (fun K hK => ?_) AllReadyH.nil
        obtain ⟨V', hrun, hm3, ht3⟩ := run_put_nm (t := 106) MK.out (by have := HLEN.out; unfold maxLen; omega) Tryz.underlying106 m.house m.num NOK.out (⟨m, ta, tc⟩ : LN)
        have DA2 : Hid (DoAt w V' p3 p4 m ta tc) := Lib.hid (by
          obtain ⟨es, cl, hb⟩ := MK.out.blk
          exact DA.out.other (Same.of_grown (S := fun q => q = kb) ht3.grown (fun q e => by cases e; rfl)) KGE.out hb (by intro cur; simp))
        have MK2 : Hid (MapF LN.val V' kb (S.l.length + 1) (updF G (nmOf m) ⟨m, ta, tc⟩)) := Lib.hid hm3
        clear hm3 ht3 hHeld
        unfold LN.val at hrun
        go_simp
        clear hrun DA MK
        generalize hVo : V = Vo at *
        clear hVo
        generalize V' = V at *
        refine hK.out _ _ DA2.out.n (fun hHeld => ?_)
        clear hK K
        try simp only [Act.put, lq0, lq1, lq2, lq3, lq4, lq5]
        refine wpAnyH_done (by kernel_rfl) ?_ _
        refine NoPanic.normal ?_
        clear hHeld
        have GOK2 : Hid (GOk (updF G (nmOf m) ⟨m, ta, tc⟩) V) := Lib.hid (fun q x hx => by
          unfold updF at hx
          split at hx
          · rename_i e
            cases hx
            exact ⟨RdA.of_own DA2.out.own, by rw [e]; exact NOK.out, Nat.le_trans (formed_len HI.out.v FM.out) (by decide)⟩
          · exact ((HH.out.gok HI.out).below DA2.out.bel) q x hx)
        obtain ⟨G2, hG2⟩ : ∃ G2, Hid (updF G (nmOf m) ⟨m, ta, tc⟩ = G2) := ⟨_, Lib.hid rfl⟩
        rw [hG2.out] at MK2 GOK2
        have LST : Hid (∀ ks, AllIn G2 ks → ks.Pairwise (fun x y => nmLt x y = true) → (ks.filterMap G2).map LN.n = insN S.l m) := Lib.hid (by
          rw [← hG2.out]
          exact fun ks h1 h2 => list_of (upd_gs (x := ⟨m, ta, tc⟩) HH.out.gs) (upd_gl (x := ⟨m, ta, tc⟩) HH.out.gl HADD.out.2) HADD.out.1.srt h1 h2)
        have IOK : Hid (∀ x ∈ insN S.l m, x.Ok) := Lib.hid HADD.out.1.ok
        go_upto_region 15 with fail
        apply cut6 (P := fun (xa : Option Addr) (xn xc : Nat) (v : Value) (p9 : Nat) (W : World) => Hid (DoAt w W p3 p4 m ta tc ∧ ∃ va vb ca cn cc, v = .agg #[va, vb, .slice ca cn cc] ∧ W.heap[p9]? = some (.cells #[va, vb, .slice ca cn cc] 77 (0, 0)) ∧ RdA W 2 ca cn cc (nmCells (regV S.f (insN S.l m) (insN S.l m) 99999).2.2)))
        · intro REST
          refine wp_region_noPanic ?_
          refine wp_region_held_drew (S := fun w' => w'.heap[p]? = some (.cells (houA S.f S.id mb S.c sp) 109 (0, 0))) (by kernel_rfl) (show V.drew.heap[p]? = _ from (HH.out.below DA2.out.bel).blk) (fun hHeld => ?_)
          replace DA2 := Lib.hid (DA2.out.below ((Below.refl V.heap.size V).drew))
          replace MK2 := Lib.hid (MK2.out.below ((Below.refl V.heap.size V).drew))
          replace GOK2 := Lib.hid (GOK2.out.below ((Below.refl V.heap.size V).drew))
          generalize V.drew = U at *
          refine wpAnyH_take (i := 0) (v := .pointer (some ⟨p, 0, none⟩)) rfl (by kernel_rfl) (by kernel_rfl) (by kernel_rfl) (fun _ _ _ h => h) (Or.inl ⟨by kernel_rfl, by intro W _; go_simp⟩) (by assumption) ?_
          try simp only [Act.put, lq0, lq1, lq2, lq3, lq4, lq5]
          refine wpAnyH_take (i := 1) (v := .pointer (some ⟨p, 0, none⟩)) rfl (by kernel_rfl) (by kernel_rfl) (by kernel_rfl) (fun _ _ _ h => h) (Or.inl ⟨by kernel_rfl, by intro W _; go_simp⟩) (by assumption) ?_
          try simp only [Act.put, lq0, lq1, lq2, lq3, lq4, lq5]
          refine wpAnyH_take (i := 2) (v := .pointer (some ⟨p, 0, none⟩)) rfl (by kernel_rfl) (by kernel_rfl) (by kernel_rfl) (fun _ _ _ h => h) (Or.inl ⟨by kernel_rfl, by intro W _; go_simp⟩) (by assumption) ?_
          try simp only [Act.put, lq0, lq1, lq2, lq3, lq4, lq5]
          refine wpAnyH_take (i := 3) (v := .agg #[.int .i64 S.f.rings, .int .i64 S.f.sectors, .int .i64 S.f.wide]) rfl (by kernel_rfl) (by kernel_rfl) (by kernel_rfl) (fun _ _ _ h => h) (Or.inl ⟨by kernel_rfl, by intro W h; have h0 := cell_of h 0 (.int .i64 S.f.rings) rfl; have h1 := cell_of h 1 (.int .i64 S.f.sectors) rfl; have h2 := cell_of h 2 (.int .i64 S.f.wide) rfl; go_simp⟩) (by assumption) ?_
          try simp only [Act.put, lq0, lq1, lq2, lq3, lq4, lq5]
          refine wpAnyH_take (i := 4) (v := .map (some kb)) rfl (by kernel_rfl) (by kernel_rfl) (by kernel_rfl) (fun _ _ _ h => h) (Or.inl ⟨by kernel_rfl, by intro W _; go_simp⟩) (by assumption) ?_
          try simp only [Act.put, lq0, lq1, lq2, lq3, lq4, lq5]
          refine wpAnyH_ready (rs := [5, 10]) (by kernel_rfl) (by simp) ?_
          refine AllReadyH.cons rfl (fun K hK => ?_) ?_
          · go_simp
            go_at_call 61
            refine (list_any kb (S.l.length + 1) G2 U MK2.out (by have := HLEN.out; omega) GOK2.out).mono ?_
            rintro e U' ⟨⟨xa, xn, xc, zs, ks, rfl, h1, h2, h3, h4, h5, h6⟩, bb⟩
            have RX : Hid (RdNs U' xa xn xc (insN S.l m)) := Lib.hid (by have h7 := h1.rd; rwa [h2, LST.out ks h3 h4] at h7)
            replace DA2 := Lib.hid (DA2.out.below bb)
            replace MK2 := Lib.hid (MK2.out.below bb)
            replace GOK2 := Lib.hid (GOK2.out.below bb)
            clear h1 h2 h3 h4 h5 h6 bb hHeld
            dsimp only
            generalize hVo : U = Uo at *
            clear hVo
            generalize U' = U at *
            refine hK.out _ _ (HH.out.below DA2.out.bel).blk (fun hHeld => ?_)
            clear hK K
            try simp only [Act.put, lq0, lq1, lq2, lq3, lq4, lq5]
            refine wpAnyH_ready (rs := [6, 10]) (by kernel_rfl) (by simp) ?_
            refine AllReadyH.cons rfl (fun K hK => ?_) ?_
            · go_simp
              go_at_call 34
              refine (fold_out S.f xa xn xc (insN S.l m) U RX.out IOK.out).mono ?_
              rintro e U' ⟨v, rfl, h1, bb⟩
              have RV := Lib.hid h1
              replace DA2 := Lib.hid (DA2.out.below bb)
              replace MK2 := Lib.hid (MK2.out.below bb)
              replace GOK2 := Lib.hid (GOK2.out.below bb)
              replace RX := Lib.hid (RX.out.below bb)
              clear h1 bb hHeld
              dsimp only
              generalize hVo : U = Uo at *
              clear hVo
              generalize U' = U at *
              refine hK.out _ _ (HH.out.below DA2.out.bel).blk (fun hHeld => ?_)
              clear hK K
              try simp only [Act.put, lq0, lq1, lq2, lq3, lq4, lq5]
              refine wpAnyH_take (i := 7) (v := .tuple #[v, .int .i64 (errV S.f (insN S.l m))]) rfl (by kernel_rfl) (by kernel_rfl) (by kernel_rfl) (fun _ _ _ h => h) (Or.inl ⟨by kernel_rfl, by intro W _; go_simp⟩) (by assumption) ?_
              try simp only [Act.put, lq0, lq1, lq2, lq3, lq4, lq5]
              refine wpAnyH_take (i := 8) (v := v) rfl (by kernel_rfl) (by kernel_rfl) (by kernel_rfl) (fun _ _ _ h => h) (Or.inl ⟨by kernel_rfl, by intro W _; go_simp⟩) (by assumption) ?_
              try simp only [Act.put, lq0, lq1, lq2, lq3, lq4, lq5]
              refine wpAnyH_take (i := 9) (v := .int .i64 (errV S.f (insN S.l m))) rfl (by kernel_rfl) (by kernel_rfl) (by kernel_rfl) (fun _ _ _ h => h) (Or.inl ⟨by kernel_rfl, by intro W _; go_simp⟩) (by assumption) ?_
              try simp only [Act.put, lq0, lq1, lq2, lq3, lq4, lq5]
              refine wpAnyH_ready (rs := [10]) (by kernel_rfl) (by simp) ?_
              refine AllReadyH.cons rfl (fun K hK => ?_) AllReadyH.nil
              have bb : Below U.heap.size U (U.alloc (.cells #[.slice none 0 0, .slice none 0 0, .slice none 0 0] 77)) := (Below.refl _ _).alloc (Nat.le_refl _) _
              have P9 := Lib.hid (heap_last U (.cells #[.slice none 0 0, .slice none 0 0, .slice none 0 0] 77))
              have GE9 : Hid (p4 < U.heap.size) := Lib.hid (blk_lt DA2.out.z)
              replace DA2 := Lib.hid (DA2.out.below bb)
              replace MK2 := Lib.hid (MK2.out.below bb)
              replace GOK2 := Lib.hid (GOK2.out.below bb)
              replace RV := Lib.hid (RV.out.below bb)
              clear bb hHeld
              go_simp
              obtain ⟨p9, hp9⟩ : ∃ z, Hid (U.heap.size = z) := ⟨_, Lib.hid rfl⟩
              rw [hp9.out] at P9 GE9 ⊢
              generalize hVo : U.alloc (.cells #[.slice none 0 0, .slice none 0 0, .slice none 0 0] 77) = U' at *
              clear hVo hp9
              generalize hVo : U = Uo at *
              clear hVo
              generalize U' = U at *
              refine hK.out _ _ (HH.out.below DA2.out.bel).blk (fun hHeld => ?_)
              clear hK K
              try simp only [Act.put, lq0, lq1, lq2, lq3, lq4, lq5]
              refine wpAnyH_ready (rs := [11]) (by kernel_rfl) (by simp) ?_
              refine AllReadyH.cons rfl (fun K hK => ?_) AllReadyH.nil
              obtain ⟨ha, hn, hc, ea, en, ec, ca, cn, cc, hs, es, hv, _, _, h3, _⟩ := id RV.out
              refine oper_store_blk 77 _ _ rfl p9 #[.slice none 0 0, .slice none 0 0, .slice none 0 0] #[.slice ha hn hc, .slice ea en ec, .slice ca cn cc] 77 rfl hv P9.out (by kernel_rfl) rfl (by simp [Value.oneCell']) ?_
              intro U' q1 q2 q3
              have S9 : Hid (Same (fun q => q = p9) U U') := Lib.hid (Same.of_grown q2 (fun q e => by cases e; rfl))
              have RC : Hid (RdA U' 2 ca cn cc (nmCells (regV S.f (insN S.l m) (insN S.l m) 99999).2.2)) := Lib.hid (rdA_off h3 S9.out P9.out (fun u hu => by
                rw [nmCells, List.mem_flatMap] at hu
                obtain ⟨x, _, h⟩ := hu
                simp only [List.mem_cons, List.not_mem_nil, or_false] at h
                rcases h with rfl | rfl <;> exact ⟨_, rfl⟩) (fun u hu x => by
                simp only [List.mem_cons, List.not_mem_nil, or_false] at hu
                rcases hu with rfl | rfl | rfl <;> simp))
              replace DA2 := Lib.hid (DA2.out.other S9.out GE9.out P9.out (by intro cur; simp))
              have HV := Lib.hid hv
              have Q1 := Lib.hid q1
              clear q1 q2 q3 h3 hv P9 RV MK2 GOK2 S9 hHeld
              generalize hVo : U = Uo at *
              clear hVo
              generalize U' = U at *
              refine hK.out _ _ (HH.out.below DA2.out.bel).blk (fun hHeld => ?_)
              clear hK K
              try simp only [Act.put, lq0, lq1, lq2, lq3, lq4, lq5]
              refine wpAnyH_take (i := 12) (oi := { dst := some 10, op := .assign (.tmp 88), type := _, pos := _, after := _, guard := none }) (v := .int .i64 (errV S.f (insN S.l m))) rfl (by kernel_rfl) (by kernel_rfl) (by kernel_rfl) (fun _ _ _ h => h) (Or.inl ⟨by kernel_rfl, by intro W _; go_simp⟩) (by assumption) ?_
              try simp only [Act.put, lq0, lq1, lq2, lq3, lq4, lq5]
              refine wpAnyH_done (by kernel_rfl) ?_ _
              refine NoPanic.normal ?_
              exact REST xa xn xc v p9 U (Lib.hid ⟨DA2.out, _, _, ca, cn, cc, HV.out, Q1.out, RC.out⟩)
            refine AllReadyH.cons rfl (fun K hK => ?_) AllReadyH.nil
            have bb : Below U.heap.size U (U.alloc (.cells #[.slice none 0 0, .slice none 0 0, .slice none 0 0] 77)) := (Below.refl _ _).alloc (Nat.le_refl _) _
            have P9 := Lib.hid (heap_last U (.cells #[.slice none 0 0, .slice none 0 0, .slice none 0 0] 77))
            have GE9 : Hid (p4 < U.heap.size) := Lib.hid (blk_lt DA2.out.z)
            replace DA2 := Lib.hid (DA2.out.below bb)
            replace MK2 := Lib.hid (MK2.out.below bb)
            replace GOK2 := Lib.hid (GOK2.out.below bb)
            replace RX := Lib.hid (RX.out.below bb)
            clear bb hHeld
            go_simp
            obtain ⟨p9, hp9⟩ : ∃ z, Hid (U.heap.size = z) := ⟨_, Lib.hid rfl⟩
            rw [hp9.out] at P9 GE9 ⊢
            generalize hVo : U.alloc (.cells #[.slice none 0 0, .slice none 0 0, .slice none 0 0] 77) = U' at *
            clear hVo hp9
            generalize hVo : U = Uo at *
            clear hVo
            generalize U' = U at *
            refine hK.out _ _ (HH.out.below DA2.out.bel).blk (fun hHeld => ?_)
            clear hK K
            try simp only [Act.put, lq0, lq1, lq2, lq3, lq4, lq5]
            refine wpAnyH_ready (rs := [6]) (by kernel_rfl) (by simp) ?_
            refine AllReadyH.cons rfl (fun K hK => ?_) AllReadyH.nil
            go_simp
            go_at_call 34
            refine (fold_out S.f xa xn xc (insN S.l m) U RX.out IOK.out).mono ?_
            rintro e U' ⟨v, rfl, h1, bb⟩
            have RV := Lib.hid h1
            replace DA2 := Lib.hid (DA2.out.below bb)
            replace MK2 := Lib.hid (MK2.out.below bb)
            replace GOK2 := Lib.hid (GOK2.out.below bb)
            replace P9 := Lib.hid (below_blk bb P9.out)
            replace RX := Lib.hid (RX.out.below bb)
            clear h1 bb hHeld
            dsimp only
            generalize hVo : U = Uo at *
            clear hVo
            generalize U' = U at *
            refine hK.out _ _ (HH.out.below DA2.out.bel).blk (fun hHeld => ?_)
            clear hK K
            try simp only [Act.put, lq0, lq1, lq2, lq3, lq4, lq5]
            refine wpAnyH_take (i := 7) (v := .tuple #[v, .int .i64 (errV S.f (insN S.l m))]) rfl (by kernel_rfl) (by kernel_rfl) (by kernel_rfl) (fun _ _ _ h => h) (Or.inl ⟨by kernel_rfl, by intro W _; go_simp⟩) (by assumption) ?_
            try simp only [Act.put, lq0, lq1, lq2, lq3, lq4, lq5]
            refine wpAnyH_take (i := 8) (v := v) rfl (by kernel_rfl) (by kernel_rfl) (by kernel_rfl) (fun _ _ _ h => h) (Or.inl ⟨by kernel_rfl, by intro W _; go_simp⟩) (by assumption) ?_
            try simp only [Act.put, lq0, lq1, lq2, lq3, lq4, lq5]
            refine wpAnyH_take (i := 9) (v := .int .i64 (errV S.f (insN S.l m))) rfl (by kernel_rfl) (by kernel_rfl) (by kernel_rfl) (fun _ _ _ h => h) (Or.inl ⟨by kernel_rfl, by intro W _; go_simp⟩) (by assumption) ?_
            try simp only [Act.put, lq0, lq1, lq2, lq3, lq4, lq5]
            refine wpAnyH_ready (rs := [11]) (by kernel_rfl) (by simp) ?_
            refine AllReadyH.cons rfl (fun K hK => ?_) AllReadyH.nil
            obtain ⟨ha, hn, hc, ea, en, ec, ca, cn, cc, hs, es, hv, _, _, h3, _⟩ := id RV.out
            refine oper_store_blk 77 _ _ rfl p9 #[.slice none 0 0, .slice none 0 0, .slice none 0 0] #[.slice ha hn hc, .slice ea en ec, .slice ca cn cc] 77 rfl hv P9.out (by kernel_rfl) rfl (by simp [Value.oneCell']) ?_
            intro U' q1 q2 q3
            have S9 : Hid (Same (fun q => q = p9) U U') := Lib.hid (Same.of_grown q2 (fun q e => by cases e; rfl))
            have RC : Hid (RdA U' 2 ca cn cc (nmCells (regV S.f (insN S.l m) (insN S.l m) 99999).2.2)) := Lib.hid (rdA_off h3 S9.out P9.out (fun u hu => by
              rw [nmCells, List.mem_flatMap] at hu
              obtain ⟨x, _, h⟩ := hu
              simp only [List.mem_cons, List.not_mem_nil, or_false] at h
              rcases h with rfl | rfl <;> exact ⟨_, rfl⟩) (fun u hu x => by
              simp only [List.mem_cons, List.not_mem_nil, or_false] at hu
              rcases hu with rfl | rfl | rfl <;> simp))
            replace DA2 := Lib.hid (DA2.out.other S9.out GE9.out P9.out (by intro cur; simp))
            have HV := Lib.hid hv
            have Q1 := Lib.hid q1
            clear q1 q2 q3 h3 hv P9 RV MK2 GOK2 S9 hHeld
            generalize hVo : U = Uo at *
            clear hVo
            generalize U' = U at *
            refine hK.out _ _ (HH.out.below DA2.out.bel).blk (fun hHeld => ?_)
            clear hK K
            try simp only [Act.put, lq0, lq1, lq2, lq3, lq4, lq5]
            refine wpAnyH_take (i := 12) (oi := { dst := some 10, op := .assign (.tmp 88), type := _, pos := _, after := _, guard := none }) (v := .int .i64 (errV S.f (insN S.l m))) rfl (by kernel_rfl) (by kernel_rfl) (by kernel_rfl) (fun _ _ _ h => h) (Or.inl ⟨by kernel_rfl, by intro W _; go_simp⟩) (by assumption) ?_
            try simp only [Act.put, lq0, lq1, lq2, lq3, lq4, lq5]
            refine wpAnyH_done (by kernel_rfl) ?_ _
            refine NoPanic.normal ?_
            exact REST xa xn xc v p9 U (Lib.hid ⟨DA2.out, _, _, ca, cn, cc, HV.out, Q1.out, RC.out⟩)
          refine AllReadyH.cons rfl (fun K hK => ?_) AllReadyH.nil
          have bb : Below U.heap.size U (U.alloc (.cells #[.slice none 0 0, .slice none 0 0, .slice none 0 0] 77)) := (Below.refl _ _).alloc (Nat.le_refl _) _
          have P9 := Lib.hid (heap_last U (.cells #[.slice none 0 0, .slice none 0 0, .slice none 0 0] 77))
          have GE9 : Hid (p4 < U.heap.size) := Lib.hid (blk_lt DA2.out.z)
          replace DA2 := Lib.hid (DA2.out.below bb)
          replace MK2 := Lib.hid (MK2.out.below bb)
          replace GOK2 := Lib.hid (GOK2.out.below bb)
          clear bb hHeld
          go_simp
          obtain ⟨p9, hp9⟩ : ∃ z, Hid (U.heap.size = z) := ⟨_, Lib.hid rfl⟩
          rw [hp9.out] at P9 GE9 ⊢
          generalize hVo : U.alloc (.cells #[.slice none 0 0, .slice none 0 0, .slice none 0 0] 77) = U' at *
          clear hVo hp9
          generalize hVo : U = Uo at *
          clear hVo
          generalize U' = U at *
          refine hK.out _ _ (HH.out.below DA2.out.bel).blk (fun hHeld => ?_)
          clear hK K
          try simp only [Act.put, lq0, lq1, lq2, lq3, lq4, lq5]
          refine wpAnyH_ready (rs := [5]) (by kernel_rfl) (by simp) ?_
          refine AllReadyH.cons rfl (fun K hK => ?_) AllReadyH.nil
          go_simp
          go_at_call 61
          refine (list_any kb (S.l.length + 1) G2 U MK2.out (by have := HLEN.out; omega) GOK2.out).mono ?_
          rintro e U' ⟨⟨xa, xn, xc, zs, ks, rfl, h1, h2, h3, h4, h5, h6⟩, bb⟩
          have RX : Hid (RdNs U' xa xn xc (insN S.l m)) := Lib.hid (by have h7 := h1.rd; rwa [h2, LST.out ks h3 h4] at h7)
          replace DA2 := Lib.hid (DA2.out.below bb)
          replace MK2 := Lib.hid (MK2.out.below bb)
          replace GOK2 := Lib.hid (GOK2.out.below bb)
          replace P9 := Lib.hid (below_blk bb P9.out)
          clear h1 h2 h3 h4 h5 h6 bb hHeld
          dsimp only
          generalize hVo : U = Uo at *
          clear hVo
          generalize U' = U at *
          refine hK.out _ _ (HH.out.below DA2.out.bel).blk (fun hHeld => ?_)
          clear hK K
          try simp only [Act.put, lq0, lq1, lq2, lq3, lq4, lq5]
          refine wpAnyH_ready (rs := [6]) (by kernel_rfl) (by simp) ?_
          refine AllReadyH.cons rfl (fun K hK => ?_) AllReadyH.nil
          go_simp
          go_at_call 34
          refine (fold_out S.f xa xn xc (insN S.l m) U RX.out IOK.out).mono ?_
          rintro e U' ⟨v, rfl, h1, bb⟩
          have RV := Lib.hid h1
          replace DA2 := Lib.hid (DA2.out.below bb)
          replace MK2 := Lib.hid (MK2.out.below bb)
          replace GOK2 := Lib.hid (GOK2.out.below bb)
          replace P9 := Lib.hid (below_blk bb P9.out)
          replace RX := Lib.hid (RX.out.below bb)
          clear h1 bb hHeld
          dsimp only
          generalize hVo : U = Uo at *
          clear hVo
          generalize U' = U at *
          refine hK.out _ _ (HH.out.below DA2.out.bel).blk (fun hHeld => ?_)
          clear hK K
          try simp only [Act.put, lq0, lq1, lq2, lq3, lq4, lq5]
          refine wpAnyH_take (i := 7) (v := .tuple #[v, .int .i64 (errV S.f (insN S.l m))]) rfl (by kernel_rfl) (by kernel_rfl) (by kernel_rfl) (fun _ _ _ h => h) (Or.inl ⟨by kernel_rfl, by intro W _; go_simp⟩) (by assumption) ?_
          try simp only [Act.put, lq0, lq1, lq2, lq3, lq4, lq5]
          refine wpAnyH_take (i := 8) (v := v) rfl (by kernel_rfl) (by kernel_rfl) (by kernel_rfl) (fun _ _ _ h => h) (Or.inl ⟨by kernel_rfl, by intro W _; go_simp⟩) (by assumption) ?_
          try simp only [Act.put, lq0, lq1, lq2, lq3, lq4, lq5]
          refine wpAnyH_take (i := 9) (v := .int .i64 (errV S.f (insN S.l m))) rfl (by kernel_rfl) (by kernel_rfl) (by kernel_rfl) (fun _ _ _ h => h) (Or.inl ⟨by kernel_rfl, by intro W _; go_simp⟩) (by assumption) ?_
          try simp only [Act.put, lq0, lq1, lq2, lq3, lq4, lq5]
          refine wpAnyH_ready (rs := [11]) (by kernel_rfl) (by simp) ?_
          refine AllReadyH.cons rfl (fun K hK => ?_) AllReadyH.nil
          obtain ⟨ha, hn, hc, ea, en, ec, ca, cn, cc, hs, es, hv, _, _, h3, _⟩ := id RV.out
          refine oper_store_blk 77 _ _ rfl p9 #[.slice none 0 0, .slice none 0 0, .slice none 0 0] #[.slice ha hn hc, .slice ea en ec, .slice ca cn cc] 77 rfl hv P9.out (by kernel_rfl) rfl (by simp [Value.oneCell']) ?_
          intro U' q1 q2 q3
          have S9 : Hid (Same (fun q => q = p9) U U') := Lib.hid (Same.of_grown q2 (fun q e => by cases e; rfl))
          have RC : Hid (RdA U' 2 ca cn cc (nmCells (regV S.f (insN S.l m) (insN S.l m) 99999).2.2)) := Lib.hid (rdA_off h3 S9.out P9.out (fun u hu => by
            rw [nmCells, List.mem_flatMap] at hu
            obtain ⟨x, _, h⟩ := hu
            simp only [List.mem_cons, List.not_mem_nil, or_false] at h
            rcases h with rfl | rfl <;> exact ⟨_, rfl⟩) (fun u hu x => by
            simp only [List.mem_cons, List.not_mem_nil, or_false] at hu
            rcases hu with rfl | rfl | rfl <;> simp))
          replace DA2 := Lib.hid (DA2.out.other S9.out GE9.out P9.out (by intro cur; simp))
          have HV := Lib.hid hv
          have Q1 := Lib.hid q1
          clear q1 q2 q3 h3 hv P9 RV MK2 GOK2 S9 hHeld
          generalize hVo : U = Uo at *
          clear hVo
          generalize U' = U at *
          refine hK.out _ _ (HH.out.below DA2.out.bel).blk (fun hHeld => ?_)
          clear hK K
          try simp only [Act.put, lq0, lq1, lq2, lq3, lq4, lq5]
          refine wpAnyH_take (i := 12) (oi := { dst := some 10, op := .assign (.tmp 88), type := _, pos := _, after := _, guard := none }) (v := .int .i64 (errV S.f (insN S.l m))) rfl (by kernel_rfl) (by kernel_rfl) (by kernel_rfl) (fun _ _ _ h => h) (Or.inl ⟨by kernel_rfl, by intro W _; go_simp⟩) (by assumption) ?_
          try simp only [Act.put, lq0, lq1, lq2, lq3, lq4, lq5]
          refine wpAnyH_done (by kernel_rfl) ?_ _
          refine NoPanic.normal ?_
          exact REST xa xn xc v p9 U (Lib.hid ⟨DA2.out, _, _, ca, cn, cc, HV.out, Q1.out, RC.out⟩)
        intro xa xn xc v p9 W9 QQ
        clear DA2 MK2 GOK2 LST IOK hG2
        obtain ⟨DA, va, vb, ca, cn, cc, hv, hp9, hrc⟩ := QQ.out
        replace DA := Lib.hid DA
        have P9 := Lib.hid hp9
        have RC := Lib.hid hrc
        clear QQ hp9 hrc hv
        obtain ⟨cf, hcf⟩ : ∃ z, Hid ((regV S.f (insN S.l m) (insN S.l m) 99999).2.2 = z) := ⟨_, Lib.hid rfl⟩
        rw [hcf.out] at RC
        have DP : Hid (doP S n = if (n.kind ≠ 5 ∧ n.kind ≠ 6) ∧ nmOf m ∈ cf then (S, zeroN, 91) else (S.add m, m, 0)) := Lib.hid (by
          unfold doP
          rw [if_neg (by have := HLEN.out; have := CK3.out; omega), if_neg (by rw [CZ.out]; decide), hm.out, hcf.out])
        clear CZ hcf hm CK3
        have ck := cell_of DA.out.n 4 (.int .i64 n.kind) (by rw [← KIND.out]; rfl)
        have c9 := cell_of P9.out 2 (.slice ca cn cc) rfl
        have hmf : ∀ (fn : Fn) (first cap : Array Value) (w : World), (Instr.makeFunc fn first cap).run Tryz.prog w = .ok (.func fn first cap) w := fun _ _ _ _ => rfl
        by_cases hk5 : n.kind = 5
        · have q1 : (n.kind != 5) = false := by simp [hk5]
          have DP2 := Lib.hid (show doP S n = (S.add m, m, 0) by rw [DP.out, if_neg (fun h => h.1.1 hk5)])
          clear hk5 DP
          go_upto_region 18 with fail
          clear q1 ck c9 hmf
          go_wp2_with (first
            | (refine wpList_load_row rfl 47 _ rfl p3 rfl 47 (noteA m ta tc) (0, 0) _ DA.out.n Tryz.underlying47 rfl (I43.out _ _ _) ?_))
          refine (hadd_any p mb sp G SF S m ta tc _ (HH.out.below DA.out.bel) HI.out (fun W hs => RdA.of_own (own_keep DA.out.own hs (fun b hb h => by have h1 := HLT.out b h; have h2 := (DA.out.own.lt b hb).1; omega))) FM.out MOK.out HNUM.out (Nat.le_of_lt HLEN.out)).mono ?_
          rintro e Y2 ⟨rfl, ta2, tc2, SF', h1, h2, h3⟩
          have GB := Lib.hid DA.out.bel
          have GE := Lib.hid DA.out.ge
          have ZL := Lib.hid (blk_lt DA.out.z)
          have NH : Hid (∀ q, w.heap.size ≤ q → ¬ houF p mb G SF q) := Lib.hid (fun q hq h => by have := HLT.out q h; omega)
          have N2 := Lib.hid ((h2.block p3 (blk_lt DA.out.n) (NH.out p3 GE.out.1)).trans DA.out.n)
          have Z2 := Lib.hid ((h2.block p4 (blk_lt DA.out.z) (NH.out p4 (by have := GE.out; omega))).trans DA.out.z)
          have O2 := Lib.hid (own_keep DA.out.own h2 (fun b hb h => NH.out b (DA.out.own.lt b hb).1 h))
          have H2 := Lib.hid h1
          have S2 := Lib.hid h2
          have F2 := Lib.hid h3
          clear h1 h2 h3
          have oneM := noteA_one m ta tc
          go_wp2_with (first
            | (refine wpList_load_row rfl 47 _ rfl p3 rfl 47 (noteA m ta tc) (0, 0) _ N2.out Tryz.underlying47 rfl (I43.out _ _ _) ?_)
            | (refine wpList_store_rowN rfl 47 _ _ rfl p4 (noteA zeroN none 0) (noteA m ta tc) 47 rfl rfl Z2.out (I43.out _ _ _) rfl oneM ?_))
          refine bodyPost_ret (results_cell_row_tmp rfl _ _ p4 47 (noteA m ta tc) (0, 0) _ rfl (setRow_at _ p4 _ _ _ _ Z2.out) Tryz.underlying47 rfl (I43.out _ _ _)) rfl ?_
          have S3 := same_row Y2 p4 (noteA m ta tc)
          have P4G : w.heap.size ≤ p4 := by have := GE.out; omega
          refine ⟨⟨ta, tc, by rw [DP2.out] <;> rfl, by rw [DP2.out]; exact RdA.of_own (own_keep O2.out S3 (fun b hb e => own_no O2.out Z2.out (by intro cur; simp) (by rw [hb, show b = p4 from e])))⟩, _, SF', by
            rw [DP2.out]
            exact H2.out.same S3 (fun q hq h => by
              rw [show q = p4 from hq] at h
              rcases F2.out p4 h with h5 | h5
              · exact NH.out p4 P4G h5
              · have := ZL.out; omega), same_trans2 ((Same.of_below GB.out).trans S2.out) S3 (fun q hq => .inr (by rw [show q = p4 from hq]; exact P4G)), fun q hq => (F2.out q hq).imp id (fun h => Nat.le_trans GB.out.size h)⟩
        by_cases hk6 : n.kind = 6
        · have q1 : (n.kind != 5) = true := by simp [hk5]
          have q2 : (n.kind != 6) = false := by simp [hk6]
          have DP2 := Lib.hid (show doP S n = (S.add m, m, 0) by rw [DP.out, if_neg (fun h => h.1.2 hk6)])
          clear hk5 hk6 DP
          go_upto_region 18 with fail
          clear q1 q2 ck c9 hmf
          go_wp2_with (first
            | (refine wpList_load_row rfl 47 _ rfl p3 rfl 47 (noteA m ta tc) (0, 0) _ DA.out.n Tryz.underlying47 rfl (I43.out _ _ _) ?_))
          refine (hadd_any p mb sp G SF S m ta tc _ (HH.out.below DA.out.bel) HI.out (fun W hs => RdA.of_own (own_keep DA.out.own hs (fun b hb h => by have h1 := HLT.out b h; have h2 := (DA.out.own.lt b hb).1; omega))) FM.out MOK.out HNUM.out (Nat.le_of_lt HLEN.out)).mono ?_
          rintro e Y2 ⟨rfl, ta2, tc2, SF', h1, h2, h3⟩
          have GB := Lib.hid DA.out.bel
          have GE := Lib.hid DA.out.ge
          have ZL := Lib.hid (blk_lt DA.out.z)
          have NH : Hid (∀ q, w.heap.size ≤ q → ¬ houF p mb G SF q) := Lib.hid (fun q hq h => by have := HLT.out q h; omega)
          have N2 := Lib.hid ((h2.block p3 (blk_lt DA.out.n) (NH.out p3 GE.out.1)).trans DA.out.n)
          have Z2 := Lib.hid ((h2.block p4 (blk_lt DA.out.z) (NH.out p4 (by have := GE.out; omega))).trans DA.out.z)
          have O2 := Lib.hid (own_keep DA.out.own h2 (fun b hb h => NH.out b (DA.out.own.lt b hb).1 h))
          have H2 := Lib.hid h1
          have S2 := Lib.hid h2
          have F2 := Lib.hid h3
          clear h1 h2 h3
          have oneM := noteA_one m ta tc
          go_wp2_with (first
            | (refine wpList_load_row rfl 47 _ rfl p3 rfl 47 (noteA m ta tc) (0, 0) _ N2.out Tryz.underlying47 rfl (I43.out _ _ _) ?_)
            | (refine wpList_store_rowN rfl 47 _ _ rfl p4 (noteA zeroN none 0) (noteA m ta tc) 47 rfl rfl Z2.out (I43.out _ _ _) rfl oneM ?_))
          refine bodyPost_ret (results_cell_row_tmp rfl _ _ p4 47 (noteA m ta tc) (0, 0) _ rfl (setRow_at _ p4 _ _ _ _ Z2.out) Tryz.underlying47 rfl (I43.out _ _ _)) rfl ?_
          have S3 := same_row Y2 p4 (noteA m ta tc)
          have P4G : w.heap.size ≤ p4 := by have := GE.out; omega
          refine ⟨⟨ta, tc, by rw [DP2.out] <;> rfl, by rw [DP2.out]; exact RdA.of_own (own_keep O2.out S3 (fun b hb e => own_no O2.out Z2.out (by intro cur; simp) (by rw [hb, show b = p4 from e])))⟩, _, SF', by
            rw [DP2.out]
            exact H2.out.same S3 (fun q hq h => by
              rw [show q = p4 from hq] at h
              rcases F2.out p4 h with h5 | h5
              · exact NH.out p4 P4G h5
              · have := ZL.out; omega), same_trans2 ((Same.of_below GB.out).trans S2.out) S3 (fun q hq => .inr (by rw [show q = p4 from hq]; exact P4G)), fun q hq => (F2.out q hq).imp id (fun h => Nat.le_trans GB.out.size h)⟩
        have q1 : (n.kind != 5) = true := by simp [hk5]
        have q2 : (n.kind != 6) = true := by simp [hk6]
        go_wp2_with fail
        refine (containsM_any cf (fun x => decide (x = nmOf m)) 73 (.pointer (some ⟨p3, 0, none⟩)) do1_fn ca cn cc W9 RC.out (fun x _ W hb => do1_any p3 m ta tc x W (DA.out.below hb).n)).mono ?_
        rintro e X1 ⟨rfl, bb⟩
        replace DA := Lib.hid (DA.out.below bb)
        clear q1 q2 ck c9 hmf bb P9 RC
        cases han : cf.any (fun x => decide (x = nmOf m))
        case true =>
          have HD := Lib.hid (show doP S n = (S, zeroN, 91) by
            have hmem : nmOf m ∈ cf := by
              obtain ⟨x, hx, h⟩ := List.any_eq_true.1 han
              rw [← of_decide_eq_true h]
              exact hx
            rw [DP.out, if_pos ⟨⟨hk5, hk6⟩, hmem⟩])
          clear han hk5 hk6 DP
          go_wp2_with (first
            | (refine wpList_store_rowN rfl 47 _ _ rfl p4 (noteA zeroN none 0) (noteA zeroN none 0) 47 rfl rfl DA.out.z (I43.out _ _ _) rfl oneZ.out ?_))
          refine bodyPost_ret (results_cell_row_tmp rfl _ _ p4 47 (noteA zeroN none 0) (0, 0) _ rfl (setRow_at _ p4 _ _ _ _ DA.out.z) Tryz.underlying47 rfl (I43.out _ _ _)) rfl ?_
          exact DoRet.no HD.out rfl HH.out (DA.out.done (same_row _ p4 _)).1
        have DP2 := Lib.hid (show doP S n = (S.add m, m, 0) by
          rw [DP.out, if_neg (fun h => by
            have h1 := List.any_eq_false.1 han _ h.2
            simp at h1)])
        clear han hk5 hk6 DP
        go_upto_region 18 with fail
        go_wp2_with (first
          | (refine wpList_load_row rfl 47 _ rfl p3 rfl 47 (noteA m ta tc) (0, 0) _ DA.out.n Tryz.underlying47 rfl (I43.out _ _ _) ?_))
        refine (hadd_any p mb sp G SF S m ta tc _ (HH.out.below DA.out.bel) HI.out (fun W hs => RdA.of_own (own_keep DA.out.own hs (fun b hb h => by have h1 := HLT.out b h; have h2 := (DA.out.own.lt b hb).1; omega))) FM.out MOK.out HNUM.out (Nat.le_of_lt HLEN.out)).mono ?_
        rintro e Y2 ⟨rfl, ta2, tc2, SF', h1, h2, h3⟩
        have GB := Lib.hid DA.out.bel
        have GE := Lib.hid DA.out.ge
        have ZL := Lib.hid (blk_lt DA.out.z)
        have NH : Hid (∀ q, w.heap.size ≤ q → ¬ houF p mb G SF q) := Lib.hid (fun q hq h => by have := HLT.out q h; omega)
        have N2 := Lib.hid ((h2.block p3 (blk_lt DA.out.n) (NH.out p3 GE.out.1)).trans DA.out.n)
        have Z2 := Lib.hid ((h2.block p4 (blk_lt DA.out.z) (NH.out p4 (by have := GE.out; omega))).trans DA.out.z)
        have O2 := Lib.hid (own_keep DA.out.own h2 (fun b hb h => NH.out b (DA.out.own.lt b hb).1 h))
        have H2 := Lib.hid h1
        have S2 := Lib.hid h2
        have F2 := Lib.hid h3
        clear h1 h2 h3
        have oneM := noteA_one m ta tc
        go_wp2_with (first
          | (refine wpList_load_row rfl 47 _ rfl p3 rfl 47 (noteA m ta tc) (0, 0) _ N2.out Tryz.underlying47 rfl (I43.out _ _ _) ?_)
          | (refine wpList_store_rowN rfl 47 _ _ rfl p4 (noteA zeroN none 0) (noteA m ta tc) 47 rfl rfl Z2.out (I43.out _ _ _) rfl oneM ?_))
        refine bodyPost_ret (results_cell_row_tmp rfl _ _ p4 47 (noteA m ta tc) (0, 0) _ rfl (setRow_at _ p4 _ _ _ _ Z2.out) Tryz.underlying47 rfl (I43.out _ _ _)) rfl ?_
        have S3 := same_row Y2 p4 (noteA m ta tc)
        have P4G : w.heap.size ≤ p4 := by have := GE.out; omega
        refine ⟨⟨ta, tc, by rw [DP2.out] <;> rfl, by rw [DP2.out]; exact RdA.of_own (own_keep O2.out S3 (fun b hb e => own_no O2.out Z2.out (by intro cur; simp) (by rw [hb, show b = p4 from e])))⟩, _, SF', by
          rw [DP2.out]
          exact H2.out.same S3 (fun q hq h => by
            rw [show q = p4 from hq] at h
            rcases F2.out p4 h with h5 | h5
            · exact NH.out p4 P4G h5
            · have := ZL.out; omega), same_trans2 ((Same.of_below GB.out).trans S2.out) S3 (fun q hq => .inr (by rw [show q = p4 from hq]; exact P4G)), fun q hq => (F2.out q hq).imp id (fun h => Nat.le_trans GB.out.size h)⟩
    · intro kh km y w6 cnt1 HN hen
      unfold LN.val at hen
      have GY : Hid (G (kh, km) = some y) := Lib.hid HN.out.at_
      have R6 := Lib.hid HN.out.range
      have D6 := Lib.hid (by
        obtain ⟨bb, since, seen, cc, hb⟩ := HR.out.blk
        exact DR.out.other (Same.of_grown (S := fun q => q = r) HN.out.grown (fun q e => by cases e; rfl)) RGE.out hb (by intro cur; simp))
      have LT6 := Lib.hid HN.out.lt
      have HC6 : Hid (ClkOf (((ks ++ [(kh, km)]).filterMap G).map LN.n) (maxZ c (y.n.clock + 1))) := Lib.hid (by
        rw [List.filterMap_append, List.map_append, List.filterMap_cons_some GY.out, List.filterMap_nil]
        exact HC.out.snoc y.n)
      have YC : Hid (1 ≤ y.n.clock ∧ y.n.clock ≤ 1099511627776) := Lib.hid (formed_clock (HI.out.frm _ (HH.out.gs _ y GY.out).1))
      clear HC DR
      go_upto_region 8 with (first
        | (refine wpList_store_newp w6 rfl 47 _ _ rfl w6.heap.size rfl _ (noteA y.n y.sa y.sc) rfl rfl (I43.out _ _ _) rfl (noteA_one y.n y.sa y.sc) ?_))
      have bt : Below w6.heap.size w6 (w6.alloc (.cells (noteA y.n y.sa y.sc) 47)) := (Below.refl _ _).alloc (Nat.le_refl _) _
      have P7 := Lib.hid (heap_last w6 (.cells (noteA y.n y.sa y.sc) 47))
      have R7 := Lib.hid (R6.out.below bt)
      have D7 := Lib.hid (D6.out.below bt)
      obtain ⟨p7, hp7⟩ : ∃ q, Hid (w6.heap.size = q) := ⟨_, Lib.hid rfl⟩
      rw [hp7.out] at P7
      rw [hp7.out]
      generalize w6.alloc (.cells (noteA y.n y.sa y.sc) 47) = w7 at *
      clear bt hen R6 D6 HN
      have cn := cell_of D7.out.n 2 (.int .i64 c) rfl
      have cfz := frozen_of D7.out.n 2
      have cy := cell_of P7.out 2 (.int .i64 y.n.clock) rfl
      have hw : wrap64 (y.n.clock + 1) = y.n.clock + 1 := by have h1 := YC.out; unfold wrap64; omega
      have D8 := Lib.hid (D7.out.set (m' := doC S n (maxZ c (y.n.clock + 1))) (Same.of_grown (setCell_grown w7 p3 2 (.int .i64 (maxZ c (y.n.clock + 1)))) (fun q e => by cases e; rfl)) (by have h1 := setCell_at D7.out.n 2 (.int .i64 (maxZ c (y.n.clock + 1))); exact h1) rfl)
      have R8 := Lib.hid (R7.out.of_blocks (w' := w7.setCell ⟨p3, 2, none⟩ (.int .i64 (maxZ c (y.n.clock + 1)))) (Below.heap_setCell _ _ _ _ (fun e => by have := HLT.out mb (.inr (.inl rfl)); have := D7.out.ge.1; have e2 : mb = p3 := e; omega)) (Below.heap_setCell _ _ _ _ (fun e => by have := RGE.out; have := D7.out.ge.2; have e2 : r = p3 := e; omega)))
      clear R7 D7 P7
      rw [maxZ_eq] at D8 R8 HC6
      go_wp2_with fail
      go_roundw
      case rel => exact ⟨_, _, _, R8, D8, HC6⟩
      case measure => rw [R8.out.left_eq, HR.out.left_eq]; exact LT6.out
end
end Go.Proofs.YtlnhppgfhkkidaaGreat
namespace Go.Proofs.YtlnhppgfhkkidaaGreat
set_option linter.unusedSimpArgs false
open Go.RowKit

structure PoAt (w W : World) (pF pX : Nat) (f : FrV) (A : Array Value) (F : Nat → Prop) : Prop where
  bel : Below w.heap.size w W
  fr : W.heap[pF]? = some (.cells #[.int .i64 f.rings, .int .i64 f.sectors, .int .i64 f.wide] 23 (0, 0))
  op : W.heap[pX]? = some (.cells A 49 (0, 0))
  ge : w.heap.size ≤ pF
  g : ∀ k, F k → pF < k ∧ pX < k
section
variable {w W W' : World} {pF pX : Nat} {f : FrV} {A : Array Value} {F F' : Nat → Prop}
theorem PoAt.lt (h : PoAt w W pF pX f A F) : pF < W.heap.size ∧ pX < W.heap.size := ⟨blk_lt h.fr, blk_lt h.op⟩
theorem PoAt.below (h : PoAt w W pF pX f A F) (hb : Below W.heap.size W W') : PoAt w W' pF pX f A F :=
  ⟨h.bel.trans (hb.mono h.bel.size), below_blk hb h.fr, below_blk hb h.op, h.ge, h.g⟩
theorem PoAt.house (h : PoAt w W pF pX f A F) (hb : Below W.heap.size W W') (hF : ∀ k, F' k → W.heap.size ≤ k) : PoAt w W' pF pX f A F' :=
  ⟨(h.below hb).bel, (h.below hb).fr, (h.below hb).op, h.ge, fun k hk => ⟨Nat.lt_of_lt_of_le h.lt.1 (hF k hk), Nat.lt_of_lt_of_le h.lt.2 (hF k hk)⟩⟩
theorem PoAt.step (h : PoAt w W pF pX f A F) (hs : Same F W W') (hn : ∀ k, F' k → F k ∨ W.heap.size ≤ k) : PoAt w W' pF pX f A F' :=
  ⟨hs.below h.bel h.bel.size (fun k hk => by have := h.g k hk; have := h.ge; omega),
    (hs.block pF h.lt.1 (fun hk => Nat.lt_irrefl _ (h.g pF hk).1)).trans h.fr, (hs.block pX h.lt.2 (fun hk => Nat.lt_irrefl _ (h.g pX hk).2)).trans h.op, h.ge,
    fun k hk => (hn k hk).elim (h.g k) (fun h3 => ⟨Nat.lt_of_lt_of_le h.lt.1 h3, Nat.lt_of_lt_of_le h.lt.2 h3⟩)⟩
end
theorem RdNs.pre {W : World} {a : Option Addr} {n c k : Nat} {l : List NoteV} (h : RdNs W a n c l) (hk : k ≤ n) : RdNs W a k k (l.take k) := by
  refine ⟨by rw [List.length_take, h.1]; omega, Nat.le_refl _, Nat.le_trans hk (Nat.le_trans h.2.1 h.2.2.1), ?_⟩
  rcases h.2.2.2 with h0 | ⟨b, off, rfl, h4⟩
  · have := h.2.1
    exact .inl (by omega)
  · refine .inr ⟨b, off, rfl, fun i x hx => ?_⟩
    rw [List.getElem?_take] at hx
    split at hx
    · exact h4 i x hx
    · cases hx
theorem lnTake9 : ∀ (zs : List LN) (q : Nat), (lnCells zs).take (q * 19) = lnCells (zs.take q)
  | [], q => by simp [lnCells]
  | x :: zs, 0 => by simp [lnCells]
  | x :: zs, q + 1 => by
    have h1 : lnCells (x :: zs) = x.n.cells x.sa x.sc ++ lnCells zs := by simp [lnCells]
    have h2 : lnCells (x :: zs.take q) = x.n.cells x.sa x.sc ++ lnCells (zs.take q) := by simp [lnCells]
    have h3 : (x.n.cells x.sa x.sc).length = 19 := rfl
    rw [List.take_succ_cons, h1, h2, ← lnTake9 zs q, List.take_append, h3, show (q + 1) * 19 - 19 = q * 19 by omega, List.take_of_length_le (by rw [h3]; omega)]
theorem cutN_eq {w : World} {xa : Option Addr} {n c : Nat} {zs : List LN} (hl : RdLs w xa n c zs) (H : Nat) (h2 : H ≤ n) :
    ∃ a', (∀ W, (Instr.sliceAt 24 (.slice xa n c) none (some (.int .i64 (H : Int))) (some (.int .i64 (H : Int)))).run Tryz.prog W = .ok (.slice a' H H) W) ∧ RdNs w a' H H ((zs.map LN.n).take H) := by
  obtain ⟨i, hi, _, hs, _⟩ := info_parts infoNote
  have hrd := rdA_ls hl
  have hnc := hrd.2.1
  have hx : RdA w 19 xa H H ((lnCells zs).take (H * 19)) := by
    have hl := hrd.1
    refine ⟨by rw [List.length_take]; omega, Nat.le_refl _, by have := hrd.2.2.1; omega, ?_⟩
    rcases hrd.2.2.2 with h0 | ⟨b, off, rfl, h4⟩
    · exact .inl (by omega)
    · refine .inr ⟨b, off, rfl, fun i x hx => h4 i x ?_⟩
      rw [List.getElem?_take] at hx
      split at hx
      · exact hx
      · cases hx
  obtain ⟨a', hs', hr⟩ := RdA.sliced hx 0 H (Nat.zero_le _) (Nat.le_refl _)
  simp only [Nat.sub_zero, Nat.zero_mul, List.drop_zero, List.take_take, Nat.min_self] at hs' hr
  have hr2 : RdA w 19 a' H H (lnCells (zs.take H)) := by
    rw [← lnTake9]
    exact hr
  refine ⟨a', fun W => ?_, by rw [← List.map_take]; exact rdNs_of hr2 (fun x hx => ls_ok hl (List.mem_of_mem_take hx))⟩
  rw [← hs']
  have hel : Tryz.prog.elem 24 = 47 := by simp [Program.elem, Tryz.underlying24]
  rw [run_sliceAt_slice (P := Tryz.prog) W 24 _ _ _ _ (by rw [hel]; exact Tryz.underlying24), run_slice_any (P := Tryz.prog) W 24 xa n c (by rw [hel]; exact Tryz.underlying24)]
  have hb : (Instr.sliceBounds true n c none (some (.int .i64 (H : Int))) (some (.int .i64 (H : Int)))).run Tryz.prog W = .ok (0, H, H) W := by
    simp [Instr.sliceBounds, run_sliceBound, Result.andThen, (by omega : H ≤ c)]
  rw [hb, hel]
  simp [Result.andThen, sizeOf, typeInfo, hi, hs]
theorem PwSt.inv {s : Nat} {S : HouV} (h : PwSt s S) : HInv S := h.own.inv
theorem PwSt.doo {s : Nat} {S : HouV} (h : PwSt s S) {n : NoteV} (hok : n.Ok) : PwSt s (doP S n).1 := h.do hok (fun _ hf e => by rw [e]; exact doN_ok hok hf)
theorem small_set {S : HouV} (h : HInv S) : ∀ x ∈ S.l, SmallN x ∧ x.strokes.length ≤ 1000000 := fun x hx =>
  ⟨formed_small h.v (h.frm x hx), Nat.le_trans (formed_len h.v (h.frm x hx)) (by decide)⟩
end Go.Proofs.YtlnhppgfhkkidaaGreat
namespace Go.Proofs.YtlnhppgfhkkidaaGreat
set_option linter.unusedSimpArgs false
open Go.RowKit

def ssum (xs : List LN) : Nat := (xs.map fun x => x.n.strokes.length).sum
def lsum (xs : List LN) : Nat := xs.length + ssum xs
theorem ssum_snoc (xs : List LN) (x : LN) : ssum (xs ++ [x]) = ssum xs + x.n.strokes.length := by simp [ssum]
theorem ssum_le : ∀ {xs : List LN} {b : Nat}, (∀ x ∈ xs, x.n.strokes.length ≤ b) → ssum xs ≤ xs.length * b
  | [], b, _ => by simp [ssum]
  | x :: xs, b, h => by
    have h1 := ssum_le (xs := xs) (b := b) (fun y hy => h y (List.mem_cons_of_mem _ hy))
    have h2 := h x (List.mem_cons_self ..)
    unfold ssum at h1 ⊢
    rw [List.map_cons, List.sum_cons, List.length_cons, Nat.add_mul, Nat.one_mul, Nat.add_comm]
    exact Nat.add_le_add h1 h2
theorem ssum_cons (x : LN) (xs : List LN) : ssum (x :: xs) = x.n.strokes.length + ssum xs := by unfold ssum; rw [List.map_cons, List.sum_cons]
theorem ssum_mem {xs : List LN} {x : LN} (h : x ∈ xs) : x.n.strokes.length ≤ ssum xs := by
  induction xs with
  | nil => cases h
  | cons y xs ih =>
    rw [ssum_cons]
    rcases List.mem_cons.1 h with e | h
    · rw [e]; exact Nat.le_add_right _ _
    · exact Nat.le_trans (ih h) (Nat.le_add_left _ _)
set_option maxHeartbeats 4000000 in
set_option maxRecDepth 100000 in
theorem lightL2_any (xs : List LN) (a : Option Addr) (n c : Nat) (most : Int) (w : World) (hr : RdLs w a n c xs) (hn : n ≤ 1000) (hs : ∀ x ∈ xs, x.n.strokes.length ≤ 17592186044416) :
    Calls Tryz.prog 11 #[.slice a n c, .int .i64 most] w fun e w' => e = .returned (.bool (decide ((lsum xs : Int) ≤ most))) ∧ w' = w := by
  have J19 : (Tryz.prog.info? 47).map (·.size) = some 19 := by kernel_rfl
  have RL := Lib.hid hr
  have HN := Lib.hid hr.1
  have hn63 : n ≤ 9223372036854775807 := by have h1 := hr.2.1; have h2 := hr.2.2.1; unfold maxLen at h2; omega
  have HS := Lib.hid hs
  have HNN := Lib.hid hn
  clear hr hs hn
  go_enter Tryz.func11, Tryz.ntmps11
  go_wp2_with fail
  go_loopw [5, 6] (fun z i wr => ∃ (k : Nat) (s : Int), z = .int .i64 s ∧ i = .int .i64 (k : Int) ∧ k ≤ n ∧ Hid (s = (n : Int) + (ssum (xs.take k) : Int)) ∧ Hid (wr = w)) (fun _ i _ => n - (intOf i).toNat)
  case atStart => exact ⟨0, _, rfl, rfl, Nat.zero_le _, Lib.hid (by simp [ssum]), Lib.hid rfl⟩
  case round =>
    obtain ⟨k, s, rfl, rfl, hk, HSU, HW⟩ := hrel
    have hw := HW.out
    subst hw
    by_cases hlt : k < n
    · have t0 : decide ((k : Int) < (n : Int)) = true := by simp; omega
      obtain ⟨x, Hx⟩ : ∃ x, xs[k]? = some x := ⟨_, List.getElem?_eq_getElem (by rw [HN.out]; exact hlt)⟩
      obtain ⟨b, off, rfl, hat⟩ := RL.out.at (by omega)
      obtain ⟨o, ho⟩ : ∃ o, Hid (off + k * 19 = o) := ⟨_, Lib.hid rfl⟩
      have hx := (hat k x Hx).1
      rw [ho.out] at hx
      have c15 := hx 15 (.slice x.sa x.n.strokes.length x.sc) rfl
      have hix := fun W => idx_off (W := W) (c := c) (b := b) Tryz.underlying24 J19 hlt ho.out
      have hk64 : (k : Int) + 1 ≤ 9223372036854775807 := by omega
      have HSN : Hid (ssum (xs.take (k + 1)) = ssum (xs.take k) + x.n.strokes.length) := Lib.hid (by rw [take_snoc Hx, ssum_snoc])
      have HB : Hid (ssum (xs.take k) ≤ 1000 * 17592186044416) := Lib.hid (Nat.le_trans (ssum_le (fun y hy => HS.out y (List.mem_of_mem_take hy))) (Nat.mul_le_mul_right _ (by rw [List.length_take]; have := HNN.out; omega)))
      have HX2 := Lib.hid (HS.out x (List.mem_of_getElem? Hx))
      obtain ⟨u, hu⟩ : ∃ u, Hid (s + (x.n.strokes.length : Int) = u) := ⟨_, Lib.hid rfl⟩
      have hwr : wrap64 (s + (x.n.strokes.length : Int)) = u := by
        have h1 := HSU.out; have h2 := HB.out; have h3 := HX2.out; have h4 := HNN.out; have h5 := hu.out
        unfold wrap64; omega
      have HSU2 : Hid (u = (n : Int) + (ssum (xs.take (k + 1)) : Int)) := Lib.hid (by have h1 := HSU.out; have h2 := HSN.out; have h5 := hu.out; omega)
      clear hat hx Hx
      go_wp2_with fail
      go_roundw
      case rel => exact ⟨k + 1, u, by first | rfl | (rw [hwr]), by go_num, by omega, HSU2, (by first | exact Lib.hid rfl | exact Lib.hid trivial)⟩
      case measure => simp [intOf]; omega
    · have t0 : decide ((k : Int) < (n : Int)) = false := by simp; omega
      have hkn : k = n := by omega
      have HE : Hid (s = (lsum xs : Int)) := Lib.hid (by
        have h1 := HSU.out
        have h2 := HN.out
        rw [hkn, List.take_of_length_le (by omega)] at h1
        unfold lsum
        rw [h1, h2]
        push_cast
        rfl)
      clear HSU hkn
      go_wp2_with fail
      go_ret
      exact ⟨by rw [HE.out] <;> rfl, rfl⟩
end Go.Proofs.YtlnhppgfhkkidaaGreat
