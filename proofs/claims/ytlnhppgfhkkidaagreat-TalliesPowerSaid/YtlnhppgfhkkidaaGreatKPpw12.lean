/- Parts of the proof, in this order: A house's add; What a house hears, as values; slices.IndexFunc and ContainsFunc of names; maps.Clone of a map of notes; slices.IndexFunc and ContainsFunc of notes; The reference's wellFormed and CheckNote; The reference's CheckNote; What Hear asks of a note; whether two notes are the same; Do as values; its closure; The plain law of power: what a crash leaves of whole tallies. -/
import Derived.Shelf.SlMaps.Clone
import Derived.Test.YtlnhppgfhkkidaaGreatKPpw11
set_option linter.unusedSimpArgs false
set_option linter.unusedVariables false
open List renaming getElem_toArray → lq0, getElem_cons_succ → lq1, getElem_cons_zero → lq2, setIfInBounds_toArray → lq3, set_cons_zero → lq4, set_cons_succ → lq5
namespace Go.Proofs.YtlnhppgfhkkidaaGreat
set_option linter.unusedSimpArgs false
open Go.RowKit

theorem Stk.kind {w : World} {p : Nat} {F : Nat → Prop} {sb fb : List UInt8} {sd fd : Nat} (h : Stk w p F sb fb sd fd) : ∀ b, F b → ∃ cur t, w.heap[b]? = some (.cells cur t (0, 0)) ∧ (t = 168 ∨ t = 5) := by
  obtain ⟨sa, sc, fa, fc, h1, h2, h3, h4, h5, _⟩ := h
  intro b hb
  rcases (h5 b).1 hb with rfl | hb | hb
  · exact ⟨_, _, h1, .inl rfl⟩
  · rcases h2.2 with ⟨h6, _⟩ | ⟨g, cap, cur, h6, _, hg, _⟩
    · rw [h6] at hb; cases hb
    · rw [h6] at hb
      simp only [Value.ownBlock, Option.some.injEq] at hb
      subst hb
      exact ⟨_, _, hg, .inr rfl⟩
  · rcases h3.2 with ⟨h6, _⟩ | ⟨g, cap, cur, h6, _, hg, _⟩
    · rw [h6] at hb; cases hb
    · rw [h6] at hb
      simp only [Value.ownBlock, Option.some.injEq] at hb
      subst hb
      exact ⟨_, _, hg, .inr rfl⟩
theorem own_kind {w : World} {base k n : Nat} {e : TypeId} {v : Value} {xs : List Value} (h : w.ownsRow base e k v n xs) : ∀ b, v.ownBlock = some b → ∃ cur, w.heap[b]? = some (.cells cur e (0, 0)) := by
  intro b hb
  rcases h.2 with ⟨h6, _⟩ | ⟨g, cap, cur, h6, _, hg, _⟩
  · rw [h6] at hb; cases hb
  · rw [h6] at hb
    simp only [Value.ownBlock, Option.some.injEq] at hb
    subst hb
    exact ⟨_, hg⟩
section
variable {w W : World} {p mb sp : Nat} {G : Nm → Option LN} {SF : Nat → Prop} {S : HouV}
structure HDis (p mb : Nat) (G : Nm → Option LN) (SF : Nat → Prop) : Prop where
  pm : p ≠ mb
  ps : ¬ SF p
  ms : ¬ SF mb
  st : ∀ k x, G k = some x → ∀ b, Value.ownBlock (.slice x.sa x.n.strokes.length x.sc) = some b → b ≠ p ∧ b ≠ mb ∧ ¬ SF b
theorem HouAt.dis (h : HouAt w p mb sp G SF S) : HDis p mb G SF := by
  obtain ⟨es, cl, hm⟩ := h.map.blk
  refine ⟨fun e => ?_, fun e => ?_, fun e => ?_, fun k x hk b hb => ?_⟩
  · have h1 := h.blk
    rw [e, hm] at h1
    cases h1
  · obtain ⟨cur, t, h1, h2⟩ := h.stk.kind p e
    rw [h.blk] at h1
    simp only [Option.some.injEq, Obj.cells.injEq] at h1
    rcases h2 with rfl | rfl
    · exact absurd h1.2.1 (by decide)
    · exact absurd h1.2.1 (by decide)
  · obtain ⟨cur, t, h1, _⟩ := h.stk.kind mb e
    rw [hm] at h1
    cases h1
  · obtain ⟨cur, h1⟩ := own_kind (h.str k x hk) b hb
    refine ⟨fun e => ?_, fun e => ?_, fun e => ?_⟩
    · subst e
      rw [h.blk] at h1
      simp only [Option.some.injEq, Obj.cells.injEq] at h1
      exact absurd h1.2.1 (by decide)
    · subst e
      rw [hm] at h1
      cases h1
    · obtain ⟨cur2, t, h2, h3⟩ := h.stk.kind b e
      rw [h1] at h2
      simp only [Option.some.injEq, Obj.cells.injEq] at h2
      rcases h3 with rfl | rfl
      · exact absurd h2.2.1 (by decide)
      · exact absurd h2.2.1 (by decide)
end
def AddRet (w : World) (p mb sp : Nat) (G : Nm → Option LN) (SF : Nat → Prop) (S : HouV) (n : NoteV) (W : World) : Prop :=
  ∃ ta tc SF', HouAt W p mb sp (updF G (nmOf n) ⟨n, ta, tc⟩) SF' (S.add n) ∧ Same (houF p mb G SF) w W ∧ ∀ k, houF p mb (updF G (nmOf n) ⟨n, ta, tc⟩) SF' k → houF p mb G SF k ∨ w.heap.size ≤ k

section
attribute [local go_sem] noteA_0
set_option maxHeartbeats 16000000 in
set_option maxRecDepth 100000 in
theorem hadd_any (p mb sp : Nat) (G : Nm → Option LN) (SF : Nat → Prop) (S : HouV) (n : NoteV) (sa : Option Addr) (sc : Nat) (w : World) (hh : HouAt w p mb sp G SF S) (hi : HInv S) (hs : ∀ W, Same (houF p mb G SF) w W → RdI W sa n.strokes.length sc n.strokes)
    (hf : formedB S.f n = true) (hok : n.Ok) (hnum : n.num = (S.c n.house : Int) + 1) (hlen : S.l.length ≤ 400) :
    Calls Tryz.prog 60 #[.pointer (some ⟨p, 0, none⟩), .agg (noteA n sa sc)] w fun e w' => e = .returned (.tuple #[]) ∧ AddRet w p mb sp G SF S n w' := by
  have I43 := Lib.hid (show ∀ (m : NoteV) (a : Option Addr) (c : Nat), (Tryz.prog.info? 47).map (·.size) = some (noteA m a c).size from fun m a c => by kernel_rfl)
  have HH := Lib.hid hh
  have HI := Lib.hid hi
  have HF := Lib.hid hf
  have HOK := Lib.hid hok
  have HNUM := Lib.hid hnum
  have HLEN := Lib.hid hlen
  have DIS := Lib.hid hh.dis
  have HST := Lib.hid (show n.strokes.length ≤ 200 from formed_len hi.v hf)
  have NOK : Hid (nmOk (n.house, n.num)) := Lib.hid ⟨hok.house, hok.num⟩
  have HFREE := Lib.hid (hi.add hf hok hnum).2
  have HINV := Lib.hid (hi.add hf hok hnum).1
  obtain ⟨k, hk, hk8⟩ : ∃ k : Nat, n.house = (k : Int) ∧ k ≤ 8 := ⟨n.house.toNat, by have := formed_house hf; omega, by have := formed_house hf; omega⟩
  have HK := Lib.hid hk
  have HK8 := Lib.hid hk8
  have CB : Hid ((S.c (k : Int) : Int) + 1 ≤ 9223372036854775807) := Lib.hid (by
    have h1 := hok.num
    rw [← hk, ← hnum]
    unfold I64 at h1
    omega)
  have B0 := Lib.hid ((Below.refl w.heap.size w).alloc (Nat.le_refl _) (.cells (noteA n sa sc) 47))
  have N0 := Lib.hid (heap_last w (.cells (noteA n sa sc) 47))
  have H0 := Lib.hid (hh.below B0.out)
  have RS := Lib.hid ((hs w (Same.of_below (Below.refl _ _))).below B0.out)
  have RSL := Lib.hid (show ∀ W, Same (fun q => q = p ∨ q = mb) w W → RdI W sa n.strokes.length sc n.strokes from fun W hS => hs W (hS.weaken (fun q h => h.elim .inl (fun h => .inr (.inl h)))))
  clear hh hi hs hf hok hnum hlen hk hk8
  go_enter Tryz.func60, Tryz.ntmps60
  go_upto_region 1 with fail
  obtain ⟨p3, hp3⟩ : ∃ q, Hid (w.heap.size = q) := ⟨_, Lib.hid rfl⟩
  have NE3 : Hid (∀ b, b < w.heap.size → b ≠ p3) := Lib.hid (by have := hp3.out; omega)
  rw [hp3.out] at N0
  rw [hp3.out]
  generalize w.alloc (.cells (noteA n sa sc) 47) = w0 at *
  refine wp_region_noPanic ?_
  refine wp_region_held_drew (S := fun w' => w'.heap[p3]? = some (.cells (noteA n sa sc) 47 (0, 0)) ∧ w'.heap[p]? = some (.cells (houA S.f S.id mb S.c sp) 109 (0, 0))) (by kernel_rfl) (show w0.drew.heap[p3]? = _ ∧ w0.drew.heap[p]? = _ from ⟨N0.out, H0.out.blk⟩) (fun hHeld => ?_)
  refine wpAnyH_take (i := 0) (v := .pointer (some ⟨p, 0, none⟩)) rfl (by kernel_rfl) (by kernel_rfl) (by kernel_rfl) (fun _ _ _ h => h) (Or.inl ⟨by kernel_rfl, by intro W _; go_simp⟩) (by assumption) ?_
  try simp only [Act.put, lq0, lq1, lq2, lq3, lq4, lq5]
  refine wpAnyH_take (i := 1) (v := .pointer (some ⟨p, 0, none⟩)) rfl (by kernel_rfl) (by kernel_rfl) (by kernel_rfl) (fun _ _ _ h => h) (Or.inl ⟨by kernel_rfl, by intro W _; go_simp⟩) (by assumption) ?_
  try simp only [Act.put, lq0, lq1, lq2, lq3, lq4, lq5]
  refine wpAnyH_take (i := 2) (v := .pointer (some ⟨p, 4, none⟩)) rfl (by kernel_rfl) (by kernel_rfl) (by kernel_rfl) (fun _ _ _ h => h) (Or.inl ⟨by kernel_rfl, by intro W _; go_simp⟩) (by assumption) ?_
  try simp only [Act.put, lq0, lq1, lq2, lq3, lq4, lq5]
  refine wpAnyH_take (i := 3) (v := .map (some mb)) rfl (by kernel_rfl) (by kernel_rfl) (by kernel_rfl) (fun _ _ _ h => h) (Or.inl ⟨by kernel_rfl, by intro W h; have hc := cell_of h.2 4 (.map (some mb)) rfl; go_simp⟩) (by assumption) ?_
  try simp only [Act.put, lq0, lq1, lq2, lq3, lq4, lq5]
  refine wpAnyH_take (i := 4) (v := .agg (noteA n sa sc)) rfl (by kernel_rfl) (by kernel_rfl) (by kernel_rfl) (fun _ _ _ h => h) (yields_row (by kernel_rfl) 47 _ rfl p3 rfl _ 47 (0, 0) _ (fun W h => h.1) Tryz.underlying47 rfl (I43.out _ _ _)) (by assumption) ?_
  try simp only [Act.put, lq0, lq1, lq2, lq3, lq4, lq5]
  refine wpAnyH_take (i := 6) (v := .agg (noteA n sa sc)) rfl (by kernel_rfl) (by kernel_rfl) (by kernel_rfl) (fun _ _ _ h => h) (yields_row (by kernel_rfl) 47 _ rfl p3 rfl _ 47 (0, 0) _ (fun W h => h.1) Tryz.underlying47 rfl (I43.out _ _ _)) (by assumption) ?_
  try simp only [Act.put, lq0, lq1, lq2, lq3, lq4, lq5]
  refine wpAnyH_ready (rs := [5]) (by kernel_rfl) (by simp) ?_
  refine AllReadyH.cons rfl (fun K hK => ?_) AllReadyH.nil
  go_simp
  go_at_call 58
  refine (nameOf2_any n sa sc _).mono ?_
  rintro e v1 ⟨rfl, b1⟩
  have B1 := Lib.hid (((Below.refl w0.heap.size w0).drew).trans b1)
  have N1 := Lib.hid (below_blk B1.out N0.out)
  have P1 := Lib.hid (below_blk B1.out H0.out.blk)
  clear b1
  dsimp only
  refine hK.out _ _ ⟨N1.out, P1.out⟩ (fun hHeld => ?_)
  clear hK K
  try simp only [Act.put, lq0, lq1, lq2, lq3, lq4, lq5]
  refine wpAnyH_ready (rs := [7]) (by kernel_rfl) (by simp) ?_
  refine AllReadyH.cons rfl (fun K hK => ?_) AllReadyH.nil
  go_simp
  go_at_call 71
  refine (copied2_any n sa sc v1 (RS.out.below B1.out) (Nat.le_trans HST.out (by decide))).mono ?_
  rintro e v2 ⟨ta, tc, rfl, hown, b2⟩
  have B2 := Lib.hid (B1.out.trans (b2.mono B1.out.size))
  have N2 := Lib.hid (below_blk b2 N1.out)
  have P2 := Lib.hid (below_blk b2 P1.out)
  have O2 := Lib.hid hown
  have V1S := Lib.hid B1.out.size
  clear b2 hown N1 P1
  dsimp only
  refine hK.out _ _ ⟨N2.out, P2.out⟩ (fun hHeld => ?_)
  clear hK K
  try simp only [Act.put, lq0, lq1, lq2, lq3, lq4, lq5]
  refine wpAnyH_ready (rs := [8]) (by kernel_rfl) (by simp) ?_
  refine AllReadyH.cons rfl (fun K hK => ?_) AllReadyH.nil
  obtain ⟨v3, hrun, hm3, ht3⟩ := run_put_nm (t := 106) (H0.out.map.below B2.out) (by have := HLEN.out; unfold maxLen; omega) Tryz.underlying106 n.house n.num NOK.out (⟨n, ta, tc⟩ : LN)
  have M3 := Lib.hid hm3
  have G3 := Lib.hid ht3.grown
  have N3 := Lib.hid (grown_blk ht3.grown N2.out (fun e => absurd (Option.some.inj e) (NE3.out mb HH.out.map.lt).symm))
  have P3 := Lib.hid (grown_blk ht3.grown P2.out (fun e => absurd (Option.some.inj e) DIS.out.pm))
  clear hm3 ht3
  unfold LN.val at hrun
  go_simp
  refine hK.out _ _ ⟨N3.out, P3.out⟩ (fun hHeld => ?_)
  clear hK K
  try simp only [Act.put, lq0, lq1, lq2, lq3, lq4, lq5]
  refine wpAnyH_done (by kernel_rfl) ?_ _
  refine NoPanic.normal ?_
  have S3 : Hid (Same (fun q => q = mb) w v3) := Lib.hid (((Same.of_below B0.out).trans (Same.of_below B2.out)).trans (Same.of_grown G3.out (fun q e => by cases e; rfl)))
  have O3 := Lib.hid (show v3.ownsRow w.heap.size 3 1 (.slice ta n.strokes.length tc) n.strokes.length (n.strokes.map intV) from (own_mono O2.out (Nat.le_trans B0.out.size V1S.out)).kept G3.out (.inr (by
    obtain ⟨es, cl, hm⟩ := (H0.out.map.below B2.out).blk
    exact (own_no O2.out hm (by intro cur; simp)).symm)))
  clear G3 N2 P2 O2 V1S B2 hrun
  go_upto_region 2 with fail
  refine wp_region_noPanic ?_
  refine wp_region_held_drew (S := fun w' => w'.heap[p3]? = some (.cells (noteA n sa sc) 47 (0, 0))) (by kernel_rfl) (show v3.drew.heap[p3]? = _ from N3.out) (fun hHeld => ?_)
  refine wpAnyH_take (i := 0) (v := .pointer (some ⟨p, 0, none⟩)) rfl (by kernel_rfl) (by kernel_rfl) (by kernel_rfl) (fun _ _ _ h => h) (Or.inl ⟨by kernel_rfl, by intro W _; go_simp⟩) (by assumption) ?_
  try simp only [Act.put, lq0, lq1, lq2, lq3, lq4, lq5]
  refine wpAnyH_take (i := 1) (v := .pointer (some ⟨p3, 0, none⟩)) rfl (by kernel_rfl) (by kernel_rfl) (by kernel_rfl) (fun _ _ _ h => h) (Or.inl ⟨by kernel_rfl, by intro W _; go_simp⟩) (by assumption) ?_
  try simp only [Act.put, lq0, lq1, lq2, lq3, lq4, lq5]
  refine wpAnyH_take (i := 2) (v := .int .i64 (k : Int)) rfl (by kernel_rfl) (by kernel_rfl) (by kernel_rfl) (fun _ _ _ h => h) (Or.inl ⟨by kernel_rfl, by intro W h; have hc : W.cell? ⟨p3, 0, none⟩ = some (.int .i64 (k : Int)) := (by rw [← HK.out]; exact cell_of h 0 (.int .i64 n.house) rfl); go_simp⟩) (by assumption) ?_
  try simp only [Act.put, lq0, lq1, lq2, lq3, lq4, lq5]
  refine wpAnyH_take (i := 3) (v := .pointer (some ⟨p, 0, none⟩)) rfl (by kernel_rfl) (by kernel_rfl) (by kernel_rfl) (fun _ _ _ h => h) (Or.inl ⟨by kernel_rfl, by intro W _; go_simp⟩) (by assumption) ?_
  try simp only [Act.put, lq0, lq1, lq2, lq3, lq4, lq5]
  refine wpAnyH_take (i := 4) (v := .pointer (some ⟨p, 5, none⟩)) rfl (by kernel_rfl) (by kernel_rfl) (by kernel_rfl) (fun _ _ _ h => h) (Or.inl ⟨by kernel_rfl, by intro W _; go_simp⟩) (by assumption) ?_
  try simp only [Act.put, lq0, lq1, lq2, lq3, lq4, lq5]
  refine wpAnyH_take (i := 5) (v := .pointer (some ⟨p, 5 + k, none⟩)) rfl (by kernel_rfl) (by kernel_rfl) (by kernel_rfl) (fun _ _ _ h => h) (Or.inl ⟨by kernel_rfl, by intro W h; have hc := idx_cnt (W := W) (p := p) (k := k) (by have := HK8.out; omega); go_simp⟩) (by assumption) ?_
  try simp only [Act.put, lq0, lq1, lq2, lq3, lq4, lq5]
  refine wpAnyH_take (i := 8) (v := .pointer (some ⟨p, 0, none⟩)) rfl (by kernel_rfl) (by kernel_rfl) (by kernel_rfl) (fun _ _ _ h => h) (Or.inl ⟨by kernel_rfl, by intro W _; go_simp⟩) (by assumption) ?_
  try simp only [Act.put, lq0, lq1, lq2, lq3, lq4, lq5]
  refine wpAnyH_take (i := 9) (v := .pointer (some ⟨p, 5, none⟩)) rfl (by kernel_rfl) (by kernel_rfl) (by kernel_rfl) (fun _ _ _ h => h) (Or.inl ⟨by kernel_rfl, by intro W _; go_simp⟩) (by assumption) ?_
  try simp only [Act.put, lq0, lq1, lq2, lq3, lq4, lq5]
  refine wpAnyH_ready (rs := [6]) (by kernel_rfl) (by simp) ?_
  refine AllReadyH.cons rfl (fun K hK => ?_) AllReadyH.nil
  have hc := cell_of (show v3.drew.heap[p]? = _ from P3.out) (5 + k) (.int .i64 (S.c (k : Int) : Int)) (houA_cnt _ _ _ _ _ k HK8.out)
  go_simp
  clear hc
  refine hK.out _ _ N3.out (fun hHeld => ?_)
  clear hK K
  try simp only [Act.put, lq0, lq1, lq2, lq3, lq4, lq5]
  refine wpAnyH_take (i := 7) (v := .int .i64 ((S.c (k : Int) : Int) + 1)) rfl (by kernel_rfl) (by kernel_rfl) (by kernel_rfl) (fun _ _ _ h => h) (Or.inl ⟨by kernel_rfl, by intro W h; have hcb : IntKind.i64.wrap ((S.c (k : Int) : Int) + 1) = (S.c (k : Int) : Int) + 1 := (by have h9 := CB.out; rw [IntKind.wrap_i64]; omega); go_simp⟩) (by assumption) ?_
  try simp only [Act.put, lq0, lq1, lq2, lq3, lq4, lq5]
  refine wpAnyH_take (i := 10) (v := .pointer (some ⟨p, 5 + k, none⟩)) rfl (by kernel_rfl) (by kernel_rfl) (by kernel_rfl) (fun _ _ _ h => h) (Or.inl ⟨by kernel_rfl, by intro W h; have hc := idx_cnt (W := W) (p := p) (k := k) (by have := HK8.out; omega); go_simp⟩) (by assumption) ?_
  try simp only [Act.put, lq0, lq1, lq2, lq3, lq4, lq5]
  refine wpAnyH_ready (rs := [11]) (by kernel_rfl) (by simp) ?_
  refine AllReadyH.cons rfl (fun K hK => ?_) AllReadyH.nil
  have hc := cell_of (show v3.drew.heap[p]? = _ from P3.out) (5 + k) (.int .i64 (S.c (k : Int) : Int)) (houA_cnt _ _ _ _ _ k HK8.out)
  have hfz := frozen_of (show v3.drew.heap[p]? = _ from P3.out) (5 + k)
  have P4 : Hid ((v3.drew.setCell ⟨p, 5 + k, none⟩ (.int .i64 ((S.c (k : Int) : Int) + 1))).heap[p]? = some (.cells (houA S.f S.id mb (bump S.c (k : Int)) sp) 109 (0, 0))) := Lib.hid (by
    have h1 := setCell_at (show v3.drew.heap[p]? = _ from P3.out) (5 + k) (.int .i64 ((S.c (k : Int) : Int) + 1))
    rwa [houA_set _ _ _ _ _ k HK8.out] at h1)
  have G4 := Lib.hid (setCell_grown v3.drew p (5 + k) (.int .i64 ((S.c (k : Int) : Int) + 1)))
  have N4 := Lib.hid (grown_blk G4.out (show v3.drew.heap[p3]? = _ from N3.out) (fun e => absurd (Option.some.inj e) (NE3.out p (blk_lt HH.out.blk)).symm))
  go_simp
  refine hK.out _ _ N4.out (fun hHeld => ?_)
  clear hK K
  try simp only [Act.put, lq0, lq1, lq2, lq3, lq4, lq5]
  refine wpAnyH_done (by kernel_rfl) ?_ _
  refine NoPanic.normal ?_
  clear hc hfz
  change Exit.then _ _ _ _ (v3.drew.setCell ⟨p, 5 + k, none⟩ (.int .i64 ((S.c (k : Int) : Int) + 1)))
  generalize v3.drew.setCell ⟨p, 5 + k, none⟩ (.int .i64 ((S.c (k : Int) : Int) + 1)) = v4 at *
  have S4 : Hid (Same (fun q => q = p ∨ q = mb) w v4) := Lib.hid (((S3.out.weaken (fun q h => .inr h)).trans (Same.of_below ((Below.refl v3.heap.size v3).drew))).trans (Same.of_grown G4.out (fun q e => by cases e; exact .inl rfl)))
  have M4 := Lib.hid (show MapF LN.val v4 mb (S.l.length + 1) (updF G (n.house, n.num) ⟨n, ta, tc⟩) from (M3.out.below ((Below.refl v3.heap.size v3).drew)).kept G4.out (fun e => absurd (Option.some.inj e).symm DIS.out.pm))
  have O4 := Lib.hid (show v4.ownsRow w.heap.size 3 1 (.slice ta n.strokes.length tc) n.strokes.length (n.strokes.map intV) from (own_below O3.out ((Below.refl v3.heap.size v3).drew)).kept G4.out (.inr (own_no (own_below O3.out ((Below.refl v3.heap.size v3).drew)) (show v3.drew.heap[p]? = _ from P3.out) (by intro cur; simp)).symm))
  have K4 := Lib.hid (show Stk v4 sp SF S.sb S.fb S.sd S.fd from HH.out.stk.same S4.out (fun q hq hF => by
    rcases hq with rfl | rfl
    · exact DIS.out.ps hF
    · exact DIS.out.ms hF))
  have RS4 := Lib.hid (show RdI v4 sa n.strokes.length sc n.strokes from RSL.out v4 S4.out)
  clear G4 N3 P3 S3 M3 O3
  go_upto_region 3 with fail
  refine wp_region_noPanic ?_
  refine wp_region_held_drew (S := fun w' => w'.heap[p3]? = some (.cells (noteA n sa sc) 47 (0, 0)) ∧ w'.heap[p]? = some (.cells (houA S.f S.id mb (bump S.c (k : Int)) sp) 109 (0, 0))) (by kernel_rfl) (show v4.drew.heap[p3]? = _ ∧ v4.drew.heap[p]? = _ from ⟨N4.out, P4.out⟩) (fun hHeld => ?_)
  refine wpAnyH_take (i := 0) (v := .pointer (some ⟨p, 0, none⟩)) rfl (by kernel_rfl) (by kernel_rfl) (by kernel_rfl) (fun _ _ _ h => h) (Or.inl ⟨by kernel_rfl, by intro W _; go_simp⟩) (by assumption) ?_
  try simp only [Act.put, lq0, lq1, lq2, lq3, lq4, lq5]
  refine wpAnyH_take (i := 1) (v := .pointer (some ⟨p, 0, none⟩)) rfl (by kernel_rfl) (by kernel_rfl) (by kernel_rfl) (fun _ _ _ h => h) (Or.inl ⟨by kernel_rfl, by intro W _; go_simp⟩) (by assumption) ?_
  try simp only [Act.put, lq0, lq1, lq2, lq3, lq4, lq5]
  refine wpAnyH_take (i := 2) (v := .pointer (some ⟨p, 14, none⟩)) rfl (by kernel_rfl) (by kernel_rfl) (by kernel_rfl) (fun _ _ _ h => h) (Or.inl ⟨by kernel_rfl, by intro W _; go_simp⟩) (by assumption) ?_
  try simp only [Act.put, lq0, lq1, lq2, lq3, lq4, lq5]
  refine wpAnyH_take (i := 3) (v := .pointer (some ⟨sp, 0, none⟩)) rfl (by kernel_rfl) (by kernel_rfl) (by kernel_rfl) (fun _ _ _ h => h) (Or.inl ⟨by kernel_rfl, by intro W h; have hc := cell_of h.2 14 (.pointer (some ⟨sp, 0, none⟩)) rfl; go_simp⟩) (by assumption) ?_
  try simp only [Act.put, lq0, lq1, lq2, lq3, lq4, lq5]
  refine wpAnyH_take (i := 4) (v := .agg (noteA n sa sc)) rfl (by kernel_rfl) (by kernel_rfl) (by kernel_rfl) (fun _ _ _ h => h) (yields_row (by kernel_rfl) 47 _ rfl p3 rfl _ 47 (0, 0) _ (fun W h => h.1) Tryz.underlying47 rfl (I43.out _ _ _)) (by assumption) ?_
  try simp only [Act.put, lq0, lq1, lq2, lq3, lq4, lq5]
  refine wpAnyH_ready (rs := [5]) (by kernel_rfl) (by simp) ?_
  refine AllReadyH.cons rfl (fun K hK => ?_) AllReadyH.nil
  go_simp
  go_at_call 117
  refine (encoded_any n sa sc v4.drew (RS4.out.below ((Below.refl v4.heap.size v4).drew)) (formed_small HI.out.v HF.out) (Nat.le_trans HST.out (by decide))).mono ?_
  rintro e v5 ⟨ba, bc, rfl, hb5, b5⟩
  have B5 := Lib.hid (((Below.refl v4.heap.size v4).drew).trans b5)
  have R5 := Lib.hid (RdB.of_own hb5)
  have N5 := Lib.hid (below_blk B5.out N4.out)
  have P5 := Lib.hid (below_blk B5.out P4.out)
  clear hb5 b5
  dsimp only
  refine hK.out _ _ ⟨N5.out, P5.out⟩ (fun hHeld => ?_)
  clear hK K
  try simp only [Act.put, lq0, lq1, lq2, lq3, lq4, lq5]
  refine wpAnyH_ready (rs := [6]) (by kernel_rfl) (by simp) ?_
  refine AllReadyH.cons rfl (fun K hK => ?_) AllReadyH.nil
  go_simp
  go_at_call 109
  have hel := formed_enc HI.out.v HF.out
  refine (put_any v5 sp SF S.sb S.fb S.sd S.fd ba (encN n).length bc (encN n) (K4.out.same (S := fun _ => False) (Same.of_below B5.out) (fun _ h => h.elim)) R5.out (by omega) (by have h1 := HI.out.sbl; have h2 := HI.out.len; have h3 := HLEN.out; omega) (by have h1 := HI.out.fbl; have h2 := HI.out.len; have h3 := HLEN.out; omega)).mono ?_
  rintro e v6 ⟨rfl, SF', hk6, hs6, hf6⟩
  have P6 := Lib.hid ((hs6.block p (blk_lt P5.out) DIS.out.ps).trans P5.out)
  have N6 := Lib.hid ((hs6.block p3 (blk_lt N5.out) (fun hF => absurd rfl (NE3.out p3 (HH.out.stk.lt p3 hF)))).trans N5.out)
  have K6 := Lib.hid hk6
  have S6 := Lib.hid hs6
  have F6 := Lib.hid hf6
  clear hk6 hs6 hf6 hel
  dsimp only
  refine hK.out _ _ ⟨N6.out, P6.out⟩ (fun hHeld => ?_)
  clear hK K
  try simp only [Act.put, lq0, lq1, lq2, lq3, lq4, lq5]
  refine wpAnyH_done (by kernel_rfl) ?_ _
  refine NoPanic.normal ?_
  go_wp2_with fail
  go_end0
  have S46 : Hid (Same (fun q => q = p ∨ q = mb ∨ SF q) w v6) := Lib.hid (((S4.out.weaken (fun q h => h.elim .inl (fun h => .inr (.inl h)))).trans (Same.of_below B5.out)).trans (S6.out.weaken (fun q h => .inr (.inr h))))
  have O6 : Hid (v6.ownsRow w.heap.size 3 1 (.slice ta n.strokes.length tc) n.strokes.length (n.strokes.map intV)) := Lib.hid (own_keep (own_below O4.out B5.out) S6.out (fun b hb hF => absurd (HH.out.stk.lt b hF) (by have := (O4.out.lt b hb).1; omega)))
  have M6 : Hid (MapF LN.val v6 mb (S.l.length + 1) (updF G (n.house, n.num) ⟨n, ta, tc⟩)) := Lib.hid ((M4.out.below B5.out).of_block (S6.out.block mb (Nat.lt_of_lt_of_le M4.out.lt B5.out.size) DIS.out.ms))
  refine ⟨rfl, ta, tc, SF', ⟨?_, ?_, fun a x hx => ?_, fun y hy => ?_, fun a x hx => ?_, K6.out⟩, ?_, ?_⟩
  · have := P6.out
    rwa [← HK.out] at this
  · have h1 := M6.out
    show MapF LN.val v6 mb (insN S.l n).length _
    rwa [insN, (insG_perm _ n S.l).length_eq, List.length_cons]
  · unfold updF at hx
    split at hx
    · rename_i e
      cases hx
      exact ⟨insN_mem.2 (.inr rfl), e.symm⟩
    · obtain ⟨h1, h2⟩ := HH.out.gs a x hx
      exact ⟨insN_mem.2 (.inl h1), h2⟩
  · rcases insN_mem.1 hy with hy | rfl
    · obtain ⟨x, h1, h2⟩ := HH.out.gl y hy
      refine ⟨x, ?_, h2⟩
      unfold updF
      rw [if_neg (HFREE.out y hy)]
      exact h1
    · exact ⟨⟨y, ta, tc⟩, by unfold updF; rw [if_pos rfl], rfl⟩
  · unfold updF at hx
    split at hx
    · cases hx
      exact own_mono O6.out (Nat.zero_le _)
    · exact own_keep (HH.out.str a x hx) S46.out (fun b hb hq => by
        obtain ⟨d1, d2, d3⟩ := DIS.out.st a x hx b hb
        rcases hq with hq | hq | hq
        · exact d1 hq
        · exact d2 hq
        · exact d3 hq)
  · exact S46.out.weaken (fun q h => by
      rcases h with h | h | h
      · exact .inl h
      · exact .inr (.inl h)
      · exact .inr (.inr (.inl h)))
  · rintro q (h | h | h | ⟨a, x, h, h2⟩)
    · exact .inl (.inl h)
    · exact .inl (.inr (.inl h))
    · rcases F6.out q h with h3 | h3
      · exact .inl (.inr (.inr (.inl h3)))
      · exact .inr (Nat.le_trans S4.out.size (Nat.le_trans B5.out.size h3))
    · unfold updF at h
      split at h
      · cases h
        exact .inr (O6.out.lt q h2).1
      · exact .inl (.inr (.inr (.inr ⟨a, x, h, h2⟩)))
end
end Go.Proofs.YtlnhppgfhkkidaaGreat
namespace Go.Proofs.YtlnhppgfhkkidaaGreat
set_option linter.unusedSimpArgs false
set_option linter.unusedVariables false

def seqOk (c : Int → Nat) : List NoteV → Prop
  | [] => True
  | n :: ns => n.num = (c n.house : Int) + 1 ∧ seqOk (bump c n.house) ns
theorem hear_seq {l : List NoteV} : ∀ (ns fr : List NoteV) (c : Int → Nat) {fr' : List NoteV} {c' : Int → Nat}, NmsOk (l ++ fr) c → (∀ n ∈ ns, 1 ≤ n.num) → hearGo l fr c ns = some (fr', c') → ∃ t, fr' = fr ++ t ∧ seqOk c t ∧ ∀ x ∈ t, x ∈ ns
  | [], fr, c, fr', c', _, _, h => by
    simp only [hearGo, Option.some.injEq, Prod.mk.injEq] at h
    exact ⟨[], by rw [h.1, List.append_nil], trivial, fun x hx => by cases hx⟩
  | n :: ns, fr, c, fr', c', h1, h3, h => by
    rw [hearGo] at h
    have h3' : ∀ m ∈ ns, 1 ≤ m.num := fun m hm => h3 m (List.mem_cons_of_mem _ hm)
    split at h
    · split at h
      · obtain ⟨t, a1, a2, a3⟩ := hear_seq ns fr c h1 h3' h
        exact ⟨t, a1, a2, fun x hx => List.mem_cons_of_mem _ (a3 x hx)⟩
      · cases h
    · rename_i hk
      split at h
      · obtain ⟨t, a1, a2, a3⟩ := hear_seq ns fr c h1 h3' h
        exact ⟨t, a1, a2, fun x hx => List.mem_cons_of_mem _ (a3 x hx)⟩
      · rename_i hle
        have hlt := h1.free (h3 n (List.mem_cons_self ..)) (knownBy_none hk)
        have hadd := h1.add (n := n) (by omega)
        rw [List.append_assoc] at hadd
        obtain ⟨t, a1, a2, a3⟩ := hear_seq ns (fr ++ [n]) (bump c n.house) hadd h3' h
        refine ⟨n :: t, by rw [a1, List.append_assoc]; rfl, ⟨by omega, a2⟩, fun x hx => ?_⟩
        rcases List.mem_cons.1 hx with rfl | hx
        · exact List.mem_cons_self ..
        · exact List.mem_cons_of_mem _ (a3 x hx)
def HouV.adds (S : HouV) (fr : List NoteV) : HouV := fr.foldl HouV.add S
theorem adds_snoc (S : HouV) (fr : List NoteV) (n : NoteV) : S.adds (fr ++ [n]) = (S.adds fr).add n := by simp [HouV.adds, List.foldl_append]
theorem adds_f : ∀ (fr : List NoteV) (S : HouV), (S.adds fr).f = S.f
  | [], _ => rfl
  | n :: fr, S => adds_f fr (S.add n)
theorem adds_l : ∀ (fr : List NoteV) (S : HouV), (S.adds fr).l = addAll S.l fr
  | [], _ => rfl
  | n :: fr, S => adds_l fr (S.add n)
theorem adds_len (fr : List NoteV) (S : HouV) : (S.adds fr).l.length = S.l.length + fr.length := by rw [adds_l, addAll_len]
theorem adds_inv : ∀ (fr : List NoteV) (S : HouV), HInv S → seqOk S.c fr → (∀ x ∈ fr, formedB S.f x = true ∧ x.Ok) → HInv (S.adds fr)
  | [], _, h, _, _ => h
  | n :: fr, S, h, hs, hf => adds_inv fr (S.add n) (h.add (hf n (List.mem_cons_self ..)).1 (hf n (List.mem_cons_self ..)).2 hs.1).1 hs.2 (fun x hx => hf x (List.mem_cons_of_mem _ hx))
theorem seqOk_at : ∀ (fr : List NoteV) (S : HouV) (q : Nat) (n : NoteV), seqOk S.c fr → fr[q]? = some n → n.num = ((S.adds (fr.take q)).c n.house : Int) + 1
  | [], _, q, n, _, h => by simp at h
  | m :: fr, S, 0, n, hs, h => by
    simp at h
    subst h
    exact hs.1
  | m :: fr, S, q + 1, n, hs, h => by
    have := seqOk_at fr (S.add m) q n hs.2 (by simpa using h)
    exact this
theorem seqOk_take : ∀ (fr : List NoteV) (c : Int → Nat) (q : Nat), seqOk c fr → seqOk c (fr.take q)
  | [], _, q, _ => by simp [seqOk]
  | m :: fr, c, 0, _ => trivial
  | m :: fr, c, q + 1, h => ⟨h.1, seqOk_take fr _ q h.2⟩
def hearP (S : HouV) (l : List NoteV) : HouV × Int × Int :=
  if l.any (fun n => !decide (checkN S.f n = 0)) = true then (S, 0, 80) else match hearGo S.l [] S.c l with | none => (S, 0, 81) | some (fr, _) => (S.adds fr, (fr.length : Int), 0)
theorem hearP_bad {S : HouV} {l : List NoteV} (h : l.any (fun n => !decide (checkN S.f n = 0)) = true) : hearP S l = (S, 0, 80) := by unfold hearP; rw [if_pos h]
theorem hearP_fork {S : HouV} {l : List NoteV} (h : l.any (fun n => !decide (checkN S.f n = 0)) = false) (h2 : hearGo S.l [] S.c l = none) : hearP S l = (S, 0, 81) := by unfold hearP; rw [if_neg (by rw [h]; decide), h2]
theorem hearP_ok {S : HouV} {l fr : List NoteV} {c : Int → Nat} (h : l.any (fun n => !decide (checkN S.f n = 0)) = false) (h2 : hearGo S.l [] S.c l = some (fr, c)) : hearP S l = (S.adds fr, (fr.length : Int), 0) := by unfold hearP; rw [if_neg (by rw [h]; decide), h2]
theorem check_formed {S : HouV} (hv : S.f.valid = true) {l : List NoteV} (h : l.any (fun n => !decide (checkN S.f n = 0)) = false) : ∀ n ∈ l, formedB S.f n = true := fun n hn => by
  rw [List.any_eq_false] at h
  have h1 := h n hn
  simp only [Bool.not_eq_true', decide_eq_false_iff_not, Decidable.not_not] at h1
  unfold checkN at h1
  rw [if_pos hv] at h1
  by_cases h2 : formedB S.f n = true
  · exact h2
  · rw [if_neg h2] at h1
    cases h1
theorem hearP_inv {S : HouV} {l : List NoteV} (h : HInv S) (hok : ∀ x ∈ l, x.Ok) : HInv (hearP S l).1 ∧ (hearP S l).1.l.length ≤ S.l.length + l.length := by
  cases hb : l.any (fun n => !decide (checkN S.f n = 0)) with
  | true => rw [hearP_bad hb]; exact ⟨h, Nat.le_add_right _ _⟩
  | false =>
    have hf := check_formed h.v hb
    cases hg : hearGo S.l [] S.c l with
    | none => rw [hearP_fork hb hg]; exact ⟨h, Nat.le_add_right _ _⟩
    | some r =>
      obtain ⟨fr, c'⟩ := r
      rw [hearP_ok hb hg]
      have hn : NmsOk (S.l ++ []) S.c := by rw [List.append_nil]; exact h.nms
      obtain ⟨t, e, hs, hm⟩ := hear_seq l [] S.c hn (fun n hn => (formed_house (hf n hn)).2.2) hg
      rw [List.nil_append] at e
      subst e
      have hl := (hear_ok l [] S.c hn (by rw [List.append_nil]; exact set_nodup h.srt) (fun n hn => (formed_house (hf n hn)).2.2) hg).2.2.2
      exact ⟨adds_inv fr S h hs (fun x hx => ⟨hf x (hm x hx), hok x (hm x hx)⟩), by show (S.adds fr).l.length ≤ _; rw [adds_len]; simp at hl; omega⟩
end Go.Proofs.YtlnhppgfhkkidaaGreat
namespace Go.Proofs.YtlnhppgfhkkidaaGreat
set_option linter.unusedSimpArgs false
open Go.RowKit

def idxM (es : List Nm) (p : Nm → Bool) : Int := match es.findIdx? p with | some i => (i : Int) | none => -1
theorem idxM_at {es : List Nm} {p : Nm → Bool} {k : Nat} {x : Nm} (hx : es[k]? = some x) (hp : p x = true) (hb : ∀ j y, j < k → es[j]? = some y → p y = false) : idxM es p = k := by
  have : es.findIdx? p = some k := by
    rw [List.findIdx?_eq_some_iff_getElem]
    obtain ⟨h1, rfl⟩ := List.getElem?_eq_some_iff.1 hx
    exact ⟨h1, hp, fun j hj => by rw [hb j _ hj (List.getElem?_eq_getElem (by omega))]; decide⟩
  simp [idxM, this]
theorem idxM_none {es : List Nm} {p : Nm → Bool} (hb : ∀ j y, j < es.length → es[j]? = some y → p y = false) : idxM es p = -1 := by
  have : es.findIdx? p = none := by
    rw [List.findIdx?_eq_none_iff]
    intro x hx
    obtain ⟨j, h1, h2⟩ := List.getElem_of_mem hx
    exact hb j x h1 (by rw [List.getElem?_eq_getElem h1, h2])
  simp [idxM, this]
set_option maxHeartbeats 4000000 in
set_option maxRecDepth 100000 in
theorem indexM_any (es : List Nm) (pred : Nm → Bool) (fn : Nat) (cv : Value) (hfn : ∀ (args : Array Value) (w : World), (callFunc fn args).run Tryz.prog w = .ok (.enter fn args) w)
    (a : Option Addr) (n c : Nat) (w : World) (hr : RdA w 2 a n c (nmCells es))
    (hp : ∀ e ∈ es, ∀ W, Below w.heap.size w W → Calls Tryz.prog fn #[.agg #[.int .i64 e.1, .int .i64 e.2], cv] W fun r W' => r = .returned (.bool (pred e)) ∧ Below W.heap.size W W') :
    Calls Tryz.prog 127 #[.slice a n c, .func (.func fn) #[] #[cv]] w fun e w' => e = .returned (.int .i64 (idxM es pred)) ∧ Below w.heap.size w w' := by
  have I2 : (Tryz.prog.info? 45).map (·.size) = some 2 := by kernel_rfl
  have hn63 := hr.maxn
  have HN : Hid (es.length = n) := Lib.hid (by have := hr.len; rw [nmCells_len] at this; omega)
  have RE := Lib.hid (show ∀ W, Below w.heap.size w W → RdA W 2 a n c (nmCells es) from fun W h => hr.below h)
  have HPD := Lib.hid hp
  clear hr hp
  go_enter Tryz.func127, Tryz.ntmps127
  go_wp2_with fail
  go_loopw [5, 8] (fun _ i wr => ∃ k : Nat, i = .int .i64 k ∧ k ≤ n ∧ Hid (∀ j y, j < k → es[j]? = some y → pred y = false) ∧ Hid (Below w.heap.size w wr)) (fun _ i _ => n - (intOf i).toNat)
  case atStart => exact ⟨0, rfl, Nat.zero_le _, Lib.hid (fun j y h => by omega), Lib.hid (Below.refl _ _)⟩
  case round =>
    obtain ⟨k, rfl, hk, HB, B1⟩ := hrel
    by_cases hkn : k < n
    · have t0 : decide ((k : Int) < (n : Int)) = true := by simp; omega
      obtain ⟨x, Hx⟩ : ∃ x, es[k]? = some x := ⟨es[k]'(by rw [HN.out]; exact hkn), List.getElem?_eq_getElem (by rw [HN.out]; exact hkn)⟩
      obtain ⟨b, off, rfl, hk1, hk2⟩ := nmCells_at (RE.out _ B1.out) Hx
      obtain ⟨o, ho⟩ : ∃ o, Hid (off + k * 2 = o) := ⟨_, Lib.hid rfl⟩
      rw [ho.out] at hk1 hk2
      have hi := fun W => idx_off (W := W) (c := c) (b := b) Tryz.underlying75 I2 hkn ho.out
      have hk64 : (k : Int) + 1 ≤ 9223372036854775807 := by omega
      obtain ⟨xh, xm⟩ := x
      dsimp only at hk1 hk2
      go_wp2_with fail
      refine (HPD.out (xh, xm) (List.mem_of_getElem? Hx) _ B1.out).mono ?_
      rintro e w2 ⟨rfl, b2⟩
      have B2 := Lib.hid (B1.out.trans (b2.mono B1.out.size))
      clear b2 hi t0
      cases hpx : pred (xh, xm) with
      | true =>
        go_wp2_with fail
        go_ret
        exact ⟨by rw [idxM_at Hx hpx HB.out]; rfl, B2.out⟩
      | false =>
        have HPX := Lib.hid hpx; clear hpx
        go_wp2_with fail
        go_roundw
        case rel => exact ⟨k + 1, by simp, by omega, Lib.hid (fun j y hj hy => by
          rcases Nat.lt_or_ge j k with h | h
          · exact HB.out j y h hy
          · have e : j = k := by omega
            subst e
            rw [Hx] at hy
            cases hy
            exact HPX.out), B2⟩
        case measure => simp [intOf]; omega
    · have t0 : decide ((k : Int) < (n : Int)) = false := by simp; omega
      go_wp2_with fail
      go_ret
      exact ⟨by rw [idxM_none (fun j y hj hy => HB.out j y (by have := HN.out; omega) hy)]; rfl, B1.out⟩
theorem idxM_any {es : List Nm} {p : Nm → Bool} : decide (0 ≤ idxM es p) = es.any p := by
  unfold idxM
  cases h : es.findIdx? p with
  | none =>
    rw [List.findIdx?_eq_none_iff] at h
    have h2 : es.any p = false := by
      rw [List.any_eq_false]
      intro x hx
      rw [h x hx]
      decide
    rw [h2]
    rfl
  | some i =>
    obtain ⟨h1, h2, _⟩ := List.findIdx?_eq_some_iff_getElem.1 h
    have h3 : es.any p = true := List.any_eq_true.2 ⟨_, List.getElem_mem h1, h2⟩
    rw [h3]
    simp
set_option maxHeartbeats 4000000 in
set_option maxRecDepth 100000 in
theorem containsM_any (es : List Nm) (pred : Nm → Bool) (fn : Nat) (cv : Value) (hfn : ∀ (args : Array Value) (w : World), (callFunc fn args).run Tryz.prog w = .ok (.enter fn args) w)
    (a : Option Addr) (n c : Nat) (w : World) (hr : RdA w 2 a n c (nmCells es))
    (hp : ∀ e ∈ es, ∀ W, Below w.heap.size w W → Calls Tryz.prog fn #[.agg #[.int .i64 e.1, .int .i64 e.2], cv] W fun r W' => r = .returned (.bool (pred e)) ∧ Below W.heap.size W W') :
    Calls Tryz.prog 72 #[.slice a n c, .func (.func fn) #[] #[cv]] w fun e w' => e = .returned (.bool (es.any pred)) ∧ Below w.heap.size w w' := by
  have HX := Lib.hid (indexM_any es pred fn cv hfn a n c w hr hp)
  clear hr hp hfn
  go_enter Tryz.func72, Tryz.ntmps72
  go_wp2_with fail
  refine HX.out.mono ?_
  rintro e w1 ⟨rfl, b1⟩
  have B1 := Lib.hid b1
  clear b1
  have hq := @idxM_any es pred
  go_wp2_with fail
  go_ret
  exact ⟨by first | rfl | (rw [← hq]; rfl), B1.out⟩
end Go.Proofs.YtlnhppgfhkkidaaGreat
namespace Go.Proofs.YtlnhppgfhkkidaaGreat
set_option linter.unusedSimpArgs false
open Go.RowKit

theorem MapF.cloned {α : Type} {enc : α → Value} {w : World} {b n : Nat} {f : Nm → Option α} (h : MapF enc w b n f) : ∃ es clock, w.heap[b]? = some (.map es clock) ∧ MapF enc (w.alloc (.map es clock)) w.heap.size n f := by
  obtain ⟨D, ⟨es, clock, hb, F, hs, hD⟩, hr⟩ := h
  exact ⟨es, clock, hb, D, ⟨es, clock, heap_alloc_new w _, F, hs, hD⟩, hr⟩
set_option maxHeartbeats 4000000 in
set_option maxRecDepth 100000 in
theorem mapsClone_any (b n : Nat) (G : Nm → Option LN) (w : World) (hm : MapF LN.val w b n G) :
    Calls Tryz.prog 57 #[.map (some b)] w fun e w' => e = .returned (.map (some w.heap.size)) ∧ MapF LN.val w' w.heap.size n G ∧ Below w.heap.size w w' := by
  obtain ⟨es, clock, hb, hc⟩ := hm.cloned
  have HC := Lib.hid hc
  clear hc hm
  have hq := fun w => run_eql_map_nil_sl (P := Tryz.prog) w 106 _ _ (some b) Tryz.underlying106
  have hx := @run_callFunc_extern Tryz.prog 115 Tryz.f115 Extern.MapsClone.clone (by kernel_rfl) (by kernel_rfl) (by kernel_rfl) (by kernel_rfl) (by kernel_rfl)
  go_enter Tryz.func57, Tryz.ntmps57
  go_wp2
  rw [run_maps_clone_sl w 106 hb]
  simp only [Result.andThen]
  rw [Oper.upon_value]
  go_wp2
  rw [run_typeAssert_map_sl _ 106 _ _ _ _ Tryz.underlying106]
  simp only [Result.andThen]
  rw [Oper.upon_value]
  go_wp2
  go_ret
  exact ⟨rfl, HC.out, (Below.refl _ _).alloc (Nat.le_refl _) _⟩
end Go.Proofs.YtlnhppgfhkkidaaGreat
namespace Go.Proofs.YtlnhppgfhkkidaaGreat
set_option linter.unusedSimpArgs false
open Go.RowKit

def idxL (es : List LN) (p : LN → Bool) : Int := match es.findIdx? p with | some i => (i : Int) | none => -1
theorem idxL_at {es : List LN} {p : LN → Bool} {k : Nat} {x : LN} (hx : es[k]? = some x) (hp : p x = true) (hb : ∀ j y, j < k → es[j]? = some y → p y = false) : idxL es p = k := by
  have : es.findIdx? p = some k := by
    rw [List.findIdx?_eq_some_iff_getElem]
    obtain ⟨h1, rfl⟩ := List.getElem?_eq_some_iff.1 hx
    exact ⟨h1, hp, fun j hj => by rw [hb j _ hj (List.getElem?_eq_getElem (by omega))]; decide⟩
  simp [idxL, this]
theorem idxL_none {es : List LN} {p : LN → Bool} (hb : ∀ j y, j < es.length → es[j]? = some y → p y = false) : idxL es p = -1 := by
  have : es.findIdx? p = none := by
    rw [List.findIdx?_eq_none_iff]
    intro x hx
    obtain ⟨j, h1, h2⟩ := List.getElem_of_mem hx
    exact hb j x h1 (by rw [List.getElem?_eq_getElem h1, h2])
  simp [idxL, this]
set_option maxHeartbeats 4000000 in
set_option maxRecDepth 100000 in
theorem indexL_any (es : List LN) (pred : LN → Bool) (fn : Nat) (cv : Value) (hfn : ∀ (args : Array Value) (w : World), (callFunc fn args).run Tryz.prog w = .ok (.enter fn args) w)
    (a : Option Addr) (n c : Nat) (w : World) (hr : RdLs w a n c es)
    (hp : ∀ e ∈ es, ∀ W, Below w.heap.size w W → Calls Tryz.prog fn #[.agg (noteA e.n e.sa e.sc), cv] W fun r W' => r = .returned (.bool (pred e)) ∧ Below W.heap.size W W') :
    Calls Tryz.prog 112 #[.slice a n c, .func (.func fn) #[] #[cv]] w fun e w' => e = .returned (.int .i64 (idxL es pred)) ∧ Below w.heap.size w w' := by
  have I19 : (Tryz.prog.info? 47).map (·.size) = some 19 := by kernel_rfl
  have hn63 : n ≤ 9223372036854775807 := by have h1 := hr.2.1; have h2 := hr.2.2.1; unfold maxLen at h2; omega
  have HN := Lib.hid hr.1
  have RE := Lib.hid (show ∀ W, Below w.heap.size w W → RdLs W a n c es from fun W h => hr.below h)
  have HPD := Lib.hid hp
  clear hr hp
  go_enter Tryz.func112, Tryz.ntmps112
  go_wp2_with fail
  go_loopw [5, 8] (fun _ i wr => ∃ k : Nat, i = .int .i64 k ∧ k ≤ n ∧ Hid (∀ j y, j < k → es[j]? = some y → pred y = false) ∧ Hid (Below w.heap.size w wr)) (fun _ i _ => n - (intOf i).toNat)
  case atStart => exact ⟨0, rfl, Nat.zero_le _, Lib.hid (fun j y h => by omega), Lib.hid (Below.refl _ _)⟩
  case round =>
    obtain ⟨k, rfl, hk, HB, B1⟩ := hrel
    by_cases hkn : k < n
    · have t0 : decide ((k : Int) < (n : Int)) = true := by simp; omega
      obtain ⟨b, off, rfl, hat⟩ := (RE.out _ B1.out).at (show 0 < n by omega)
      obtain ⟨x, Hx⟩ : ∃ x, es[k]? = some x := ⟨es[k]'(by rw [HN.out]; exact hkn), List.getElem?_eq_getElem (by rw [HN.out]; exact hkn)⟩
      have HR := Lib.hid (hat k x Hx).1
      obtain ⟨o, ho⟩ : ∃ o, Hid (off + k * 19 = o) := ⟨_, Lib.hid rfl⟩
      rw [ho.out] at HR
      have hi := fun W => idx_off (W := W) (c := c) (b := b) Tryz.underlying24 I19 hkn ho.out
      have hk64 : (k : Int) + 1 ≤ 9223372036854775807 := by omega
      clear hat
      go_wp2_with (refine wpList_load_mid rfl 47 _ rfl b o rfl (x.n.cells x.sa x.sc) _ HR.out Tryz.underlying47 rfl (by exact I19) ?_)
      refine (HPD.out x (List.mem_of_getElem? Hx) _ B1.out).mono ?_
      rintro e w2 ⟨rfl, b2⟩
      have B2 := Lib.hid (B1.out.trans (b2.mono B1.out.size))
      clear b2 hi t0
      cases hpx : pred x with
      | true =>
        go_wp2_with fail
        go_ret
        exact ⟨by rw [idxL_at Hx hpx HB.out]; rfl, B2.out⟩
      | false =>
        have HPX := Lib.hid hpx; clear hpx
        go_wp2_with fail
        go_roundw
        case rel => exact ⟨k + 1, by simp, by omega, Lib.hid (fun j y hj hy => by
          rcases Nat.lt_or_ge j k with h | h
          · exact HB.out j y h hy
          · have e : j = k := by omega
            subst e
            rw [Hx] at hy
            cases hy
            exact HPX.out), B2⟩
        case measure => simp [intOf]; omega
    · have t0 : decide ((k : Int) < (n : Int)) = false := by simp; omega
      go_wp2_with fail
      go_ret
      exact ⟨by rw [idxL_none (fun j y hj hy => HB.out j y (by have := HN.out; omega) hy)]; rfl, B1.out⟩
theorem idxL_any {es : List LN} {p : LN → Bool} : decide (0 ≤ idxL es p) = es.any p := by
  unfold idxL
  cases h : es.findIdx? p with
  | none =>
    rw [List.findIdx?_eq_none_iff] at h
    have h2 : es.any p = false := by
      rw [List.any_eq_false]
      intro x hx
      rw [h x hx]
      decide
    rw [h2]
    rfl
  | some i =>
    obtain ⟨h1, h2, _⟩ := List.findIdx?_eq_some_iff_getElem.1 h
    have h3 : es.any p = true := List.any_eq_true.2 ⟨_, List.getElem_mem h1, h2⟩
    rw [h3]
    simp
set_option maxHeartbeats 4000000 in
set_option maxRecDepth 100000 in
theorem containsL_any (es : List LN) (pred : LN → Bool) (fn : Nat) (cv : Value) (hfn : ∀ (args : Array Value) (w : World), (callFunc fn args).run Tryz.prog w = .ok (.enter fn args) w)
    (a : Option Addr) (n c : Nat) (w : World) (hr : RdLs w a n c es)
    (hp : ∀ e ∈ es, ∀ W, Below w.heap.size w W → Calls Tryz.prog fn #[.agg (noteA e.n e.sa e.sc), cv] W fun r W' => r = .returned (.bool (pred e)) ∧ Below W.heap.size W W') :
    Calls Tryz.prog 54 #[.slice a n c, .func (.func fn) #[] #[cv]] w fun e w' => e = .returned (.bool (es.any pred)) ∧ Below w.heap.size w w' := by
  have HX := Lib.hid (indexL_any es pred fn cv hfn a n c w hr hp)
  clear hr hp hfn
  go_enter Tryz.func54, Tryz.ntmps54
  go_wp2_with fail
  refine HX.out.mono ?_
  rintro e w1 ⟨rfl, b1⟩
  have B1 := Lib.hid b1
  clear b1
  have hq := @idxL_any es pred
  go_wp2_with fail
  go_ret
  exact ⟨by first | rfl | (rw [← hq]; rfl), B1.out⟩
end Go.Proofs.YtlnhppgfhkkidaaGreat
namespace Go.Proofs.YtlnhppgfhkkidaaGreat
open Go.RowKit

structure LocF (w W : World) (p0 p1 : Nat) (f : FrV) (n : NoteV) (sa : Option Addr) (sc : Nat) : Prop where
  e0 : W.heap[p0]? = some (.cells #[.int .i64 f.rings, .int .i64 f.sectors, .int .i64 f.wide] 23 (0, 0))
  e1 : W.heap[p1]? = some (.cells (noteA n sa sc) 47 (0, 0))
  b : Below p0 w W
  lt : p0 < p1
theorem LocF.below {w W W' : World} {p0 p1 : Nat} {f : FrV} {n : NoteV} {sa : Option Addr} {sc : Nat} (h : LocF w W p0 p1 f n sa sc) (hb : Below W.heap.size W W') : LocF w W' p0 p1 f n sa sc := by
  have g : ∀ {k : Nat} {o : Obj}, W.heap[k]? = some o → W'.heap[k]? = some o := fun {k o} hk => (hb.block k (Array.getElem?_eq_some_iff.1 hk).1).trans hk
  have h0 := (Array.getElem?_eq_some_iff.1 h.e0).1
  exact ⟨g h.e0, g h.e1, h.b.trans (hb.mono (by omega)), h.lt⟩
section
attribute [local go_sem] noteA_0 noteA_1 noteA_2 noteA_3 noteA_4 noteA_5 noteA_6 noteA_7 noteA_8 noteA_9 noteA_10 noteA_11 noteA_12 noteA_13 noteA_14 noteA_15 noteA_16 noteA_17 noteA_18
variable (f : FrV) (n : NoteV) (sa : Option Addr) (sc : Nat) (w : World)
end
end Go.Proofs.YtlnhppgfhkkidaaGreat
namespace Go.Proofs.YtlnhppgfhkkidaaGreat
open Go.RowKit
section
attribute [local go_sem] noteA_0 noteA_1 noteA_2 noteA_3 noteA_4 noteA_5 noteA_6 noteA_7 noteA_8 noteA_9 noteA_10 noteA_11 noteA_12 noteA_13 noteA_14 noteA_15 noteA_16 noteA_17 noteA_18
variable (f : FrV) (n : NoteV) (sa : Option Addr) (sc : Nat) (w : World)
theorem small_of {f : FrV} {n : NoteV} (h : checkN f n = 0) : SmallN n := by
  unfold checkN at h
  split at h
  · rename_i hv
    split at h
    · rename_i hf
      exact formed_small hv hf
    · simp at h
  · simp at h
end
end Go.Proofs.YtlnhppgfhkkidaaGreat
namespace Go.Proofs.YtlnhppgfhkkidaaGreat
set_option linter.unusedSimpArgs false
open Go.RowKit

theorem hear1_fn (args : Array Value) (w : World) : (callFunc 55 args).run Tryz.prog w = .ok (.enter 55 args) w := by kernel_rfl
set_option maxHeartbeats 4000000 in
set_option maxRecDepth 100000 in
theorem hear1_any (f : FrV) (id : Int) (mb sp p pB : Nat) (c : Int → Nat) (n : NoteV) (sa : Option Addr) (sc : Nat) (w : World) (hb : w.heap[pB]? = some (.cells #[.pointer (some ⟨p, 0, none⟩)] 27 (0, 0)))
    (hh : w.heap[p]? = some (.cells (houA f id mb c sp) 109 (0, 0))) (hs : RdI w sa n.strokes.length sc n.strokes) :
    Calls Tryz.prog 55 #[.agg (noteA n sa sc), .pointer (some ⟨pB, 0, none⟩)] w fun e w' => e = .returned (.bool (!decide (checkN f n = 0))) ∧ Below w.heap.size w w' := by
  have I43 := Lib.hid (show ∀ (m : NoteV) (a : Option Addr) (c : Nat), (Tryz.prog.info? 47).map (·.size) = some (noteA m a c).size from fun m a c => by kernel_rfl)
  have CN := Lib.hid (fun W (hb : Below w.heap.size w W) => checkNote_any f n sa sc W (hs.below hb))
  have hvl : f.val = .agg #[.int .i64 f.rings, .int .i64 f.sectors, .int .i64 f.wide] := rfl
  rw [hvl] at CN
  clear hvl
  obtain ⟨z, hz⟩ : ∃ z, Hid (checkN f n = z) := ⟨_, Lib.hid rfl⟩
  rw [hz.out] at CN ⊢
  have QE : Hid ((z != 0) = !decide (z = 0)) := Lib.hid (by by_cases h : z = 0 <;> simp [h])
  have B0 := Lib.hid ((Below.refl w.heap.size w).alloc (Nat.le_refl _) (.cells (noteA n sa sc) 47))
  have N0 := Lib.hid (heap_last w (.cells (noteA n sa sc) 47))
  have PB0 := Lib.hid (below_blk B0.out hb)
  have PH0 := Lib.hid (below_blk B0.out hh)
  clear hb hh hs
  go_enter Tryz.func55, Tryz.ntmps55
  go_upto_region 1 with fail
  obtain ⟨p2, hp2⟩ : ∃ q, Hid (w.heap.size = q) := ⟨_, Lib.hid rfl⟩
  rw [hp2.out] at N0
  rw [hp2.out]
  generalize w.alloc (.cells (noteA n sa sc) 47) = wr at *
  have hC0 : Below wr.heap.size wr wr.drew := (Below.refl _ _).drew
  have LB := Lib.hid (show ∀ w0, Below wr.heap.size wr w0 → w0.heap[pB]? = some (.cells #[.pointer (some ⟨p, 0, none⟩)] 27 (0, 0)) from fun w0 h => below_blk h PB0.out)
  have LH := Lib.hid (show ∀ w0, Below wr.heap.size wr w0 → w0.heap[p]? = some (.cells (houA f id mb c sp) 109 (0, 0)) from fun w0 h => below_blk h PH0.out)
  have LN2 := Lib.hid (show ∀ w0, Below wr.heap.size wr w0 → w0.heap[p2]? = some (.cells (noteA n sa sc) 47 (0, 0)) from fun w0 h => below_blk h N0.out)
  have BW := Lib.hid (show ∀ w0, Below wr.heap.size wr w0 → Below w.heap.size w w0 from fun w0 h => B0.out.trans (h.mono B0.out.size))
  try simp only [Act.put, lq3, lq4, lq5]
  refine wp_region_quiet (C := fun w' : World => Below wr.heap.size wr w') (by kernel_rfl) (by kernel_rfl) hC0 ?_
  show wpQuiet _ _ _ _ (_ :: _) _
  go_big_quiet_want
  refine ⟨.pointer (some ⟨p, 0, none⟩), fun w0 hC => ?_, ?_⟩
  · have c0 := cell_of (LB.out w0 hC) 0 (.pointer (some ⟨p, 0, none⟩)) rfl
    clear hC
    go_simp
  simp only [Act.put, lq3, lq4, lq5]
  go_big_quiet_on
  go_big_quiet_want
  refine ⟨.pointer (some ⟨p, 0, none⟩), fun w0 hC => ?_, ?_⟩
  · clear hC
    go_simp
  simp only [Act.put, lq3, lq4, lq5]
  go_big_quiet_on
  go_big_quiet_want
  refine ⟨.pointer (some ⟨p, 0, none⟩), fun w0 hC => ?_, ?_⟩
  · clear hC
    go_simp
  simp only [Act.put, lq3, lq4, lq5]
  go_big_quiet_on
  go_big_quiet_want
  refine ⟨.agg #[.int .i64 f.rings, .int .i64 f.sectors, .int .i64 f.wide], fun w0 hC => ?_, ?_⟩
  · have c0 := cell_of (LH.out w0 hC) 0 (.int .i64 f.rings) rfl
    have c1 := cell_of (LH.out w0 hC) 1 (.int .i64 f.sectors) rfl
    have c2 := cell_of (LH.out w0 hC) 2 (.int .i64 f.wide) rfl
    clear hC
    go_simp
  simp only [Act.put, lq3, lq4, lq5]
  go_big_quiet_on
  go_big_quiet_want
  refine ⟨.agg (noteA n sa sc), fun w0 hC => quiet_load43 (.tmp 2) rfl p2 rfl n sa sc (LN2.out w0 hC), ?_⟩
  simp only [Act.put, lq3, lq4, lq5]
  go_big_quiet_on
  go_big_quiet_want
  refine ⟨.int .i64 z, fun w0 hC => ?_, ?_⟩
  · go_simp
    refine (CN.out w0 (BW.out w0 hC)).mono ?_
    rintro e w1 ⟨rfl, b1⟩
    exact ⟨rfl, hC.trans (b1.mono hC.size)⟩
  simp only [Act.put, lq3, lq4, lq5]
  go_big_quiet_on
  go_big_quiet_want
  refine ⟨.bool (!decide (z = 0)), fun w0 hC => ?_, ?_⟩
  · have qe := QE.out
    clear hC
    go_simp
  simp only [Act.put, lq3, lq4, lq5]
  go_big_quiet_on
  go_big_quiet_want
  go_big_quiet_op
  go_big_quiet_on
  refine wpQuiet_nil ?_
  intro w' hC
  have B9 := Lib.hid (BW.out w' hC)
  clear hC
  go_wp2_with fail
  go_ret
  exact ⟨rfl, B9.out⟩

theorem encN_inj {f : FrV} (hv : f.valid = true) {x y : NoteV} (hx : formedB f x = true) (hy : formedB f y = true) (h : encN x = encN y) : x = y := by
  have h1 := decode_of_enc hv x hx
  rw [h, decode_of_enc hv y hy] at h1
  simpa using h1.symm
set_option maxHeartbeats 8000000 in
set_option maxRecDepth 100000 in
theorem same2_any (f : FrV) (hv : f.valid = true) (x y : NoteV) (sa : Option Addr) (sc : Nat) (ta : Option Addr) (tc : Nat) (w : World) (hx : RdI w sa x.strokes.length sc x.strokes) (hy : RdI w ta y.strokes.length tc y.strokes) (hfx : formedB f x = true) (hfy : formedB f y = true) :
    Calls Tryz.prog 59 #[.agg (noteA x sa sc), .agg (noteA y ta tc)] w fun e w' => e = .returned (.bool (sameB x y)) ∧ Below w.heap.size w w' := by
  have I43 := Lib.hid (show ∀ (m : NoteV) (a : Option Addr) (c : Nat), (Tryz.prog.info? 47).map (·.size) = some (noteA m a c).size from fun m a c => by kernel_rfl)
  have EQ : Hid (∀ b : Bool, (b = true ↔ encN x = encN y) → b = sameB x y) := Lib.hid (fun b hb => by
    rw [Bool.eq_iff_iff, hb, sameB_iff]
    exact ⟨encN_inj hv hfx hfy, fun e => by rw [e]⟩)
  have EX := Lib.hid (fun W (hb : Below w.heap.size w W) => encoded_any x sa sc W (hx.below hb) (formed_small hv hfx) (Nat.le_trans (formed_len hv hfx) (by decide)))
  have EY := Lib.hid (fun W (hb : Below w.heap.size w W) => encoded_any y ta tc W (hy.below hb) (formed_small hv hfy) (Nat.le_trans (formed_len hv hfy) (by decide)))
  have B0 := Lib.hid (((Below.refl w.heap.size w).alloc (Nat.le_refl _) (.cells (noteA x sa sc) 47)).alloc (by simp) (.cells (noteA y ta tc) 47))
  have X0 := Lib.hid (heap_before _ (.cells (noteA y ta tc) 47) _ _ (heap_last w (.cells (noteA x sa sc) 47)))
  have Y0 := Lib.hid (heap_at (w.alloc (.cells (noteA x sa sc) 47)) (.cells (noteA y ta tc) 47) (w.heap.size + 1) (by simp))
  clear hx hy hfx hfy
  go_enter Tryz.func59, Tryz.ntmps59
  go_upto_region 1 with fail
  obtain ⟨p2, hp2⟩ : ∃ q, Hid (w.heap.size = q) := ⟨_, Lib.hid rfl⟩
  obtain ⟨p3, hp3⟩ : ∃ q, Hid (w.heap.size + 1 = q) := ⟨_, Lib.hid rfl⟩
  rw [hp2.out] at X0
  rw [hp3.out] at Y0
  rw [hp3.out, hp2.out]
  generalize (w.alloc (.cells (noteA x sa sc) 47)).alloc (.cells (noteA y ta tc) 47) = wr at *
  refine wp_region_noPanic ?_
  refine wp_region_held_drew (S := fun w' => w'.heap[p2]? = some (.cells (noteA x sa sc) 47 (0, 0)) ∧ w'.heap[p3]? = some (.cells (noteA y ta tc) 47 (0, 0))) (by kernel_rfl) (show wr.drew.heap[p2]? = _ ∧ wr.drew.heap[p3]? = _ from ⟨X0.out, Y0.out⟩) (fun hHeld => ?_)
  have XD := Lib.hid (show wr.drew.heap[p2]? = _ from X0.out)
  have YD := Lib.hid (show wr.drew.heap[p3]? = _ from Y0.out)
  have BD := Lib.hid (show Below w.heap.size w wr.drew from B0.out.drew)
  generalize wr.drew = V at *
  refine wpAnyH_take (i := 0) (v := .agg (noteA x sa sc)) rfl (by kernel_rfl) (by kernel_rfl) (by kernel_rfl) (fun _ _ _ h => h) (yields_row (by kernel_rfl) 47 _ rfl p2 rfl _ 47 (0, 0) _ (fun W h => h.1) Tryz.underlying47 rfl (I43.out _ _ _)) (by assumption) ?_
  try simp only [Act.put, lq0, lq1, lq2, lq3, lq4, lq5]
  refine wpAnyH_take (i := 2) (v := .agg (noteA y ta tc)) rfl (by kernel_rfl) (by kernel_rfl) (by kernel_rfl) (fun _ _ _ h => h) (yields_row (by kernel_rfl) 47 _ rfl p3 rfl _ 47 (0, 0) _ (fun W h => h.2) Tryz.underlying47 rfl (I43.out _ _ _)) (by assumption) ?_
  try simp only [Act.put, lq0, lq1, lq2, lq3, lq4, lq5]
  refine wpAnyH_ready (rs := [1]) (by kernel_rfl) (by simp) ?_
  refine AllReadyH.cons rfl (fun K hK => ?_) AllReadyH.nil
  go_simp
  go_at_call 117
  refine (EX.out V BD.out).mono ?_
  rintro e v1 ⟨xa, xc, rfl, ho, b1⟩
  have B1 := Lib.hid (BD.out.trans (b1.mono BD.out.size))
  have X1 := Lib.hid (below_blk b1 XD.out)
  have Y1 := Lib.hid (below_blk b1 YD.out)
  have R1 := Lib.hid (RdB.of_own ho)
  clear b1 ho
  dsimp only
  refine hK.out _ _ ⟨X1.out, Y1.out⟩ (fun hHeld => ?_)
  clear hK K
  try simp only [Act.put, lq0, lq1, lq2, lq3, lq4, lq5]
  refine wpAnyH_ready (rs := [3]) (by kernel_rfl) (by simp) ?_
  refine AllReadyH.cons rfl (fun K hK => ?_) AllReadyH.nil
  go_simp
  go_at_call 117
  refine (EY.out v1 B1.out).mono ?_
  rintro e v2 ⟨ya, yc, rfl, ho, b2⟩
  have B2 := Lib.hid (B1.out.trans (b2.mono B1.out.size))
  have X2 := Lib.hid (below_blk b2 X1.out)
  have Y2 := Lib.hid (below_blk b2 Y1.out)
  have R2 := Lib.hid (RdB.of_own ho)
  have R12 := Lib.hid (R1.out.below b2)
  clear b2 ho
  dsimp only
  refine hK.out _ _ ⟨X2.out, Y2.out⟩ (fun hHeld => ?_)
  clear hK K
  try simp only [Act.put, lq0, lq1, lq2, lq3, lq4, lq5]
  refine wpAnyH_ready (rs := [4]) (by kernel_rfl) (by simp) ?_
  refine AllReadyH.cons rfl (fun K hK => ?_) AllReadyH.nil
  go_simp
  go_at_call 116
  refine (equal_any xa _ xc (encN x) ya _ yc (encN y) v2 R12.out R2.out).mono ?_
  rintro e v3 ⟨b, rfl, hb, q3, rfl⟩
  have HB := Lib.hid hb
  have B3 := Lib.hid (below_drewN B2.out q3)
  clear hb
  dsimp only
  refine hK.out _ _ ⟨X2.out, Y2.out⟩ (fun hHeld => ?_)
  clear hK K
  try simp only [Act.put, lq0, lq1, lq2, lq3, lq4, lq5]
  refine wpAnyH_take (i := 5) (oi := { dst := some 4, op := .assign (.tmp 9), type := _, pos := _, after := _, guard := none }) (v := .bool b) rfl (by kernel_rfl) (by kernel_rfl) (by kernel_rfl) (fun _ _ _ h => h) (Or.inl ⟨by kernel_rfl, by intro W _; go_simp⟩) (by assumption) ?_
  try simp only [Act.put, lq0, lq1, lq2, lq3, lq4, lq5]
  refine wpAnyH_done (by kernel_rfl) ?_ _
  refine NoPanic.normal ?_
  go_wp2_with fail
  go_ret
  exact ⟨by rw [EQ.out b HB.out] <;> rfl, B3.out⟩
end Go.Proofs.YtlnhppgfhkkidaaGreat
namespace Go.Proofs.YtlnhppgfhkkidaaGreat
set_option linter.unusedSimpArgs false
open Go.RowKit

def maxZ (x y : Int) : Int := if y > x then y else x
def ClkOf (l : List NoteV) (c : Int) : Prop := 1 ≤ c ∧ (∀ x ∈ l, x.clock + 1 ≤ c) ∧ (c = 1 ∨ ∃ x ∈ l, c = x.clock + 1)
theorem ClkOf.uniq {l : List NoteV} {c d : Int} (h : ClkOf l c) (k : ClkOf l d) : c = d := by
  obtain ⟨h1, h2, h3⟩ := h
  obtain ⟨k1, k2, k3⟩ := k
  have hcd : c ≤ d := by
    rcases h3 with rfl | ⟨x, hx, rfl⟩
    · exact k1
    · exact k2 x hx
  have hdc : d ≤ c := by
    rcases k3 with rfl | ⟨x, hx, rfl⟩
    · exact h1
    · exact h2 x hx
  omega
theorem ClkOf.nil : ClkOf [] 1 := ⟨Int.le_refl _, fun x h => (by cases h), .inl rfl⟩
theorem ClkOf.snoc {l : List NoteV} {c : Int} (h : ClkOf l c) (x : NoteV) : ClkOf (l ++ [x]) (maxZ c (x.clock + 1)) := by
  obtain ⟨h1, h2, h3⟩ := h
  unfold maxZ
  refine ⟨by split <;> omega, fun y hy => ?_, ?_⟩
  · rcases List.mem_append.1 hy with hy | hy
    · have := h2 y hy; split <;> omega
    · rw [List.mem_singleton.1 hy]; split <;> omega
  · split
    · exact .inr ⟨x, by simp, rfl⟩
    · rcases h3 with h3 | ⟨y, hy, h3⟩
      · exact .inl h3
      · exact .inr ⟨y, List.mem_append_left _ hy, h3⟩
theorem ClkOf.mem {l m : List NoteV} {c : Int} (h : ClkOf l c) (hm : ∀ x, x ∈ m ↔ x ∈ l) : ClkOf m c :=
  ⟨h.1, fun x hx => h.2.1 x ((hm x).1 hx), h.2.2.imp id (fun ⟨x, hx, e⟩ => ⟨x, (hm x).2 hx, e⟩)⟩
def clkL : List NoteV → Int := fun l => l.foldl (fun c x => maxZ c (x.clock + 1)) 1
theorem clkL_of (l : List NoteV) : ClkOf l (clkL l) := by
  have h : ∀ (l pre : List NoteV) (c : Int), ClkOf pre c → ClkOf (pre ++ l) (l.foldl (fun c x => maxZ c (x.clock + 1)) c) := by
    intro l
    induction l with
    | nil => intro pre c h; simpa using h
    | cons x l ih =>
      intro pre c h
      have h2 := ih (pre ++ [x]) _ (h.snoc x)
      rw [List.append_assoc] at h2
      exact h2
  exact h l [] 1 ClkOf.nil
def doN (S : HouV) (n : NoteV) : NoteV := { n with house := S.id, num := (S.c S.id : Int) + 1, clock := clkL S.l }
def doP (S : HouV) (n : NoteV) : HouV × NoteV × Int :=
  if 400 ≤ S.l.length ∨ 1099511627776 < clkL S.l then (S, zeroN, 2)
  else if checkN S.f (doN S n) ≠ 0 then (S, zeroN, 80)
  else if (n.kind ≠ 5 ∧ n.kind ≠ 6) ∧ nmOf (doN S n) ∈ (regV S.f (insN S.l (doN S n)) (insN S.l (doN S n)) 99999).2.2 then (S, zeroN, 91)
  else (S.add (doN S n), doN S n, 0)
theorem do1_fn (args : Array Value) (w : World) : (callFunc 73 args).run Tryz.prog w = .ok (.enter 73 args) w := by kernel_rfl
set_option maxHeartbeats 4000000 in
set_option maxRecDepth 100000 in
theorem do1_any (pB : Nat) (n : NoteV) (sa : Option Addr) (sc : Nat) (x : Nm) (w : World) (hb : w.heap[pB]? = some (.cells (noteA n sa sc) 47 (0, 0))) :
    Calls Tryz.prog 73 #[.agg #[.int .i64 x.1, .int .i64 x.2], .pointer (some ⟨pB, 0, none⟩)] w fun e w' => e = .returned (.bool (decide (x = nmOf n))) ∧ Below w.heap.size w w' := by
  have NM := Lib.hid (fun W => nameOf2_any n sa sc W)
  obtain ⟨xh, xm⟩ := x
  obtain ⟨q, hq⟩ : ∃ q, Hid (decide (((xh, xm) : Nm) = nmOf n) = q) := ⟨_, Lib.hid rfl⟩
  have HQ : Hid (((xh == n.house) && (xm == n.num)) = q) := Lib.hid (by rw [← hq.out]; unfold nmOf; rw [Bool.eq_iff_iff]; simp)
  rw [hq.out]
  dsimp only
  have B0 := Lib.hid ((Below.refl w.heap.size w).alloc (Nat.le_refl _) (.cells #[.int .i64 xh, .int .i64 xm] 45))
  have X0 := Lib.hid (heap_last w (.cells #[.int .i64 xh, .int .i64 xm] 45))
  have N0 := Lib.hid (below_blk B0.out hb)
  clear hb hq
  go_enter Tryz.func73, Tryz.ntmps73
  go_upto_region 1 with fail
  obtain ⟨p2, hp2⟩ : ∃ q, Hid (w.heap.size = q) := ⟨_, Lib.hid rfl⟩
  rw [hp2.out] at X0
  rw [hp2.out]
  generalize w.alloc (.cells #[.int .i64 xh, .int .i64 xm] 45) = wr at *
  have hC0 : Below wr.heap.size wr wr.drew := (Below.refl _ _).drew
  have LX := Lib.hid (show ∀ w0, Below wr.heap.size wr w0 → w0.heap[p2]? = some (.cells #[.int .i64 xh, .int .i64 xm] 45 (0, 0)) from fun w0 h => below_blk h X0.out)
  have LN2 := Lib.hid (show ∀ w0, Below wr.heap.size wr w0 → w0.heap[pB]? = some (.cells (noteA n sa sc) 47 (0, 0)) from fun w0 h => below_blk h N0.out)
  have BW := Lib.hid (show ∀ w0, Below wr.heap.size wr w0 → Below w.heap.size w w0 from fun w0 h => B0.out.trans (h.mono B0.out.size))
  try simp only [Act.put, lq3, lq4, lq5]
  refine wp_region_quiet (C := fun w' : World => Below wr.heap.size wr w') (by kernel_rfl) (by kernel_rfl) hC0 ?_
  show wpQuiet _ _ _ _ (_ :: _) _
  go_big_quiet_want
  refine ⟨.agg #[.int .i64 xh, .int .i64 xm], fun w0 hC => ?_, ?_⟩
  · have c0 := cell_of (LX.out w0 hC) 0 (.int .i64 xh) rfl
    have c1 := cell_of (LX.out w0 hC) 1 (.int .i64 xm) rfl
    clear hC
    go_simp
  simp only [Act.put, lq3, lq4, lq5]
  go_big_quiet_on
  go_big_quiet_want
  refine ⟨.agg (noteA n sa sc), fun w0 hC => quiet_load43 (.tmp 1) rfl pB rfl n sa sc (LN2.out w0 hC), ?_⟩
  simp only [Act.put, lq3, lq4, lq5]
  go_big_quiet_on
  go_big_quiet_want
  refine ⟨.agg #[.int .i64 n.house, .int .i64 n.num], fun w0 hC => ?_, ?_⟩
  · go_simp
    refine (NM.out w0).mono ?_
    rintro e w1 ⟨rfl, b1⟩
    exact ⟨rfl, hC.trans (b1.mono hC.size)⟩
  simp only [Act.put, lq3, lq4, lq5]
  go_big_quiet_on
  go_big_quiet_want
  refine ⟨.bool q, fun w0 hC => ?_, ?_⟩
  · have hq := HQ.out
    clear hC
    rw [← hq]
    go_simp
    try (cases h1 : (xh == n.house) <;> cases h2 : (xm == n.num) <;> simp_all)
  simp only [Act.put, lq3, lq4, lq5]
  go_big_quiet_on
  go_big_quiet_want
  go_big_quiet_op
  go_big_quiet_on
  refine wpQuiet_nil ?_
  intro w' hC
  have B9 := Lib.hid (BW.out w' hC)
  clear hC
  go_wp2_with fail
  go_ret
  exact ⟨rfl, B9.out⟩
end Go.Proofs.YtlnhppgfhkkidaaGreat
namespace Go.Proofs.YtlnhppgfhkkidaaGreat
set_option linter.unusedSimpArgs false
set_option linter.unusedVariables false
open Go.RowKit

theorem mod_half (m : Int) (h : m * 2 % 65521 = 0) : m % 65521 = 0 := by
  obtain ⟨q, hq⟩ := Int.dvd_of_emod_eq_zero h
  have h1 : q = 2 * (m - 32760 * q) := by
    have e : 2 * (m - 32760 * q) = m * 2 - 65520 * q := by rw [Int.mul_sub, ← Int.mul_assoc, Int.mul_comm 2 m]; rfl
    rw [e, hq, ← Int.sub_mul]
    exact (Int.one_mul q).symm
  have h2 : m = 65521 * (m - 32760 * q) := by
    refine Int.eq_of_mul_eq_mul_right (a := 2) (by decide) ?_
    rw [hq, Int.mul_assoc, Int.mul_comm _ 2, ← h1]
  rw [h2]
  exact Int.mul_emod_right _ _
theorem mod_pow (b : Nat) : ∀ (m : Int), (m * ((2 ^ b : Nat) : Int)) % 65521 = 0 → m % 65521 = 0 := by
  induction b with
  | zero => intro m h; simpa using h
  | succ b ih =>
    intro m h
    have h2 := ih (m * 2) (by rw [Int.mul_assoc]; rw [Nat.pow_succ] at h; push_cast at h ⊢; rwa [Int.mul_comm 2 _])
    exact mod_half m h2
theorem chk_flip9 (x : List UInt8) (j b : Nat) (hj : j < x.length) (hb : b < 8) (hx : x.length ≤ 8192) : chk (flipAt x j b) ≠ chk x := by
  intro h
  have h1 := chkTo_diff x j b hj (x.length - (j + 1))
  rw [show j + 1 + (x.length - (j + 1)) = x.length by omega] at h1
  have h2 := chk_eq (flipAt x j b)
  have h3 := chk_eq x
  rw [flipAt_len, h, h3] at h2
  rw [← h2, Int.sub_self, Int.zero_sub] at h1
  have h4 := flip_val (x[j]?.getD 0) b hb
  have h5 : ¬ (((j + 1 : Nat) : Int) * ((2 ^ b : Nat) : Int)) % 65521 = 0 := fun h5 => by have := mod_pow b _ h5; omega
  generalize ((x[j]?.getD 0) ^^^ UInt8.ofNat (2 ^ b)).toNat = P at *
  generalize (x[j]?.getD 0).toNat = Q at *
  generalize 2 ^ b = T at *
  rcases h4 with h4 | h4
  · have e : ((j : Int) + 1) * ((P : Int) - (Q : Int)) = ((j + 1 : Nat) : Int) * (T : Int) := by
      rw [show (P : Int) - (Q : Int) = (T : Int) by omega]; push_cast; rfl
    rw [e] at h1
    omega
  · have e : ((j : Int) + 1) * ((P : Int) - (Q : Int)) = -(((j + 1 : Nat) : Int) * (T : Int)) := by
      rw [show (P : Int) - (Q : Int) = -(T : Int) by omega, Int.mul_neg]; push_cast; rfl
    rw [e] at h1
    omega
theorem join_flipS9 (x S F : List UInt8) (i b : Nat) (hi : i < x.length + 2) (hb : b < 8) (hx : x.length ≤ 8192) : joinOf (flipAt (stockOf x) i b ++ S) (foilOf x ++ F) = [] := by
  apply joinOf_no
  rintro ⟨h1, h2, h3, h4, h5⟩
  rw [List.take_left' (foilOf_len x)] at h5
  have hlen : (((flipAt (stockOf x) i b ++ S).drop 2).take (atN (flipAt (stockOf x) i b ++ S) 0)).length = atN (flipAt (stockOf x) i b ++ S) 0 := by
    rw [List.length_take, List.length_drop]; omega
  obtain ⟨h6, h7⟩ := foil_inj (by omega) (by rw [hlen]; omega) h5
  rw [hlen] at h6
  by_cases h : i < 2
  · have h0 := atN_stock x S (by omega)
    rw [← flipAt_left _ _ _ _ (by rw [stockOf_len]; exact hi)] at h6
    have e0 := flipAt_at (stockOf x ++ S) i b 0
    have e1 := flipAt_at (stockOf x ++ S) i b 1
    have hl : i < (stockOf x ++ S).length := by rw [List.length_append, stockOf_len]; omega
    obtain ⟨b1, b2⟩ := two_pow_bd b hb
    have h8 := flip_val ((stockOf x ++ S)[i]?.getD 0) b hb
    simp only [atN, Nat.zero_add] at h0 h6
    have hc : i = 0 ∨ i = 1 := by omega
    rcases hc with rfl | rfl
    · rw [if_pos ⟨rfl, hl⟩] at e0
      rw [if_neg (by omega)] at e1
      rw [e0, e1] at h6
      omega
    · rw [if_pos ⟨rfl, hl⟩] at e1
      rw [if_neg (by omega)] at e0
      rw [e0, e1] at h6
      omega
  · have e : flipAt (stockOf x) i b = two x.length ++ flipAt x (i - 2) b := by
      rw [stockOf, flipAt_right _ _ _ _ (by rw [two_len]; omega), two_len]
    have e2 : ((flipAt (stockOf x) i b ++ S).drop 2).take (atN (flipAt (stockOf x) i b ++ S) 0) = flipAt x (i - 2) b := by
      rw [← h6, e, List.append_assoc, show (two x.length ++ (flipAt x (i - 2) b ++ S)).drop 2 = flipAt x (i - 2) b ++ S from rfl, List.take_left' (flipAt_len ..)]
    rw [e2] at h7
    exact chk_flip9 x (i - 2) b (by omega) hb hx h7.symm
theorem join_flipF9 (x S F : List UInt8) (i b : Nat) (hi : i < 4) (hb : b < 8) (hx : x.length ≤ 8192) : joinOf (stockOf x ++ S) (flipAt (foilOf x) i b ++ F) = [] := by
  apply joinOf_no
  rintro ⟨h1, h2, h3, h4, h5⟩
  rw [atN_stock x S (by omega), body_stock, List.take_left' (by rw [flipAt_len, foilOf_len])] at h5
  have e := flipAt_at (foilOf x) i b i
  rw [if_pos ⟨rfl, by rw [foilOf_len]; exact hi⟩, h5] at e
  have h8 := flip_val ((foilOf x)[i]?.getD 0) b hb
  rw [← e] at h8
  obtain ⟨b1, b2⟩ := two_pow_bd b hb
  omega

theorem join_flip_stock9 (l : List (List UInt8)) (hl : ∀ x ∈ l, x.length ≤ 8192) (k i b : Nat) (hb : b < 8) (hk : k < l.length) (h1 : (csOf (l.take k)).length ≤ i) (h2 : i < (csOf (l.take (k + 1))).length) :
    joinOf (flipAt (csOf l) i b) (cfOf l) = l.take k := by
  have e : l = l.take k ++ (l[k] :: l.drop (k + 1)) := by rw [List.getElem_cons_drop, List.take_append_drop]
  have hx : l[k].length ≤ 8192 := hl _ (List.getElem_mem hk)
  rw [List.take_add_one, List.getElem?_eq_getElem hk, csOf_append, List.length_append, show csOf (some l[k]).toList = stockOf l[k] from by simp [csOf], stockOf_len] at h2
  have e1 : flipAt (csOf l) i b = csOf (l.take k) ++ (flipAt (stockOf l[k]) (i - (csOf (l.take k)).length) b ++ csOf (l.drop (k + 1))) := by
    conv => lhs; rw [e]
    rw [csOf_append, flipAt_right _ _ _ _ h1, csOf_cons, flipAt_left _ _ _ _ (by rw [stockOf_len]; omega)]
  have e2 : cfOf l = cfOf (l.take k) ++ (foilOf l[k] ++ cfOf (l.drop (k + 1))) := by
    conv => lhs; rw [e]
    rw [cfOf_append, cfOf_cons]
  rw [e1, e2, join_app _ (fun x hx => by have := hl x (List.mem_of_mem_take hx); omega), join_flipS9 _ _ _ _ _ (by omega) hb hx, List.append_nil]
theorem join_flip_foil9 (l : List (List UInt8)) (hl : ∀ x ∈ l, x.length ≤ 8192) (i b : Nat) (hb : b < 8) (hi : i < 4 * l.length) :
    joinOf (csOf l) (flipAt (cfOf l) i b) = l.take (i / 4) := by
  have hk : i / 4 < l.length := by omega
  generalize hK : i / 4 = k at *
  have e : l = l.take k ++ (l[k] :: l.drop (k + 1)) := by rw [List.getElem_cons_drop, List.take_append_drop]
  have hx : l[k].length ≤ 8192 := hl _ (List.getElem_mem hk)
  have hlen : (cfOf (l.take k)).length = 4 * k := by rw [cfOf_len, List.length_take]; omega
  have e1 : csOf l = csOf (l.take k) ++ (stockOf l[k] ++ csOf (l.drop (k + 1))) := by
    conv => lhs; rw [e]
    rw [csOf_append, csOf_cons]
  have e2 : flipAt (cfOf l) i b = cfOf (l.take k) ++ (flipAt (foilOf l[k]) (i - 4 * k) b ++ cfOf (l.drop (k + 1))) := by
    conv => lhs; rw [e]
    rw [cfOf_append, flipAt_right _ _ _ _ (by omega), hlen, cfOf_cons, flipAt_left _ _ _ _ (by rw [foilOf_len]; omega)]
  rw [e1, e2, join_app _ (fun x hx => by have := hl x (List.mem_of_mem_take hx); omega), join_flipF9 _ _ _ _ _ (by omega) hb hx, List.append_nil]

theorem joinOf_cut : ∀ (r : Nat) (X Y : List UInt8) (a b : Nat), Y.length ≤ r → ∃ k, joinOf (X.take a) (Y.take b) = (joinOf X Y).take k
  | 0, X, Y, a, b, hr => ⟨0, by rw [List.take_zero]; exact joinOf_no (fun h => by have := h.2.1; rw [List.length_take] at this; omega)⟩
  | r + 1, X, Y, a, b, hr => by
    by_cases h : 2 ≤ (X.take a).length ∧ 4 ≤ (Y.take b).length ∧ atN (X.take a) 0 ≤ 8192 ∧ atN (X.take a) 0 + 2 ≤ (X.take a).length ∧ (Y.take b).take 4 = foilOf (((X.take a).drop 2).take (atN (X.take a) 0))
    · have e := joinOf_yes h.1 h.2.1 h.2.2.1 h.2.2.2.1 h.2.2.2.2
      obtain ⟨h1, h2, h3, h4, h5⟩ := h
      rw [List.length_take] at h1 h2 h4
      have ea : atN (X.take a) 0 = atN X 0 := by
        simp only [atN, List.getElem?_take]
        rw [if_pos (by omega), if_pos (by omega)]
      rw [ea] at e h3 h4 h5
      generalize hn : atN X 0 = n at *
      have eb : ((X.take a).drop 2).take n = (X.drop 2).take n := by
        rw [List.drop_take, List.take_take, Nat.min_eq_left (by omega)]
      have ey : (Y.take b).take 4 = Y.take 4 := by rw [List.take_take, Nat.min_eq_left (by omega)]
      rw [eb] at e h5
      rw [ey] at h5
      have e2 := joinOf_yes (st := X) (fo := Y) (by omega) (by omega) (by rw [hn]; exact h3) (by rw [hn]; omega) (by rw [hn]; exact h5)
      rw [hn] at e2
      obtain ⟨k, hk⟩ := joinOf_cut r (X.drop (n + 2)) (Y.drop 4) (a - (n + 2)) (b - 4) (by rw [List.length_drop]; omega)
      refine ⟨k + 1, ?_⟩
      rw [e, e2, List.take_succ_cons, List.drop_take, List.drop_take, hk]
    · exact ⟨0, by rw [List.take_zero]; exact joinOf_no h⟩
theorem stock_at : ∀ (l : List (List UInt8)) (i : Nat), i < (csOf l).length → ∃ k, k < l.length ∧ (csOf (l.take k)).length ≤ i ∧ i < (csOf (l.take (k + 1))).length
  | [], i, h => by simp [csOf] at h
  | x :: l, i, h => by
    by_cases hx : i < (stockOf x).length
    · exact ⟨0, by simp, by simp [csOf], by simpa [csOf] using hx⟩
    · rw [csOf_cons, List.length_append] at h
      obtain ⟨k, h1, h2, h3⟩ := stock_at l (i - (stockOf x).length) (by omega)
      refine ⟨k + 1, by simpa using h1, ?_, ?_⟩
      · rw [List.take_succ_cons, csOf_cons, List.length_append]; omega
      · rw [List.take_succ_cons, csOf_cons, List.length_append]; omega
theorem flip_take (l : List UInt8) (i b m : Nat) (h : i < m) : flipAt (l.take m) i b = (flipAt l i b).take m := by
  unfold flipAt
  rw [List.getElem?_take, if_pos h, List.take_set]
theorem crash_rest (l : List (List UInt8)) (hl : ∀ x ∈ l, x.length ≤ 8192) (stock foil : Nat) (flip : Int) (h1 : stock ≤ (csOf l).length) (h2 : foil ≤ (cfOf l).length) (h3 : flip < 8 * ((stock : Int) + foil)) :
    ∃ k, k ≤ l.length ∧ joinOf (crashS (csOf l) 0 stock flip) (crashF (cfOf l) 0 stock foil flip) = l.take k := by
  have hfix : ∀ k, ∃ j, j ≤ l.length ∧ l.take k = l.take j := fun k => by
    by_cases h : k ≤ l.length
    · exact ⟨k, h, rfl⟩
    · exact ⟨l.length, Nat.le_refl _, by rw [List.take_length, List.take_of_length_le (by omega)]⟩
  unfold crashS crashF
  simp only [Nat.zero_add]
  by_cases hf : 0 ≤ flip
  · obtain ⟨z, rfl⟩ := Int.eq_ofNat_of_zero_le hf
    simp only [Int.toNat_natCast]
    have hb : z % 8 < 8 := Nat.mod_lt _ (by decide)
    by_cases hs : z / 8 < stock
    · rw [if_pos ⟨hf, hs⟩, if_neg (fun h => h.2 hs), flip_take _ _ _ _ hs]
      obtain ⟨k, hk⟩ := joinOf_cut _ (flipAt (csOf l) (z / 8) (z % 8)) (cfOf l) stock foil (Nat.le_refl _)
      obtain ⟨q, q1, q2, q3⟩ := stock_at l (z / 8) (by omega)
      rw [join_flip_stock9 l hl q _ _ hb q1 q2 q3, List.take_take] at hk
      obtain ⟨j, hj, e⟩ := hfix (min k q)
      exact ⟨j, hj, by rw [hk, e]⟩
    · have hi : z / 8 - stock < foil := by omega
      rw [if_neg (fun h => hs h.2), if_pos ⟨hf, hs⟩, flip_take _ _ _ _ hi]
      obtain ⟨k, hk⟩ := joinOf_cut _ (csOf l) (flipAt (cfOf l) (z / 8 - stock) (z % 8)) stock foil (Nat.le_refl _)
      rw [cfOf_len] at h2
      rw [join_flip_foil9 l hl _ _ hb (by omega), List.take_take] at hk
      obtain ⟨j, hj, e⟩ := hfix (min k ((z / 8 - stock) / 4))
      exact ⟨j, hj, by rw [hk, e]⟩
  · rw [if_neg (fun h => hf h.1), if_neg (fun h => hf h.1)]
    obtain ⟨k, hk, e⟩ := join_cut l hl stock foil
    exact ⟨k, hk, e⟩
theorem crash_tells (l1 l2 : List (List UInt8)) (hl : ∀ x ∈ l1 ++ l2, x.length ≤ 8192) (stock foil : Nat) (flip : Int) (hc : CrashOk (csOf (l1 ++ l2)) (cfOf (l1 ++ l2)) (csOf l1).length (cfOf l1).length stock foil flip) :
    ∃ k, k ≤ l2.length ∧ joinOf (crashS (csOf (l1 ++ l2)) (csOf l1).length stock flip) (crashF (cfOf (l1 ++ l2)) (cfOf l1).length stock foil flip) = l1 ++ l2.take k := by
  obtain ⟨_, c2, _, c4, _, c6⟩ := hc
  rw [csOf_append, cfOf_append] at *
  rw [List.length_append] at c2 c4
  obtain ⟨k, hk, e⟩ := crash_rest l2 (fun x hx => hl x (List.mem_append_right _ hx)) stock foil flip (by omega) (by omega) c6
  refine ⟨k, hk, ?_⟩
  have eS : crashS (csOf l1 ++ csOf l2) (csOf l1).length stock flip = csOf l1 ++ crashS (csOf l2) 0 stock flip := by
    unfold crashS
    rw [List.take_length_add_append, Nat.zero_add, Nat.zero_add]
    split
    · rw [flipAt_right _ _ _ _ (Nat.le_add_right _ _), Nat.add_sub_cancel_left]
    · rfl
  have eF : crashF (cfOf l1 ++ cfOf l2) (cfOf l1).length stock foil flip = cfOf l1 ++ crashF (cfOf l2) 0 stock foil flip := by
    unfold crashF
    rw [List.take_length_add_append, Nat.zero_add, Nat.zero_add]
    split
    · rename_i h
      rw [flipAt_right _ _ _ _ (by omega)]
      congr 2
      omega
    · rfl
  rw [eS, eF, join_app l1 (fun x hx => hl x (List.mem_append_left _ hx)), e]
end Go.Proofs.YtlnhppgfhkkidaaGreat
