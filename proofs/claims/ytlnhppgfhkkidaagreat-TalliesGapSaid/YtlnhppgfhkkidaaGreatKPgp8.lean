/- Parts of the proof, in this order: The program's Merge: its result lies in memory of its own; slices.DeleteFunc of notes in memory of their own; The plain law of the reference's fold: judges, what counts, and the insertion of an event; The plain law of Chain: the corrections and withdrawals of a note, as they became known; A house's notes as values: what it hears, and the plain law of gifts; A house in memory, and its methods that turn nothing; A house's add; A house's making, Notes and Counts; light. -/
import Derived.Test.YtlnhppgfhkkidaaGreatKPgp7
set_option linter.unusedSimpArgs false
set_option linter.unusedVariables false
open List renaming getElem_toArray → lq0, getElem_cons_succ → lq1, getElem_cons_zero → lq2, setIfInBounds_toArray → lq3, set_cons_zero → lq4, set_cons_succ → lq5
namespace Go.Proofs.YtlnhppgfhkkidaaGreat
set_option linter.unusedSimpArgs false
open Go.RowKit

def Kept (lo hi : Nat) (W : World) (a : Option Addr) (n c : Nat) (zs : List LN) : Prop := hi ≤ W.heap.size ∧ ∀ W2, Same (fun k => k < lo ∨ hi ≤ k) W W2 → RdLs W2 a n c zs
theorem Kept.rd {lo hi : Nat} {W : World} {a : Option Addr} {n c : Nat} {zs : List LN} (h : Kept lo hi W a n c zs) : RdLs W a n c zs := h.2 W (Same.refl _ _)
theorem Kept.step {X : Nat → Prop} {lo hi : Nat} {W W' : World} {a : Option Addr} {n c : Nat} {zs : List LN} (h : Kept lo hi W a n c zs) (hs : Same X W W') (hx : ∀ k, X k → k < lo ∨ hi ≤ k) : Kept lo hi W' a n c zs :=
  ⟨Nat.le_trans h.1 hs.size, fun W2 h2 => h.2 W2 ((hs.weaken hx).trans h2)⟩
theorem Kept.below {lo hi : Nat} {W W' : World} {a : Option Addr} {n c : Nat} {zs : List LN} (h : Kept lo hi W a n c zs) (hb : Below W.heap.size W W') : Kept lo hi W' a n c zs := h.step (X := fun _ => False) (Same.of_below hb) (fun _ h => h.elim)
theorem rdLs_of {W : World} {a : Option Addr} {n c : Nat} {xs : List LN} (h : RdA W 19 a n c (lnCells xs)) (hs : ∀ x ∈ xs, x.ok W) : RdLs W a n c xs := by
  have hl : xs.length = n := by have := h.len; rw [lnCells_len] at this; omega
  refine ⟨hl, h.2.1, h.2.2.1, ?_⟩
  rcases h.2.2.2 with h0 | ⟨b, off, rfl, h4⟩
  · exact .inl h0
  · refine .inr ⟨b, off, rfl, fun i x hx => ?_⟩
    have hi := (List.getElem?_eq_some_iff.1 hx).1
    obtain ⟨b', off', e, hat⟩ := ln_at h (by omega)
    cases e
    exact ⟨hat i x hx, hs x (List.mem_of_getElem? hx)⟩
theorem MgAt.kept {V W : World} {a : Option Addr} {c n : Nat} {ys : List LN} (h : MgAt V W a c n ys) : Kept V.heap.size W.heap.size W a n c ys :=
  ⟨Nat.le_refl _, fun W2 hs => rdLs_of (RdA.of_own (own_keep h.own hs (fun b hb hx => by have := h.own.lt b hb; omega)))
    (fun y hy => RdA.of_own (own_keep (h.str y hy) hs (fun b hb hx => by have := (h.str y hy).lt b hb; omega)))⟩
def MergeRet2 (f : FrV) (l m : List NoteV) (w : World) (e : Ending) (W : World) : Prop :=
  (e = .returned (.tuple #[.slice none 0 0, .int .i64 (mergeE f l m)]) ∧ mergeE f l m ≠ 0) ∨
  ∃ (ua : Option Addr) (un uc : Nat) (zs : List LN), e = .returned (.tuple #[.slice ua un uc, .int .i64 0]) ∧ mergeE f l m = 0 ∧ MgAt w W ua uc un zs ∧ IsU l m (zs.map LN.n)
theorem MergeRet2.bad {f : FrV} {l m : List NoteV} {w W : World} {e : Ending} (he : e = .returned (.tuple #[.slice none 0 0, .int .i64 (mergeE f l m)])) (h : mergeE f l m ≠ 0) : MergeRet2 f l m w e W := .inl ⟨he, h⟩
theorem MergeRet2.good {f : FrV} {l m : List NoteV} {w W : World} {e : Ending} {ua : Option Addr} {un uc : Nat} {zs : List LN} (he : e = .returned (.tuple #[.slice ua un uc, .int .i64 (mergeE f l m)])) (h : mergeE f l m = 0) (hr : MgAt w W ua uc un zs) (hu : IsU l m (zs.map LN.n)) : MergeRet2 f l m w e W :=
  .inr ⟨ua, un, uc, zs, by rw [he, h], h, hr, hu⟩
set_option maxHeartbeats 16000000 in
set_option maxRecDepth 100000 in
theorem pmerge2_any (f : FrV) (a : Option Addr) (nn nc : Nat) (l : List NoteV) (ma : Option Addr) (mn mc : Nat) (m : List NoteV) (w : World) (hr : RdNs w a nn nc l) (hok : ∀ x ∈ l, x.Ok) (hm : RdNs w ma mn mc m) (hokm : ∀ x ∈ m, x.Ok)
    (hlen : (checkSetP f l).1 = 0 → (checkSetP f m).1 = 0 → l.length + m.length ≤ 400) :
    Calls Tryz.prog 15 #[f.val, .slice a nn nc, .slice ma mn mc] w fun e w' => MergeRet2 f l m w e w' ∧ Below w.heap.size w w' := by
  have I43 := Lib.hid (show ∀ (m : NoteV) (a : Option Addr) (c : Nat), (Tryz.prog.info? 47).map (·.size) = some (noteA m a c).size from fun m a c => by kernel_rfl)
  have J2 : (Tryz.prog.info? 45).map (·.size) = some 2 := by kernel_rfl
  have BO := Lib.hid (fun W hb => both_any f a nn nc l ma mn mc m W (hr.below (show Below w.heap.size w W from hb)) hok (hm.below hb) hokm)
  have HOK := Lib.hid hok
  have HOKM := Lib.hid hokm
  have HLEN := Lib.hid hlen
  have hvl : f.val = .agg #[.int .i64 f.rings, .int .i64 f.sectors, .int .i64 f.wide] := rfl
  rw [hvl] at BO ⊢
  clear hvl hr hok hm hokm hlen
  have B0 := Lib.hid ((Below.refl w.heap.size w).alloc (Nat.le_refl _) (.cells #[.int .i64 f.rings, .int .i64 f.sectors, .int .i64 f.wide] 23))
  have F0 := Lib.hid (heap_last w (.cells #[.int .i64 f.rings, .int .i64 f.sectors, .int .i64 f.wide] 23))
  go_enter Tryz.func15, Tryz.ntmps15
  go_upto_region 1 with fail
  obtain ⟨pF, hpF⟩ : ∃ pF, Hid (w.heap.size = pF) := ⟨_, Lib.hid rfl⟩
  rw [hpF.out] at F0 ⊢
  generalize w.alloc (.cells #[.int .i64 f.rings, .int .i64 f.sectors, .int .i64 f.wide] 23) = W0 at *
  have c0 := cell_of F0.out 0 (.int .i64 f.rings) rfl
  have c1 := cell_of F0.out 1 (.int .i64 f.sectors) rfl
  have c2 := cell_of F0.out 2 (.int .i64 f.wide) rfl
  go_wp2_with fail
  refine (BO.out W0 B0.out).mono ?_
  clear c0 c1 c2
  rintro e W1 ⟨h1, b1⟩
  have B1 := Lib.hid (B0.out.trans (b1.mono B0.out.size))
  clear b1 F0
  rcases h1 with ⟨hbad, o1, o2, rfl⟩ | ⟨hs1, hs2, b, xs, c, ys, rfl, sa, sb, hne⟩
  · have HE : Hid (mergeE f l m = 1) := Lib.hid (by unfold mergeE; rw [if_neg hbad])
    clear hbad
    go_wp2_with fail
    go_returns
    exact ⟨.bad (by rw [HE.out] <;> rfl) (by rw [HE.out]; decide), B1.out⟩
  have HS := Lib.hid hs1
  have HS2 := Lib.hid hs2
  have SA := Lib.hid sa
  have SB := Lib.hid sb
  have NE := Lib.hid hne
  have HL4 := Lib.hid (HLEN.out hs1 hs2)
  clear hs1 hs2 sa sb hne
  have PL : Hid (l.Pairwise ltN) := Lib.hid (set_ok HS.out).2.2.2
  have PM : Hid (m.Pairwise ltN) := Lib.hid (set_ok HS2.out).2.2.2
  have NDL : Hid (((xs.map LN.n).map nmOf).Nodup) := Lib.hid (by rw [SA.out.eq]; exact set_nodup PL.out)
  have NDM : Hid (((ys.map LN.n).map nmOf).Nodup) := Lib.hid (by rw [SB.out.eq]; exact set_nodup PM.out)
  go_wp2_with fail
  refine (fork_any b c l m xs ys W0 W1 SA.out SB.out PL.out (set_nodup PM.out) HOK.out (Nat.le_trans (set_ok HS.out).2.1 (by decide))).mono ?_
  rintro e W2 ⟨rfl, b2⟩
  have B2 := Lib.hid (B1.out.trans (b2.mono B1.out.size))
  have SA2 := Lib.hid (SA.out.below b2)
  have SB2 := Lib.hid (SB.out.below b2)
  clear b2 B1 SA SB
  cases hfk : forkAt l m with
  | some nm =>
    have HE : Hid (mergeE f l m = 81) := Lib.hid (by unfold mergeE; rw [if_pos ⟨HS.out, HS2.out⟩, hfk])
    have e1 : forkP l m = (nm, true) := by unfold forkP; rw [hfk]
    rw [e1]
    clear e1 hfk
    go_wp2_with fail
    go_returns
    exact ⟨.bad (by rw [HE.out] <;> rfl) (by rw [HE.out]; decide), B2.out.alloc B2.out.size _⟩
  | none =>
    have HE : Hid (mergeE f l m = 0) := Lib.hid (by unfold mergeE; rw [if_pos ⟨HS.out, HS2.out⟩, hfk])
    have NF : Hid (NoFork (xs.map LN.n) (ys.map LN.n)) := Lib.hid (by rw [SA2.out.eq, SB2.out.eq]; exact forkAt_none.1 hfk)
    have e1 : forkP l m = ((0, 0), false) := by unfold forkP; rw [hfk]
    rw [e1]
    clear e1 hfk
    have bt : Below W2.heap.size W2 (W2.alloc (.cells #[.int .i64 0, .int .i64 0] 45)) := (Below.refl _ _).alloc (Nat.le_refl _) _
    have B3 := Lib.hid (B2.out.trans (bt.mono B2.out.size))
    have SA3 := Lib.hid (SA2.out.below bt)
    have SB3 := Lib.hid (SB2.out.below bt)
    go_upto_region 5 with fail
    generalize W2.alloc (.cells #[.int .i64 0, .int .i64 0] 45) = W3 at *
    clear bt B2 SA2 SB2
    go_wp2_with fail
    refine (mapsCopy_any b l.length c m.length (setF xs) (setF ys) W3 SA3.out.map SB3.out.map NE.out (by have := HL4.out; omega)).mono ?_
    rintro e W4 ⟨rfl, hm4, hs4⟩
    have M4 := Lib.hid hm4
    have B4 : Hid (Below w.heap.size w W4) := Lib.hid (hs4.below B3.out B3.out.size (fun k hk => by subst hk; exact Nat.le_trans B0.out.size SA3.out.ge))
    have OKX : Hid (∀ x ∈ xs, x.ok W4) := Lib.hid (fun x hx => ok_same (SA3.out.ok x hx) hs4 (by obtain ⟨es, cl, h⟩ := SA3.out.map.blk; exact ⟨es, cl, h⟩))
    have OKY : Hid (∀ x ∈ ys, x.ok W4) := Lib.hid (fun x hx => ok_same (SB3.out.ok x hx) hs4 (by obtain ⟨es, cl, h⟩ := SA3.out.map.blk; exact ⟨es, cl, h⟩))
    have HXY : Hid (∀ k x, bothF (setF xs) (setF ys) k = some x → x.ok W4 ∧ nmOk k ∧ x.n.strokes.length ≤ 1000000000) := Lib.hid (fun k x h => by
      unfold bothF at h
      split at h
      · rename_i y hy
        rw [Option.some.inj h] at hy
        obtain ⟨h1, h2⟩ := setF_some hy
        have h3 : x.n ∈ m := by rw [← SB3.out.eq]; exact List.mem_map_of_mem h1
        subst h2
        exact ⟨OKY.out x h1, ⟨(HOKM.out _ h3).house, (HOKM.out _ h3).num⟩, Nat.le_trans (formed_len (set_ok HS2.out).1 ((set_ok HS2.out).2.2.1 _ h3)) (by decide)⟩
      · obtain ⟨h1, h2⟩ := setF_some h
        have h3 : x.n ∈ l := by rw [← SA3.out.eq]; exact List.mem_map_of_mem h1
        subst h2
        exact ⟨OKX.out x h1, ⟨(HOK.out _ h3).house, (HOK.out _ h3).num⟩, Nat.le_trans (formed_len (set_ok HS.out).1 ((set_ok HS.out).2.2.1 _ h3)) (by decide)⟩)
    have EX := Lib.hid SA3.out.eq
    have EY := Lib.hid SB3.out.eq
    clear hm4 hs4 OKX OKY SA3 SB3 B3
    go_upto_region 8 with fail
    go_wp2_with (first
      | (at_len; refine wpList_len_nm rfl _ 119 47 rfl Tryz.underlying119 b (l.length + m.length) rfl M4.out ?_; intro kk hkk; have tkk : decide ((400 : Int) < (kk : Int)) = false := (by have := HL4.out; simp; omega))
      | fail)
    refine (names_any b (l.length + m.length) (bothF (setF xs) (setF ys)) W4 M4.out (by have := HL4.out; omega)).mono ?_
    rintro e W5 ⟨⟨na, nc, ks, rfl, h1, h2, h3, h4, h5⟩, b5⟩
    have RN := Lib.hid (RdA.of_own h1)
    have UU := Lib.hid (show IsU l m ((ks.filterMap (bothF (setF xs) (setF ys))).map LN.n) by
      have := union_of NDL.out NDM.out NF.out h2 h4 h3
      rwa [EX.out, EY.out] at this)
    have HIN := Lib.hid h4
    have HKN : Hid (ks.length ≤ 400) := Lib.hid (Nat.le_trans h5 HL4.out)
    have B5 := Lib.hid (B4.out.trans (b5.mono B4.out.size))
    have M5 := Lib.hid (M4.out.below b5)
    have HX5 := Lib.hid (show ∀ k x, bothF (setF xs) (setF ys) k = some x → x.ok W5 ∧ nmOk k ∧ x.n.strokes.length ≤ 1000000000 from fun k x h => ⟨(HXY.out k x h).1.below b5, (HXY.out k x h).2⟩)
    obtain ⟨F, hF⟩ : ∃ F, Hid (bothF (setF xs) (setF ys) = F) := ⟨_, Lib.hid rfl⟩
    rw [hF.out] at UU HIN M5 HX5
    obtain ⟨kn, hkn⟩ : ∃ kn, Hid (ks.length = kn) := ⟨_, Lib.hid rfl⟩
    rw [hkn.out] at RN HKN ⊢
    clear b5 h1 h2 h3 h4 h5 tkk hkk M4 HXY B4
    go_wp2_with fail
    go_loopw [13, 42] (fun ov iv wr => ∃ (q : Nat) (oa : Option Addr) (on oc : Nat) (zs : List LN), ov = .slice oa on oc ∧ iv = .int .i64 (q : Int) ∧ q ≤ kn ∧ Hid (MgAt W5 wr oa oc on zs) ∧ Hid (zs.map LN.n = ((ks.take q).filterMap F).map LN.n) ∧ on ≤ q) (fun _ iv _ => kn - (intOf iv).toNat)
    case atStart => exact ⟨0, none, 0, 0, [], rfl, rfl, Nat.zero_le _, Lib.hid (MgAt.start _), Lib.hid rfl, Nat.le_refl _⟩
    case round =>
      obtain ⟨q, oa, on, oc, zs, rfl, rfl, hq, MA, HZ, hon⟩ := hrel
      by_cases hlt : q < kn
      · have t0 : decide ((q : Int) < (kn : Int)) = true := by simp; omega
        obtain ⟨k, Hk⟩ : ∃ k, ks[q]? = some k := ⟨_, List.getElem?_eq_getElem (by rw [hkn.out]; exact hlt)⟩
        obtain ⟨y, hy⟩ := Option.isSome_iff_exists.1 (HIN.out k (List.mem_of_getElem? Hk))
        have GY := Lib.hid hy
        have HY := Lib.hid (HX5.out k y hy)
        have HZ2 : Hid (((ks.take (q + 1)).filterMap F).map LN.n = zs.map LN.n ++ [y.n]) := Lib.hid (by
          rw [take_snoc Hk, List.filterMap_append, List.map_append, ← HZ.out, List.filterMap_cons_some hy]; rfl)
        obtain ⟨kb, koff, rfl, hk1, hk2⟩ := nmCells_at (RN.out.below MA.out.bel) Hk
        obtain ⟨o, ho⟩ : ∃ o, Hid (koff + q * 2 = o) := ⟨_, Lib.hid rfl⟩
        rw [ho.out] at hk1 hk2
        have hix := fun W => idx_off (W := W) (c := nc) (b := kb) Tryz.underlying75 J2 hlt ho.out
        have HK64 : Hid ((q : Int) + 1 ≤ 9223372036854775807) := Lib.hid (by have := HKN.out; omega)
        obtain ⟨kh, km⟩ := k
        dsimp only at hk1 hk2
        clear Hk hy
        go_upto_region 14 with fail
        clear t0 hix hk1 hk2
        have bt : Below wr.heap.size wr (wr.alloc (.cells #[.int .i64 kh, .int .i64 km] 45)) := (Below.refl _ _).alloc (Nat.le_refl _) _
        have P7 := Lib.hid (heap_last wr (.cells #[.int .i64 kh, .int .i64 km] 45))
        have MA2 := Lib.hid (MA.out.below bt)
        obtain ⟨p7, hp7⟩ : ∃ p, Hid (wr.heap.size = p) := ⟨_, Lib.hid rfl⟩
        rw [hp7.out] at P7 ⊢
        generalize wr.alloc (.cells #[.int .i64 kh, .int .i64 km] 45) = wt at *
        clear bt MA
        have n0 := cell_of P7.out 0 (.int .i64 kh) rfl
        have n1 := cell_of P7.out 1 (.int .i64 km) rfl
        have hget : (Instr.lookup 119 (.map (some b)) (.agg #[.int .i64 kh, .int .i64 km]) false).run Tryz.prog wt = .ok (.agg (noteA y.n y.sa y.sc)) wt := run_get1_nm (t := 119) (M5.out.below MA2.out.bel) Tryz.underlying119 (zero_note wt) kh km HY.out.2.1 GY.out
        go_wp2_with fail
        refine (copied_any y.n y.sa y.sc wt (HY.out.1.below MA2.out.bel) HY.out.2.2).mono ?_
        rintro e w5 ⟨ta, tc, rfl, hown, b5⟩
        have MA5 := Lib.hid (MA2.out.below b5)
        have HO5 := Lib.hid (own_mono hown MA2.out.bel.size)
        have bn : Below w5.heap.size w5 (w5.alloc (.cells (noteA y.n ta tc) 47)) := (Below.refl _ _).alloc (Nat.le_refl _) _
        obtain ⟨a', c', v9, hrun, ho9, hg9⟩ := run_app_nt (w5.alloc (.cells (noteA y.n ta tc) 47)) W5.heap.size oa on oc _ (own_below MA5.out.own bn) _ 1 1 _ (lit_note w5 y.n ta tc) (y.n.cells_one _ _) (by have := HKN.out; omega) (Nat.le_trans MA5.out.bel.size bn.size)
        have MA9 := Lib.hid (MA5.out.add (x := ⟨y.n, ta, tc⟩) HO5.out ho9 hg9)
        have HZ9 : Hid ((zs ++ [(⟨y.n, ta, tc⟩ : LN)]).map LN.n = ((ks.take (q + 1)).filterMap F).map LN.n) := Lib.hid (by rw [HZ2.out, List.map_append]; rfl)
        clear hown b5 bn ho9 hg9 MA5 HO5 n0 n1 hget MA2
        have hk64 := HK64.out
        go_wp2_with (first
          | (refine wpList_build_note rfl _ rfl y.n ta tc rfl ?_)
          | (refine wpList_append_eq rfl _ _ _ rfl _ _ _ rfl rfl hrun ?_)
          | fail)
        go_roundw
        case rel => exact ⟨q + 1, a', on + 1, c', zs ++ [⟨y.n, ta, tc⟩], by go_num, by go_num, by omega, MA9, HZ9, by omega⟩
        case measure => simp [intOf]; omega
      · have t0 : decide ((q : Int) < (kn : Int)) = false := by simp; omega
        have UZ : Hid (IsU l m (zs.map LN.n)) := Lib.hid (by rw [HZ.out, List.take_of_length_le (by rw [hkn.out]; omega)]; exact UU.out)
        go_wp2_with fail
        go_returns
        exact ⟨.good (by rw [HE.out] <;> rfl) HE.out (MA.out.mono B5.out) UZ.out, B5.out.trans (MA.out.bel.mono B5.out.size)⟩
end Go.Proofs.YtlnhppgfhkkidaaGreat
namespace Go.Proofs.YtlnhppgfhkkidaaGreat
set_option linter.unusedSimpArgs false
open Go.RowKit

theorem rows_len (xs : List LN) : ∀ r ∈ xs.map lnRow, r.length = 19 := by
  intro r hr
  obtain ⟨x, _, rfl⟩ := List.mem_map.1 hr
  exact lnRow_len x
theorem rows_one (xs : List LN) : ∀ r ∈ xs.map lnRow, ∀ v ∈ r, v.oneCell' = true := by
  intro r hr
  obtain ⟨x, _, rfl⟩ := List.mem_map.1 hr
  exact x.n.cells_one _ _
theorem SRows.of_own {w : World} {base g n c : Nat} {xs : List LN} (h : w.ownsRow base 47 19 (.slice (some ⟨g, 0, none⟩) n c) n (lnCells xs)) (hn : xs.length = n) : ∃ sz, SRows w g 47 19 sz (xs.map lnRow) := by
  have hrd := RdA.of_own h
  rcases h.2 with ⟨h2, _⟩ | ⟨g', cap, cur, hv, _, hg, hnc, hcm, hs, ht⟩
  · cases h2
  · simp only [Value.slice.injEq, Option.some.injEq, Addr.mk.injEq] at hv
    obtain ⟨⟨rfl, _, _⟩, _, rfl⟩ := hv
    refine ⟨cur.size, ⟨cur, hg, rfl⟩, by rw [List.length_map, hn, hs]; exact Nat.mul_le_mul_right _ hnc, fun i r hi j v hj => ?_, rows_len xs, rows_one xs⟩
    have h1 : (lnCells xs)[i * 19 + j]? = some v := (flat_at 19 _ (rows_len xs) i r hi j (by rw [← rows_len xs r (List.mem_of_getElem? hi)]; exact (List.getElem?_eq_some_iff.1 hj).1)).trans hj
    rw [← ht, List.getElem?_take] at h1
    split at h1
    · rw [Array.getElem?_toList] at h1
      simp [World.cell?, hg, h1]
    · cases h1
theorem clear_run (w : World) (ty : TypeId) (g o m c : Nat) (hm : 0 < m) (ht : w.there g o (m * 19)) :
    (Builtin.clear_ #[24] ty #[.slice (some ⟨g, o, none⟩) m c]).run Tryz.prog w = .ok (.tuple #[]) (w.setCells g o (Builtin.zeroCells (noteA zeroN none 0) m).toList) := by
  have hsz : (Builtin.zeroCells (noteA zeroN none 0) m).toList.length = m * 19 := by
    unfold Builtin.zeroCells
    rw [noteA_size]
    simp
  have h1 : ∀ v ∈ (Builtin.zeroCells (noteA zeroN none 0) m).toList, v.oneCell' = true := by
    intro v hv
    unfold Builtin.zeroCells at hv
    rw [noteA_size] at hv
    simp only [Array.toList_map, List.mem_map] at hv
    obtain ⟨i, _, rfl⟩ := hv
    have hi : i % 19 < (noteA zeroN none 0).size := by rw [noteA_size]; omega
    rw [getElem!_pos (noteA zeroN none 0) (i % 19) hi]
    exact (Array.all_eq_true_iff_forall_mem.1 (noteA_one zeroN none 0)) _ (Array.getElem_mem hi)
  generalize hz : noteA zeroN none 0 = z at *
  have hst := run_storeCells_cells (P := Tryz.prog) g o (Builtin.zeroCells z m).toList 0 w (fun j hj => (ht j (by omega)).1) (fun j hj => (ht j (by omega)).2) h1
  simp only [Nat.add_zero] at hst
  obtain ⟨k, rfl⟩ : ∃ k, m = k + 1 := ⟨m - 1, by omega⟩
  have hzn : ∀ W, (zeroValue 47).run Tryz.prog W = .ok (.agg z) W := fun W => by rw [← hz]; exact zero_note W
  simp [Builtin.clear_, run_underlying Tryz.underlying24, hzn, Value.cells, hst]
theorem wpList_clear_eq {P : Program} {ops : Array Oper} {rest : List Oper} {op : Oper} {a : Act} {w w' : World} {Q : Exit → Act → World → Prop} (hgd : op.guard = none) (s : Operand) (t : TypeId) (ho : op.op = .call { callee := .builtin .clear, args := #[s], argTypes := #[t] }) (v1 v : Value)
    (hs : a.eval s = v1) (hr : (Builtin.clear_ #[t] op.type #[v1]).run P w = .ok v w') (h : wpList P ops Q rest (a.put op.dst v) w') : wpList P ops Q (op :: rest) a w := by
  refine wpList_plain hgd fun K hK => ?_
  unfold Oper.wp
  simp [execOp, ho, resolve, invoke, builtin, hs, hr, Result.andThen]
  exact hK _ _ h
structure DlSt (xs R : List LN) (q : LN → Bool) (i j : Nat) : Prop where
  len : R.length = xs.length
  kept : R.take i = (xs.take j).filter q
  todo : R.drop j = xs.drop j
  lt : i < j
  le : j ≤ xs.length
theorem DlSt.get {xs R : List LN} {q : LN → Bool} {i j k : Nat} (h : DlSt xs R q i j) (hk : j ≤ k) : R[k]? = xs[k]? := by
  have h1 := congrArg (fun l => l[k - j]?) h.todo
  simp only [List.getElem?_drop] at h1
  rwa [show j + (k - j) = k by omega] at h1
theorem drop_ext {A : Type} {l m : List A} {j : Nat} (h : ∀ k, j ≤ k → l[k]? = m[k]?) : l.drop j = m.drop j := by
  apply List.ext_getElem?
  intro i
  rw [List.getElem?_drop, List.getElem?_drop]
  exact h _ (Nat.le_add_right _ _)
theorem DlSt.keep {xs R : List LN} {q : LN → Bool} {i j : Nat} (h : DlSt xs R q i j) {x : LN} (hx : xs[j]? = some x) (hq : q x = true) : DlSt xs (R.set i x) q (i + 1) (j + 1) := by
  have hj := (List.getElem?_eq_some_iff.1 hx).1
  have hi : i < R.length := by rw [h.len]; have := h.lt; omega
  refine ⟨by rw [List.length_set]; exact h.len, ?_, drop_ext fun k hk => ?_, Nat.succ_lt_succ h.lt, hj⟩
  · rw [take_snoc (xs := R.set i x) (by rw [List.getElem?_set_self hi]), take_snoc hx, List.filter_append, ← h.kept]
    congr 1
    · exact List.take_set_of_le (Nat.le_refl _)
    · simp [hq]
  · rw [List.getElem?_set_ne (by have := h.lt; omega)]
    exact h.get (by omega)
theorem DlSt.skip {xs R : List LN} {q : LN → Bool} {i j : Nat} (h : DlSt xs R q i j) {x : LN} (hx : xs[j]? = some x) (hq : q x = false) : DlSt xs R q i (j + 1) := by
  have hj := (List.getElem?_eq_some_iff.1 hx).1
  refine ⟨h.len, ?_, drop_ext fun k hk => h.get (by omega), by have := h.lt; omega, hj⟩
  rw [take_snoc hx, List.filter_append, ← h.kept]
  simp [hq]
theorem DlSt.start {xs : List LN} {p : LN → Bool} {i : Nat} (h : xs.findIdx? p = some i) : DlSt xs xs (fun x => !p x) i (i + 1) := by
  obtain ⟨h1, h2, h3⟩ := List.findIdx?_eq_some_iff_getElem.1 h
  have hx : xs[i]? = some xs[i] := List.getElem?_eq_getElem h1
  refine ⟨rfl, ?_, rfl, Nat.lt_succ_self i, h1⟩
  rw [take_snoc hx, List.filter_append, List.filter_eq_self.2 (fun x hx => ?_)]
  · simp [h2]
  · obtain ⟨j, hj, rfl⟩ := List.mem_take_iff_getElem.1 hx
    have := h3 j (by omega)
    simpa using this
theorem DlSt.done {xs R : List LN} {q : LN → Bool} {i : Nat} (h : DlSt xs R q i xs.length) : R.take i = xs.filter q ∧ (xs.filter q).length = i := by
  have h1 := h.kept
  rw [List.take_length] at h1
  refine ⟨h1, ?_⟩
  rw [← h1, List.length_take, h.len]
  have := h.lt
  omega
theorem keep_all {xs : List LN} {p : LN → Bool} (h : xs.findIdx? p = none) : xs.filter (fun x => !p x) = xs := by
  rw [List.findIdx?_eq_none_iff] at h
  exact List.filter_eq_self.2 fun x hx => by simp [h x hx]
theorem str_keep {w w' : World} {B g : Nat} {x : LN} {cur : Array Value} (h : w.ownsRow B 3 1 (.slice x.sa x.n.strokes.length x.sc) x.n.strokes.length (x.n.strokes.map intV)) (hg : w.heap[g]? = some (.cells cur 47 (0, 0))) (hs : Same (fun k => k = g) w w') :
    w'.ownsRow B 3 1 (.slice x.sa x.n.strokes.length x.sc) x.n.strokes.length (x.n.strokes.map intV) :=
  own_keep h hs fun b hb e => own_no h hg (by intro cur; simp) (by rw [hb, show b = g from e])
set_option maxHeartbeats 8000000 in
set_option maxRecDepth 100000 in
theorem delL_any (xs : List LN) (pred : LN → Bool) (fn : Nat) (cv : Value) (hfn : ∀ (args : Array Value) (w : World), (callFunc fn args).run Tryz.prog w = .ok (.enter fn args) w)
    (a : Option Addr) (n c : Nat) (V w : World) (hm : MgAt V w a c n xs)
    (hp : ∀ e ∈ xs, ∀ W, Same (fun k => Value.ownBlock (.slice a n c) = some k) w W → Calls Tryz.prog fn #[.agg (noteA e.n e.sa e.sc), cv] W fun r W' => r = .returned (.bool (pred e)) ∧ Below W.heap.size W W') :
    Calls Tryz.prog 67 #[.slice a n c, .func (.func fn) #[] #[cv]] w fun e w' => (∃ a' i c', e = .returned (.slice a' i c') ∧ Kept V.heap.size w'.heap.size w' a' i c' (xs.filter (fun x => !pred x)) ∧ i ≤ n) ∧ Below V.heap.size w w' := by
  have I43 := Lib.hid (show ∀ (m : NoteV) (a : Option Addr) (c : Nat), (Tryz.prog.info? 47).map (·.size) = some (noteA m a c).size from fun m a c => by kernel_rfl)
  have I19 : (Tryz.prog.info? 47).map (·.size) = some 19 := by kernel_rfl
  have RL : RdLs w a n c xs := rdLs_of (RdA.of_own hm.own) (fun y hy => RdA.of_own (hm.str y hy))
  have IX := Lib.hid (indexL_any xs pred fn cv hfn a n c w RL (fun e he W hb => hp e he W (Same.of_below hb)))
  have HM := Lib.hid hm
  have HR := Lib.hid RL
  have HPD := Lib.hid hp
  have HN := Lib.hid hm.len
  have hn63 : n ≤ 9223372036854775807 := by have h1 := RL.2.1; have h2 := RL.2.2.1; unfold maxLen at h2; omega
  have H63 := Lib.hid hn63
  clear hm hp RL hn63
  go_enter Tryz.func67, Tryz.ntmps67
  go_wp2_with fail
  refine IX.out.mono ?_
  rintro e w1 ⟨rfl, b1⟩
  have B1 := Lib.hid b1
  clear b1
  cases hix : xs.findIdx? pred with
  | none =>
    have hv : idxL xs pred = -1 := by simp [idxL, hix]
    have RF := Lib.hid (show Kept V.heap.size w1.heap.size w1 a n c (xs.filter (fun x => !pred x)) by rw [keep_all hix]; exact (HM.out.below B1.out).kept)
    rw [hv]
    clear hv hix
    go_wp2_with fail
    go_ret
    exact ⟨⟨a, n, c, rfl, RF.out, Nat.le_refl _⟩, B1.out.mono HM.out.bel.size⟩
  | some i0 =>
    have hv : idxL xs pred = (i0 : Int) := by simp [idxL, hix]
    have D0 := Lib.hid (DlSt.start hix)
    rw [hv]
    clear hv hix
    obtain ⟨g, rfl, LG⟩ : ∃ g, a = some ⟨g, 0, none⟩ ∧ Hid (V.heap.size ≤ g) := by
      rcases HM.out.own.2 with ⟨h2, h3⟩ | ⟨g, cap, cur, hv, hg, _⟩
      · have h4 := D0.out.le
        rw [HN.out, h3] at h4
        omega
      · cases hv
        exact ⟨g, rfl, Lib.hid hg⟩
    obtain ⟨sz, SR⟩ := SRows.of_own HM.out.own HN.out
    have SR1 := Lib.hid (SR.below B1.out)
    have SM1 : Hid (Same (fun k => k = g) w w1) := Lib.hid (Same.of_below B1.out)
    have HPE := Lib.hid (show ∀ e ∈ xs, ∀ W, Same (fun k => k = g) w W → Calls Tryz.prog fn #[.agg (noteA e.n e.sa e.sc), cv] W fun r W' => r = .returned (.bool (pred e)) ∧ Below W.heap.size W W' from fun e he W hs => HPD.out e he W (hs.weaken fun k hk => by rw [show k = g from hk]; rfl))
    have I64 : Hid ((i0 : Int) + 1 ≤ 9223372036854775807) := Lib.hid (by have h1 := D0.out.le; have h2 := HN.out; have h3 := H63.out; omega)
    clear SR
    have q1 : ((i0 : Int) == -1) = false := by rw [beq_eq_false_iff_ne]; omega
    go_upto_region 4 with fail
    clear q1
    have hk64 := I64.out
    go_wp2_with fail
    clear hk64
    go_loopw [5, 6] (fun iv jv wr => ∃ (i j : Nat) (R : List LN), iv = .int .i64 (i : Int) ∧ jv = .int .i64 (j : Int) ∧ j ≤ n ∧ Hid (DlSt xs R (fun x => !pred x) i j) ∧ Hid (SRows wr g 47 19 sz (R.map lnRow)) ∧ Hid (Same (fun k => k = g) w wr)) (fun _ jv _ => n - (intOf jv).toNat)
    case atStart => exact ⟨i0, i0 + 1, xs, rfl, by go_num, by have := D0.out.le; have := HN.out; omega, D0, SR1, SM1⟩
    case round =>
      obtain ⟨i, j, R, rfl, rfl, hj, DS, SR, SM⟩ := hrel
      by_cases hlt : j < n
      · have t0 : decide ((j : Int) < (n : Int)) = true := by simp; omega
        obtain ⟨x, Hx⟩ : ∃ x, xs[j]? = some x := ⟨_, List.getElem?_eq_getElem (by rw [HN.out]; exact hlt)⟩
        have HX := Lib.hid Hx
        have hrx : (R.map lnRow)[j]? = some (lnRow x) := by rw [List.getElem?_map, DS.out.get (Nat.le_refl _), Hx]; rfl
        have HRX := Lib.hid (SR.out.rng j _ hrx)
        obtain ⟨o, ho⟩ : ∃ o, Hid (0 + j * 19 = o) := ⟨_, Lib.hid rfl⟩
        have ho2 : j * 19 = o := by have := ho.out; omega
        rw [ho2] at HRX
        have hi := fun W => idx_off (W := W) (c := c) (b := g) Tryz.underlying24 I19 hlt ho.out
        clear Hx hrx ho2
        go_upto_region 8 with (first
          | (refine wpList_load_mid rfl 47 _ rfl g o rfl (x.n.cells x.sa x.sc) _ HRX.out Tryz.underlying47 rfl (by exact I19) ?_)
          | (refine wpList_store_newp wr rfl 47 _ _ rfl wr.heap.size rfl _ (noteA x.n x.sa x.sc) rfl rfl (I43.out _ _ _) rfl (noteA_one x.n x.sa x.sc) ?_))
        clear t0 hi HRX
        have bt : Below wr.heap.size wr (wr.alloc (.cells (noteA x.n x.sa x.sc) 47)) := (Below.refl _ _).alloc (Nat.le_refl _) _
        have P7 := Lib.hid (heap_last wr (.cells (noteA x.n x.sa x.sc) 47))
        have SR2 := Lib.hid (SR.out.below bt)
        have SM2 : Hid (Same (fun k => k = g) w _) := Lib.hid (SM.out.trans (Same.of_below bt))
        have LG2 : Hid (g < wr.heap.size) := Lib.hid (by obtain ⟨cur, h1, _⟩ := SR.out.blk; exact blk_lt h1)
        obtain ⟨p7, hp7⟩ : ∃ p, Hid (wr.heap.size = p) := ⟨_, Lib.hid rfl⟩
        rw [hp7.out] at P7 LG2 ⊢
        generalize wr.alloc (.cells (noteA x.n x.sa x.sc) 47) = wt at *
        clear bt SR SM
        go_wp2_with (refine wpList_load_row rfl 47 _ rfl p7 rfl 47 (noteA x.n x.sa x.sc) (0, 0) _ P7.out Tryz.underlying47 rfl (I43.out _ _ _) ?_)
        refine (HPE.out x (List.mem_of_getElem? HX.out) _ SM2.out).mono ?_
        rintro e w3 ⟨rfl, b3⟩
        have SR3 := Lib.hid (SR2.out.below b3)
        have SM3 : Hid (Same (fun k => k = g) w w3) := Lib.hid (SM2.out.trans (Same.of_below b3))
        have P73 := Lib.hid (below_blk b3 P7.out)
        have HJ64 : Hid ((j : Int) + 1 ≤ 9223372036854775807) := Lib.hid (by have h3 := H63.out; omega)
        clear b3 SR2 SM2 P7
        cases hpx : pred x with
        | true =>
          have DS2 := Lib.hid (DS.out.skip HX.out (show (!pred x) = false by rw [hpx]; rfl))
          clear hpx
          go_upto_region 6 with fail
          have hj64 := HJ64.out
          go_wp2_with fail
          go_roundw
          case rel => exact ⟨i, j + 1, R, rfl, by go_num, by omega, DS2, SR3, SM3⟩
          case measure => simp [intOf]; omega
        | false =>
          have DS2 := Lib.hid (DS.out.keep HX.out (show (!pred x) = true by rw [hpx]; rfl))
          clear hpx
          have hin : i < n := by have := DS.out.lt; omega
          have hiR : i < (R.map lnRow).length := by rw [List.length_map, DS.out.len, HN.out]; exact hin
          have TH := Lib.hid (SR3.out.there hiR)
          have ST := Lib.hid (SR3.out.set hiR (r := lnRow x) rfl (lnRow_one x))
          obtain ⟨u, hu⟩ : ∃ u, Hid (0 + i * 19 = u) := ⟨_, Lib.hid rfl⟩
          have hu2 : i * 19 = u := by have := hu.out; omega
          rw [hu2] at TH ST
          have hiu := fun W => idx_off (W := W) (c := c) (b := g) Tryz.underlying24 I19 hin hu.out
          have HI64 : Hid ((i : Int) + 1 ≤ 9223372036854775807) := Lib.hid (by have h3 := H63.out; omega)
          have ST2 := ST
          rw [← List.map_set] at ST2
          clear hiR hu2 ST
          go_upto_region 10 with (first
            | (refine wpList_load_row rfl 47 _ rfl p7 rfl 47 (noteA x.n x.sa x.sc) (0, 0) _ P73.out Tryz.underlying47 rfl (I43.out _ _ _) ?_)
            | (refine wpList_store_mid rfl 47 _ _ rfl g u (noteA x.n x.sa x.sc) rfl rfl TH.out (I43.out _ _ _) (noteA_one x.n x.sa x.sc) ?_))
          have SM4 := Lib.hid (SM3.out.trans (same_setCells g u (noteA x.n x.sa x.sc).toList w3))
          generalize hw4 : w3.setCells g u (noteA x.n x.sa x.sc).toList = w4 at *
          have ST4 : Hid (SRows w4 g 47 19 sz ((R.set i x).map lnRow)) := Lib.hid (by rw [← hw4]; exact ST2.out)
          clear hw4 ST2 hiu TH SR3
          have hi64 := HI64.out
          go_upto_region 6 with fail
          clear hi64
          have hj64 := HJ64.out
          go_wp2_with fail
          go_roundw
          case rel => exact ⟨i + 1, j + 1, R.set i x, by go_num, by go_num, by omega, DS2, ST4, SM4⟩
          case measure => simp [intOf]; omega
      · have t0 : decide ((j : Int) < (n : Int)) = false := by simp; omega
        go_upto_region 11 with fail
        clear t0
        have hjn : j = xs.length := by have := HN.out; omega
        have DN := Lib.hid (show R.take i = xs.filter (fun x => !pred x) ∧ (xs.filter (fun x => !pred x)).length = i from by have h := DS.out; rw [hjn] at h; exact h.done)
        have hin : i < n := by have := DS.out.lt; omega
        have HIN := Lib.hid hin
        have hcn := HR.out.2.1
        have hcM := HR.out.2.2.1
        have RC : Hid (i ≤ n ∧ n ≤ c ∧ c ≤ maxLen) := Lib.hid ⟨by omega, hcn, hcM⟩
        clear hcn hcM
        obtain ⟨inf, hi1, hi2⟩ : ∃ t, Tryz.prog.info? 47 = some t ∧ t.size = 19 := by
          cases hq : Tryz.prog.info? 47 with
          | none => simp [hq] at I19
          | some t => exact ⟨t, rfl, by simpa [hq] using I19⟩
        have hel : Tryz.prog.elem 24 = 47 := by simp [Program.elem, Tryz.underlying24]
        have hcut1 : ∀ W, (Instr.sliceAt 24 (.slice (some ⟨g, 0, none⟩) n c) (some (.int .i64 (i : Int))) none none).run Tryz.prog W = .ok (.slice (some ⟨g, i * 19, none⟩) (n - i) (c - i)) W := fun W => by
          have h1 := RC.out
          rw [run_sliceAt_slice (P := Tryz.prog) W _ _ _ _ _ (by rw [hel]; exact Tryz.underlying24), run_slice_any (P := Tryz.prog) W _ _ n c (by rw [hel]; exact Tryz.underlying24)]
          simp [Instr.sliceBounds, run_sliceBound, Result.andThen, sizeOf, typeInfo, hel, hi1, hi2, sliced, h1.1, show ¬ c = i by omega, Addr.add]
          omega
        have hcut2 : ∀ W, (Instr.sliceAt 24 (.slice (some ⟨g, 0, none⟩) n c) none (some (.int .i64 (i : Int))) none).run Tryz.prog W = .ok (.slice (some ⟨g, 0, none⟩) i c) W := fun W => by
          have h1 := RC.out
          rw [run_sliceAt_slice (P := Tryz.prog) W _ _ _ _ _ (by rw [hel]; exact Tryz.underlying24), run_slice_any (P := Tryz.prog) W _ _ n c (by rw [hel]; exact Tryz.underlying24)]
          simp [Instr.sliceBounds, run_sliceBound, Result.andThen, sizeOf, typeInfo, hel, hi1, hi2, sliced, show i ≤ c by omega, Addr.add]
        have hthere : wr.there g (i * 19) ((n - i) * 19) := by
          intro k hk
          obtain ⟨cur, h1, h2⟩ := SR.out.blk
          have h3 := SR.out.le
          rw [List.length_map, DS.out.len, HN.out] at h3
          have h4 : (n - i) * 19 + i * 19 = n * 19 := by rw [← Nat.add_mul]; congr 1; omega
          have h5 : i * 19 + k < cur.size := by omega
          exact ⟨by simp [World.cell?, h1, h5], by simp [World.frozen?, h1]⟩
        have hclr := fun ty => clear_run wr ty g (i * 19) (n - i) (c - i) (by omega) hthere
        have SMc := Lib.hid (SM.out.trans (same_setCells g (i * 19) (Builtin.zeroCells (noteA zeroN none 0) (n - i)).toList wr))
        have RNG := Lib.hid (show ∀ q x, (xs.filter (fun x => !pred x))[q]? = some x → (wr.setCells g (i * 19) (Builtin.zeroCells (noteA zeroN none 0) (n - i)).toList).rangeAt g (0 + q * 19) (x.n.cells x.sa x.sc) from fun q x hx => by
          have hq := (List.getElem?_eq_some_iff.1 hx).1
          rw [DN.out.2] at hq
          rw [← DN.out.1, List.getElem?_take, if_pos hq] at hx
          have h1 := SR.out.rng q (lnRow x) (by rw [List.getElem?_map, hx]; rfl)
          rw [Nat.zero_add]
          refine World.rangeAt_setCells_apart h1 _ _ _ (.inr (.inl ?_))
          have h2 : (q + 1) * 19 ≤ i * 19 := Nat.mul_le_mul_right _ hq
          rw [Nat.add_mul] at h2
          rw [lnRow_len]
          omega)
        clear hthere hi1 hi2 hel
        generalize wr.setCells g (i * 19) (Builtin.zeroCells (noteA zeroN none 0) (n - i)).toList = wc at *
        go_wp2_with (refine wpList_clear_eq rfl _ _ rfl _ _ rfl (hclr _) ?_)
        go_ret
        refine ⟨⟨some ⟨g, 0, none⟩, i, c, rfl, ⟨Nat.le_refl _, fun W2 hs2 => ⟨DN.out.2, by have h1 := RC.out; omega, RC.out.2.2, .inr ⟨g, 0, rfl, fun q x hx => ⟨?_, ?_⟩⟩⟩⟩, Nat.le_of_lt HIN.out⟩, ?_⟩
        · have hgl : g < wc.heap.size := by
            have h1 := RNG.out q x hx 0 _ rfl
            exact World.block_lt_of_cell? wc _ h1
          have hb := hs2.block g hgl (fun h => by have := LG.out; omega)
          intro j v hj
          have h1 := RNG.out q x hx j v hj
          rw [← h1]
          exact World.cell?_of_block hb
        · obtain ⟨cur, h1⟩ : ∃ cur, w.heap[g]? = some (.cells cur 47 (0, 0)) := by
            rcases HM.out.own.2 with ⟨h2, h3⟩ | ⟨g', cap, cur, hv, _, hg, _⟩
            · cases h2
            · cases hv
              exact ⟨cur, hg⟩
          have h3 := str_keep (HM.out.str x (List.mem_filter.1 (List.mem_of_getElem? hx)).1) h1 SMc.out
          exact RdA.of_own (own_keep h3 hs2 (fun b hb hx => by have := h3.lt b hb; omega))
        · exact SMc.out.below (Below.refl _ _) HM.out.bel.size (fun k hk => by rw [show k = g from hk]; exact LG.out)
end Go.Proofs.YtlnhppgfhkkidaaGreat
namespace Go.Proofs.YtlnhppgfhkkidaaGreat
set_option linter.unusedSimpArgs false
set_option linter.unusedVariables false

def insG (lt : NoteV → NoteV → Bool) (n : NoteV) : List NoteV → List NoteV
  | [] => [n]
  | y :: ys => if lt y n = true then y :: insG lt n ys else n :: y :: ys
theorem judge_step (l : List NoteV) (r : NoteV) {k : Nat} {x : NoteV} (h : l[k]? = some x) : judgeP (l.take (k + 1)) r = betterP r (judgeP (l.take k) r) x := by
  unfold judgeP
  rw [take_snoc h, List.foldl_append]
  rfl
theorem better_skip {r x : NoteV} {b : Option NoteV} (hc : candP r x = false) : betterP r b x = b := by
  unfold betterP
  rw [if_neg (by rw [hc]; decide)]
theorem better_first {r x : NoteV} (hc : candP r x = true) : betterP r none x = some x := by
  unfold betterP
  rw [if_pos hc]
def JdgAt (l : List NoteV) (r : NoteV) (k : Nat) (i : Int) : Prop := (i = -1 ∧ judgeP (l.take k) r = none) ∨ ∃ (j : Nat) (x : NoteV), i = (j : Int) ∧ l[j]? = some x ∧ judgeP (l.take k) r = some x
theorem JdgAt.start (l : List NoteV) (r : NoteV) : JdgAt l r 0 (-1) := .inl ⟨rfl, rfl⟩
theorem JdgAt.skip {l : List NoteV} {r x : NoteV} {k : Nat} {i : Int} (h : JdgAt l r k i) (hx : l[k]? = some x) (hc : candP r x = false) : JdgAt l r (k + 1) i := by
  have e : judgeP (l.take (k + 1)) r = judgeP (l.take k) r := by rw [judge_step l r hx, better_skip hc]
  unfold JdgAt
  rw [e]
  exact h
theorem JdgAt.first {l : List NoteV} {r x : NoteV} {k : Nat} {i : Int} (h : JdgAt l r k i) (hi : i < 0) (hx : l[k]? = some x) (hc : candP r x = true) : JdgAt l r (k + 1) (k : Int) := by
  rcases h with ⟨_, h⟩ | ⟨j, y, rfl, _⟩
  · exact .inr ⟨k, x, rfl, hx, by rw [judge_step l r hx, h, better_first hc]⟩
  · omega
def evTo (l : List NoteV) (k : Nat) : List NoteV := sortP ((l.take k).filterMap (countP l))
theorem evTo_none {l : List NoteV} {k : Nat} {x : NoteV} (h : l[k]? = some x) (hc : countP l x = none) : evTo l (k + 1) = evTo l k := by
  unfold evTo
  rw [take_snoc h, List.filterMap_append, List.filterMap_cons_none hc, List.filterMap_nil, List.append_nil]
theorem evTo_len (l : List NoteV) (k : Nat) : (evTo l k).length ≤ k := by
  unfold evTo
  rw [(sortP_perm _).length_eq]
  refine Nat.le_trans (List.length_filterMap_le _ _) ?_
  rw [List.length_take]
  omega
end Go.Proofs.YtlnhppgfhkkidaaGreat
namespace Go.Proofs.YtlnhppgfhkkidaaGreat
set_option linter.unusedSimpArgs false
set_option linter.unusedVariables false

theorem insG_perm (lt : NoteV → NoteV → Bool) (n : NoteV) : ∀ l : List NoteV, (insG lt n l).Perm (n :: l)
  | [] => List.Perm.refl _
  | y :: ys => by
    unfold insG
    split
    · exact ((insG_perm lt n ys).cons y).trans (List.Perm.swap ..)
    · exact List.Perm.refl _
end Go.Proofs.YtlnhppgfhkkidaaGreat
namespace Go.Proofs.YtlnhppgfhkkidaaGreat
set_option linter.unusedSimpArgs false
set_option linter.unusedVariables false

def bump (c : Int → Nat) (h : Int) : Int → Nat := fun a => if a = h then c a + 1 else c a
def NmsOk (K : List NoteV) (c : Int → Nat) : Prop := ∀ h k : Int, (∃ x ∈ K, nmOf x = (h, k)) ↔ 1 ≤ k ∧ k ≤ (c h : Int)
def knownBy (K : List NoteV) (n : NoteV) : Option NoteV := K.find? (fun x => decide (nmOf x = nmOf n))
def hearGo (l : List NoteV) : List NoteV → (Int → Nat) → List NoteV → Option (List NoteV × (Int → Nat))
  | fr, c, [] => some (fr, c)
  | fr, c, n :: ns => match knownBy (l ++ fr) n with
    | some o => if sameB o n = true then hearGo l fr c ns else none
    | none => if (c n.house : Int) + 1 < n.num then hearGo l fr c ns else hearGo l (fr ++ [n]) (bump c n.house) ns
def insN (l : List NoteV) (n : NoteV) : List NoteV := insG (fun x y => nmLt (nmOf x) (nmOf y)) n l
def addAll (l fr : List NoteV) : List NoteV := fr.foldl insN l
theorem knownBy_some {K : List NoteV} {n o : NoteV} (h : knownBy K n = some o) : o ∈ K ∧ nmOf o = nmOf n := by
  unfold knownBy at h
  exact ⟨List.mem_of_find?_eq_some h, by simpa using List.find?_some h⟩
theorem knownBy_none {K : List NoteV} {n : NoteV} (h : knownBy K n = none) : ∀ y ∈ K, nmOf y ≠ nmOf n := by
  unfold knownBy at h
  rw [List.find?_eq_none] at h
  intro y hy e
  exact h y hy (by simpa using e)
theorem knownBy_no {K : List NoteV} {n : NoteV} (h : ∀ y ∈ K, nmOf y ≠ nmOf n) : knownBy K n = none := by
  unfold knownBy
  rw [List.find?_eq_none]
  intro y hy e
  exact h y hy (by simpa using e)
theorem NmsOk.free {K : List NoteV} {c : Int → Nat} (h : NmsOk K c) {n : NoteV} (h1 : 1 ≤ n.num) (hn : ∀ y ∈ K, nmOf y ≠ nmOf n) : (c n.house : Int) < n.num := by
  have := (h n.house n.num).2
  by_cases h2 : n.num ≤ (c n.house : Int)
  · obtain ⟨x, hx, e⟩ := this ⟨h1, h2⟩
    exact absurd e (hn x hx)
  · omega
theorem NmsOk.le {K : List NoteV} {c : Int → Nat} (h : NmsOk K c) {n : NoteV} (hn : n ∈ K) : 1 ≤ n.num ∧ n.num ≤ (c n.house : Int) := (h n.house n.num).1 ⟨n, hn, rfl⟩
theorem NmsOk.add {K : List NoteV} {c : Int → Nat} (h : NmsOk K c) {n : NoteV} (hk : n.num = (c n.house : Int) + 1) : NmsOk (K ++ [n]) (bump c n.house) := fun a k => by
  have e1 : (∃ x ∈ K ++ [n], nmOf x = (a, k)) ↔ (∃ x ∈ K, nmOf x = (a, k)) ∨ nmOf n = (a, k) := by
    constructor
    · rintro ⟨x, hx, e⟩
      rcases List.mem_append.1 hx with hx | hx
      · exact .inl ⟨x, hx, e⟩
      · rw [List.mem_singleton.1 hx] at e; exact .inr e
    · rintro (⟨x, hx, e⟩ | e)
      · exact ⟨x, List.mem_append_left _ hx, e⟩
      · exact ⟨n, by simp, e⟩
  rw [e1, h a k]
  unfold bump
  have e2 : nmOf n = (a, k) ↔ n.house = a ∧ n.num = k := by
    show (n.house, n.num) = (a, k) ↔ _
    rw [Prod.mk.injEq]
  rw [e2]
  by_cases ha : a = n.house
  · subst ha
    simp
    omega
  · rw [if_neg ha]
    constructor
    · rintro (h2 | h2)
      · exact h2
      · exact absurd h2.1.symm ha
    · exact .inl
theorem NmsOk.perm {K L : List NoteV} {c : Int → Nat} (h : NmsOk K c) (hm : ∀ x, x ∈ L ↔ x ∈ K) : NmsOk L c := fun a k => by
  rw [← h a k]
  constructor
  · rintro ⟨x, hx, e⟩; exact ⟨x, (hm x).1 hx, e⟩
  · rintro ⟨x, hx, e⟩; exact ⟨x, (hm x).2 hx, e⟩
theorem hear_ok {l : List NoteV} : ∀ (ns fr : List NoteV) (c : Int → Nat) {fr' : List NoteV} {c' : Int → Nat}, NmsOk (l ++ fr) c → ((l ++ fr).map nmOf).Nodup → (∀ n ∈ ns, 1 ≤ n.num) → hearGo l fr c ns = some (fr', c') →
    NmsOk (l ++ fr') c' ∧ ((l ++ fr').map nmOf).Nodup ∧ (∀ x ∈ fr', x ∈ fr ∨ x ∈ ns) ∧ fr'.length ≤ fr.length + ns.length
  | [], fr, c, fr', c', h1, h2, _, h => by
    simp only [hearGo, Option.some.injEq, Prod.mk.injEq] at h
    obtain ⟨rfl, rfl⟩ := h
    exact ⟨h1, h2, fun x hx => .inl hx, by simp⟩
  | n :: ns, fr, c, fr', c', h1, h2, h3, h => by
    rw [hearGo] at h
    have h3' : ∀ m ∈ ns, 1 ≤ m.num := fun m hm => h3 m (List.mem_cons_of_mem _ hm)
    split at h
    · split at h
      · obtain ⟨a1, a2, a3, a4⟩ := hear_ok ns fr c h1 h2 h3' h
        exact ⟨a1, a2, fun x hx => (a3 x hx).imp id (List.mem_cons_of_mem _), by rw [List.length_cons]; omega⟩
      · cases h
    · rename_i hk
      have hfree := knownBy_none hk
      split at h
      · obtain ⟨a1, a2, a3, a4⟩ := hear_ok ns fr c h1 h2 h3' h
        exact ⟨a1, a2, fun x hx => (a3 x hx).imp id (List.mem_cons_of_mem _), by rw [List.length_cons]; omega⟩
      · rename_i hle
        have hlt := h1.free (h3 n (List.mem_cons_self ..)) hfree
        have hadd := h1.add (n := n) (by omega)
        rw [List.append_assoc] at hadd
        obtain ⟨a1, a2, a3, a4⟩ := hear_ok ns (fr ++ [n]) (bump c n.house) hadd (by
          rw [← List.append_assoc, List.map_append]
          refine List.nodup_append.2 ⟨h2, by simp, fun a ha b hb e => ?_⟩
          rw [List.map_singleton, List.mem_singleton] at hb
          obtain ⟨x, hx, rfl⟩ := List.mem_map.1 ha
          exact hfree x hx (e.trans hb)) h3' h
        refine ⟨a1, a2, fun x hx => ?_, by rw [List.length_append] at a4; rw [List.length_cons]; simp at a4; omega⟩
        rcases a3 x hx with h5 | h5
        · rcases List.mem_append.1 h5 with h5 | h5
          · exact .inl h5
          · rw [List.mem_singleton.1 h5]; exact .inr (List.mem_cons_self ..)
        · exact .inr (List.mem_cons_of_mem _ h5)
theorem insN_mem {l : List NoteV} {n x : NoteV} : x ∈ insN l n ↔ x ∈ l ∨ x = n := by
  unfold insN
  rw [(insG_perm _ n l).mem_iff, List.mem_cons]
  exact Or.comm
theorem insN_sorted {n : NoteV} : ∀ {l : List NoteV}, l.Pairwise ltN → (∀ y ∈ l, nmOf y ≠ nmOf n) → (insN l n).Pairwise ltN
  | [], _, _ => by simp [insN, insG]
  | y :: ys, h, hf => by
    rw [List.pairwise_cons] at h
    have hf' : ∀ z ∈ ys, nmOf z ≠ nmOf n := fun z hz => hf z (List.mem_cons_of_mem _ hz)
    have ih := insN_sorted h.2 hf'
    unfold insN at ih ⊢
    unfold insG
    split
    · rename_i hy
      refine List.pairwise_cons.2 ⟨fun z hz => ?_, ih⟩
      rcases (insN_mem (l := ys) (n := n) (x := z)).1 hz with hz | rfl
      · exact h.1 z hz
      · exact hy
    · rename_i hy
      have hny : ltN n y := by
        unfold ltN
        cases h2 : nmLt (nmOf n) (nmOf y) with
        | true => rfl
        | false => exact absurd (nm_total (by simpa using hy) h2) (hf y (List.mem_cons_self ..))
      refine List.pairwise_cons.2 ⟨fun z hz => ?_, List.pairwise_cons.2 h⟩
      rcases List.mem_cons.1 hz with rfl | hz
      · exact hny
      · exact ltN_trans hny (h.1 z hz)
theorem addAll_u : ∀ (fr l : List NoteV), l.Pairwise ltN → ((l ++ fr).map nmOf).Nodup → IsU l fr (addAll l fr)
  | [], l, h, _ => ⟨h, fun x => by simp [addAll]⟩
  | n :: fr, l, h, hd => by
    have hd2 : ((l.map nmOf) ++ nmOf n :: fr.map nmOf).Nodup := by simpa [List.map_append] using hd
    have hf : ∀ y ∈ l, nmOf y ≠ nmOf n := fun y hy e => (List.nodup_append.1 hd2).2.2 _ (List.mem_map_of_mem hy) _ (List.mem_cons_self ..) e
    have h2 := insN_sorted h hf
    have hp : ((insN l n ++ fr).map nmOf).Perm ((l ++ n :: fr).map nmOf) := by
      refine List.Perm.map _ (((insG_perm _ n l).append_right fr).trans ?_)
      rw [List.cons_append]
      exact List.perm_middle.symm
    have ih := addAll_u fr (insN l n) h2 (hp.nodup_iff.2 hd)
    refine ⟨ih.1, fun x => ?_⟩
    show x ∈ addAll (insN l n) fr ↔ _
    rw [ih.2 x, insN_mem, List.mem_cons, or_assoc]
theorem addAll_len : ∀ (fr l : List NoteV), (addAll l fr).length = l.length + fr.length
  | [], l => by simp [addAll]
  | n :: fr, l => by
    show (addAll (insN l n) fr).length = _
    rw [addAll_len fr (insN l n), insN, (insG_perm _ n l).length_eq, List.length_cons, List.length_cons]
    omega
def giftOf (l : List NoteV) (c : Int → Nat) : List NoteV := l.filter (fun n => !decide (n.num ≤ (c n.house : Int)))
theorem gift_mem {l : List NoteV} {c : Int → Nat} {n : NoteV} : n ∈ giftOf l c ↔ n ∈ l ∧ (c n.house : Int) < n.num := by
  unfold giftOf
  rw [List.mem_filter]
  simp
theorem hear_gift {l1 l2 : List NoteV} {c1 c2 : Int → Nat} (h1 : NmsOk l1 c1) (h2 : NmsOk l2 c2) (hs : l1.Pairwise ltN) : ∀ (j : Nat), j ≤ (giftOf l1 c2).length → ∃ c', hearGo l2 [] c2 (giftOf l1 c2) = hearGo l2 ((giftOf l1 c2).take j) c' ((giftOf l1 c2).drop j) ∧ NmsOk (l2 ++ (giftOf l1 c2).take j) c'
  | 0, _ => ⟨c2, by simp, by simpa using h2⟩
  | j + 1, hj => by
    obtain ⟨c', e, hc⟩ := hear_gift h1 h2 hs j (by omega)
    have hg : (giftOf l1 c2).Pairwise ltN := hs.sublist List.filter_sublist
    obtain ⟨n, hn⟩ : ∃ n, (giftOf l1 c2)[j]? = some n := ⟨_, List.getElem?_eq_getElem (by omega)⟩
    have hd := drop_at hn
    have hm := gift_mem.1 (List.mem_of_getElem? hn)
    have hfree : ∀ y ∈ l2 ++ (giftOf l1 c2).take j, nmOf y ≠ nmOf n := fun y hy e2 => by
      rcases List.mem_append.1 hy with hy | hy
      · have h5 := h2.le hy
        have h6 : y.house = n.house ∧ y.num = n.num := by simpa [nmOf] using e2
        rw [h6.1, h6.2] at h5
        omega
      · obtain ⟨i, hi, hi2⟩ := List.mem_take_iff_getElem.1 hy
        have hjl := (List.getElem?_eq_some_iff.1 hn)
        have h7 := List.pairwise_iff_getElem.1 hg i j (by omega) hjl.1 (by omega)
        rw [hi2, hjl.2] at h7
        exact ltN_irrefl h7 e2
    have h1n := (h1.le hm.1).1
    have hlt := hc.free h1n hfree
    have hle : ¬ (c' n.house : Int) + 1 < n.num := fun hlt2 => by
      obtain ⟨y, hy, e2⟩ := (h1 n.house (n.num - 1)).2 ⟨by omega, by have := (h1.le hm.1).2; omega⟩
      have hyn : y.house = n.house ∧ y.num = n.num - 1 := by simpa [nmOf] using e2
      have hin : ∃ x ∈ l2 ++ (giftOf l1 c2).take j, nmOf x = (n.house, n.num - 1) := by
        by_cases h8 : n.num - 1 ≤ (c2 n.house : Int)
        · obtain ⟨x, hx, e3⟩ := (h2 n.house (n.num - 1)).2 ⟨by omega, h8⟩
          exact ⟨x, List.mem_append_left _ hx, e3⟩
        · have hyg : y ∈ giftOf l1 c2 := gift_mem.2 ⟨hy, by rw [hyn.1, hyn.2]; omega⟩
          obtain ⟨i, hi⟩ := List.getElem?_of_mem hyg
          have hij : i < j := by
            rcases Nat.lt_trichotomy i j with h9 | h9 | h9
            · exact h9
            · subst h9
              rw [hn] at hi
              cases hi
              omega
            · have hil := (List.getElem?_eq_some_iff.1 hi)
              have hjl := (List.getElem?_eq_some_iff.1 hn)
              have h7 := List.pairwise_iff_getElem.1 hg j i hjl.1 hil.1 h9
              rw [hil.2, hjl.2] at h7
              unfold ltN at h7
              rw [nmLt_iff] at h7
              have h10 : n.house < y.house ∨ n.house = y.house ∧ n.num < y.num := h7
              omega
          refine ⟨y, List.mem_append_right _ (List.mem_take_iff_getElem.2 ⟨i, ?_, ?_⟩), e2⟩
          · have := (List.getElem?_eq_some_iff.1 hi).1; omega
          · exact (List.getElem?_eq_some_iff.1 hi).2
      have := ((hc n.house (n.num - 1)).1 hin).2
      omega
    refine ⟨bump c' n.house, ?_, ?_⟩
    · rw [e, hd, hearGo, knownBy_no hfree]
      simp only
      rw [if_neg hle, take_snoc hn]
    · rw [take_snoc hn, ← List.append_assoc]
      exact hc.add (by omega)
theorem hear_gift_all {l1 l2 : List NoteV} {c1 c2 : Int → Nat} (h1 : NmsOk l1 c1) (h2 : NmsOk l2 c2) (hs : l1.Pairwise ltN) : ∃ c', hearGo l2 [] c2 (giftOf l1 c2) = some (giftOf l1 c2, c') := by
  obtain ⟨c', e, _⟩ := hear_gift h1 h2 hs _ (Nat.le_refl _)
  refine ⟨c', ?_⟩
  rw [e, List.take_length, List.drop_length, hearGo]
theorem hear_known {l : List NoteV} {c : Int → Nat} : ∀ (ns : List NoteV), (∀ n ∈ ns, n ∈ l) → (l.map nmOf).Nodup → hearGo l [] c ns = some ([], c)
  | [], _, _ => rfl
  | n :: ns, h, hd => by
    rw [hearGo, List.append_nil]
    cases hk : knownBy l n with
    | none => exact absurd rfl (knownBy_none hk n (h n (List.mem_cons_self ..)))
    | some o =>
      obtain ⟨h1, h2⟩ := knownBy_some hk
      have e : o = n := nodup_inj hd h1 (h n (List.mem_cons_self ..)) h2
      subst e
      simp only
      rw [if_pos (sameB_iff.2 rfl)]
      exact hear_known ns (fun m hm => h m (List.mem_cons_of_mem _ hm)) hd
theorem gift_all {l1 l2 u : List NoteV} {c2 : Int → Nat} (h2 : NmsOk l2 c2) (hu : IsU l1 l2 u) (hs1 : l1.Pairwise ltN) (hs2 : l2.Pairwise ltN) (hn : NoFork l1 l2) (h1 : ∀ x ∈ l1, 1 ≤ x.num) : addAll l2 (giftOf l1 c2) = u ∧ u.length = l2.length + (giftOf l1 c2).length := by
  have hd : ((l2 ++ giftOf l1 c2).map nmOf).Nodup := by
    rw [List.map_append]
    refine List.nodup_append.2 ⟨set_nodup hs2, set_nodup (hs1.sublist List.filter_sublist), fun a ha b hb e => ?_⟩
    obtain ⟨x, hx, rfl⟩ := List.mem_map.1 ha
    obtain ⟨y, hy, rfl⟩ := List.mem_map.1 hb
    have h5 := h2.le hx
    have h6 : x.house = y.house ∧ x.num = y.num := by simpa [nmOf] using e
    have h7 := (gift_mem.1 hy).2
    rw [h6.1, h6.2] at h5
    omega
  have ha := addAll_u (giftOf l1 c2) l2 hs2 hd
  have e : addAll l2 (giftOf l1 c2) = u := by
    refine sortedN_eq ha.1 hu.1 fun x => ?_
    rw [ha.2 x, hu.2 x]
    constructor
    · rintro (h | h)
      · exact .inr h
      · exact .inl (gift_mem.1 h).1
    · rintro (h | h)
      · by_cases h3 : x.num ≤ (c2 x.house : Int)
        · obtain ⟨y, hy, e⟩ := (h2 x.house x.num).2 ⟨h1 x h, h3⟩
          rw [hn x h y hy e.symm]
          exact .inl hy
        · exact .inr (gift_mem.2 ⟨h, by omega⟩)
      · exact .inl h
  exact ⟨e, by rw [← e, addAll_len]⟩
end Go.Proofs.YtlnhppgfhkkidaaGreat
namespace Go.Proofs.YtlnhppgfhkkidaaGreat
set_option linter.unusedSimpArgs false
open Go.RowKit

structure HouV where
  f : FrV
  id : Int
  l : List NoteV
  c : Int → Nat
  ad : List NoteV
  sb : List UInt8
  fb : List UInt8
  sd : Nat
  fd : Nat
def HouV.new (f : FrV) (id : Int) : HouV := ⟨f, id, [], fun _ => 0, [], [], [], 0, 0⟩
def HouV.add (S : HouV) (n : NoteV) : HouV := { S with l := insN S.l n, c := bump S.c n.house, ad := S.ad ++ [n], sb := S.sb ++ stockOf (encN n), fb := S.fb ++ foilOf (encN n) }
def houA (f : FrV) (id : Int) (mb : Nat) (c : Int → Nat) (sp : Nat) : Array Value :=
  #[.int .i64 f.rings, .int .i64 f.sectors, .int .i64 f.wide, .int .i64 id, .map (some mb), .int .i64 (c 0 : Int), .int .i64 (c 1 : Int), .int .i64 (c 2 : Int), .int .i64 (c 3 : Int), .int .i64 (c 4 : Int), .int .i64 (c 5 : Int), .int .i64 (c 6 : Int), .int .i64 (c 7 : Int), .int .i64 (c 8 : Int), .pointer (some ⟨sp, 0, none⟩)]
theorem houA_cnt (f : FrV) (id : Int) (mb : Nat) (c : Int → Nat) (sp k : Nat) (hk : k ≤ 8) : (houA f id mb c sp)[5 + k]? = some (.int .i64 (c (k : Int) : Int)) := by
  have : k = 0 ∨ k = 1 ∨ k = 2 ∨ k = 3 ∨ k = 4 ∨ k = 5 ∨ k = 6 ∨ k = 7 ∨ k = 8 := by omega
  rcases this with rfl | rfl | rfl | rfl | rfl | rfl | rfl | rfl | rfl <;> rfl
theorem houA_set (f : FrV) (id : Int) (mb : Nat) (c : Int → Nat) (sp k : Nat) (hk : k ≤ 8) : (houA f id mb c sp).setIfInBounds (5 + k) (.int .i64 ((c (k : Int) : Int) + 1)) = houA f id mb (bump c (k : Int)) sp := by
  have : k = 0 ∨ k = 1 ∨ k = 2 ∨ k = 3 ∨ k = 4 ∨ k = 5 ∨ k = 6 ∨ k = 7 ∨ k = 8 := by omega
  rcases this with rfl | rfl | rfl | rfl | rfl | rfl | rfl | rfl | rfl <;> simp [houA, bump]
structure HInv (S : HouV) : Prop where
  v : S.f.valid = true
  id : 1 ≤ S.id ∧ S.id ≤ 8
  srt : S.l.Pairwise ltN
  frm : ∀ x ∈ S.l, formedB S.f x = true
  ok : ∀ x ∈ S.l, x.Ok
  nms : NmsOk S.l S.c
  len : S.ad.length = S.l.length
  sbl : S.sb.length ≤ 2200 * S.ad.length
  fbl : S.fb.length = 4 * S.ad.length
theorem formed_house {f : FrV} {x : NoteV} (h : formedB f x = true) : 1 ≤ x.house ∧ x.house ≤ 8 ∧ 1 ≤ x.num := by
  simp only [formedB, Bool.and_eq_true, rightNameB, inB_true] at h
  omega
theorem formed_enc {f : FrV} {x : NoteV} (hv : f.valid = true) (h : formedB f x = true) : (encN x).length ≤ 2190 := by
  have h1 := encN_len x (formed_small hv h)
  have h2 := formed_len hv h
  omega
theorem HInv.new {f : FrV} {id : Int} (hv : f.valid = true) (h : 1 ≤ id ∧ id ≤ 8) : HInv (HouV.new f id) :=
  ⟨hv, h, List.Pairwise.nil, (fun x hx => by cases hx), (fun x hx => by cases hx), (fun a k => by simp [HouV.new]; omega), rfl, Nat.zero_le _, rfl⟩
theorem HInv.add {S : HouV} {n : NoteV} (h : HInv S) (hf : formedB S.f n = true) (hok : n.Ok) (hk : n.num = (S.c n.house : Int) + 1) : HInv (S.add n) ∧ ∀ y ∈ S.l, nmOf y ≠ nmOf n := by
  have hfree : ∀ y ∈ S.l, nmOf y ≠ nmOf n := fun y hy e => by
    have h5 := h.nms.le hy
    have h6 : y.house = n.house ∧ y.num = n.num := by simpa [nmOf] using e
    rw [h6.1, h6.2] at h5
    omega
  refine ⟨⟨h.v, h.id, insN_sorted h.srt hfree, fun x hx => ?_, fun x hx => ?_, (h.nms.add hk).perm fun x => ?_, ?_, ?_, ?_⟩, hfree⟩
  · rcases insN_mem.1 hx with hx | rfl
    · exact h.frm x hx
    · exact hf
  · rcases insN_mem.1 hx with hx | rfl
    · exact h.ok x hx
    · exact hok
  · rw [List.mem_append, List.mem_singleton]
    exact insN_mem
  · show (S.ad ++ [n]).length = (insN S.l n).length
    rw [insN, (insG_perm _ n S.l).length_eq, List.length_append, List.length_cons, h.len]
    rfl
  · show (S.sb ++ stockOf (encN n)).length ≤ 2200 * (S.ad ++ [n]).length
    have := h.sbl
    have := formed_enc h.v hf
    rw [List.length_append, List.length_append, stockOf_len, List.length_singleton]
    omega
  · show (S.fb ++ foilOf (encN n)).length = 4 * (S.ad ++ [n]).length
    have := h.fbl
    rw [List.length_append, List.length_append, foilOf_len, List.length_singleton]
    omega
def houF (p mb : Nat) (G : Nm → Option LN) (SF : Nat → Prop) : Nat → Prop := fun b => b = p ∨ b = mb ∨ SF b ∨ ∃ k x, G k = some x ∧ Value.ownBlock (.slice x.sa x.n.strokes.length x.sc) = some b
structure HouAt (w : World) (p mb sp : Nat) (G : Nm → Option LN) (SF : Nat → Prop) (S : HouV) : Prop where
  blk : w.heap[p]? = some (.cells (houA S.f S.id mb S.c sp) 109 (0, 0))
  map : MapF LN.val w mb S.l.length G
  gs : ∀ k x, G k = some x → x.n ∈ S.l ∧ x.nm = k
  gl : ∀ n ∈ S.l, ∃ x, G (nmOf n) = some x ∧ x.n = n
  str : ∀ k x, G k = some x → w.ownsRow 0 3 1 (.slice x.sa x.n.strokes.length x.sc) x.n.strokes.length (x.n.strokes.map intV)
  stk : Stk w sp SF S.sb S.fb S.sd S.fd
section
variable {w w' : World} {p mb sp : Nat} {G : Nm → Option LN} {SF : Nat → Prop} {S : HouV}
theorem HouAt.same {X : Nat → Prop} (h : HouAt w p mb sp G SF S) (hs : Same X w w') (hd : ∀ k, X k → ¬ houF p mb G SF k) : HouAt w' p mb sp G SF S :=
  ⟨(hs.block p (blk_lt h.blk) (fun hX => hd p hX (.inl rfl))).trans h.blk, h.map.of_block (hs.block mb h.map.lt (fun hX => hd mb hX (.inr (.inl rfl)))), h.gs, h.gl,
    fun k x hk => own_keep (h.str k x hk) hs (fun b hb hX => hd b hX (.inr (.inr (.inr ⟨k, x, hk, hb⟩)))), h.stk.same hs (fun k hX hF => hd k hX (.inr (.inr (.inl hF))))⟩
theorem HouAt.below (h : HouAt w p mb sp G SF S) (hb : Below w.heap.size w w') : HouAt w' p mb sp G SF S := h.same (X := fun _ => False) (Same.of_below hb) (fun _ h => h.elim)
theorem HouAt.gok (h : HouAt w p mb sp G SF S) (hi : HInv S) : GOk G w := fun k x hk => by
  obtain ⟨h1, h2⟩ := h.gs k x hk
  subst h2
  exact ⟨RdA.of_own (h.str _ x hk), ⟨(hi.ok _ h1).house, (hi.ok _ h1).num⟩, Nat.le_trans (formed_len hi.v (hi.frm _ h1)) (by decide)⟩
theorem HouAt.lt (h : HouAt w p mb sp G SF S) : ∀ k, houF p mb G SF k → k < w.heap.size := by
  rintro k (rfl | rfl | hk | ⟨a, x, h1, h2⟩)
  · exact blk_lt h.blk
  · exact h.map.lt
  · exact h.stk.lt k hk
  · exact ((h.str a x h1).lt k h2).2
theorem HouAt.list {ks : List Nm} (h : HouAt w p mb sp G SF S) (hi : HInv S) (ha : AllIn G ks) (hs : ks.Pairwise (fun x y => nmLt x y = true)) (_hin : ∀ k ∈ ks, (G k).isSome = true) : (ks.filterMap G).map LN.n = S.l := by
  refine sortedN_eq ?_ hi.srt fun x => ?_
  · rw [List.pairwise_map]
    clear ha _hin
    induction ks with
    | nil => exact List.Pairwise.nil
    | cons k ks ih =>
      rw [List.pairwise_cons] at hs
      cases hk : G k with
      | none => rw [List.filterMap_cons_none hk]; exact ih hs.2
      | some x =>
        rw [List.filterMap_cons_some hk]
        refine List.pairwise_cons.2 ⟨fun y hy => ?_, ih hs.2⟩
        obtain ⟨k', hk', h'⟩ := List.mem_filterMap.1 hy
        unfold ltN
        rw [show nmOf x.n = k from (h.gs k x hk).2, show nmOf y.n = k' from (h.gs k' y h').2]
        exact hs.1 k' hk'
  · constructor
    · intro hx
      obtain ⟨y, hy, rfl⟩ := List.mem_map.1 hx
      obtain ⟨k, _, hk⟩ := List.mem_filterMap.1 hy
      exact (h.gs k y hk).1
    · intro hx
      obtain ⟨y, hy, rfl⟩ := h.gl x hx
      exact List.mem_map_of_mem (List.mem_filterMap.2 ⟨_, ha _ (by rw [hy]; rfl), hy⟩)
end
theorem idx_cnt {W : World} {p k : Nat} (hk : k < 9) : (Instr.indexAt 107 (.pointer (some ⟨p, 5, none⟩)) (.int .i64 (k : Int))).run Tryz.prog W = .ok (.pointer (some ⟨p, 5 + k, none⟩)) W := by
  have hsz : (Tryz.prog.info? 3).map (·.size) = some 1 := by kernel_rfl
  cases hq : Tryz.prog.info? 3 with
  | none => simp [hq] at hsz
  | some i =>
    simp only [hq, Option.map_some, Option.some.injEq] at hsz
    simp [Instr.indexAt, run_underlying Tryz.underlying107, Instr.sureAddr, asIntOf, sizeOf, typeInfo, hq, hsz, Addr.add, hk]
theorem made_any (w : World) (p mb sp : Nat) (f : FrV) (id : Int) (c : Int → Nat) (h : w.heap[p]? = some (.cells (houA f id mb c sp) 109 (0, 0))) :
    Calls Tryz.prog 53 #[.pointer (some ⟨p, 0, none⟩)] w fun e w' => e = .returned (.bool true) ∧ w' = w := by
  have c14 := cell_of h 14 (.pointer (some ⟨sp, 0, none⟩)) rfl
  go_enter Tryz.func53, Tryz.ntmps53
  go_wp2_with fail
  go_ret
  exact ⟨rfl, rfl⟩
end Go.Proofs.YtlnhppgfhkkidaaGreat
namespace Go.Proofs.YtlnhppgfhkkidaaGreat
set_option linter.unusedSimpArgs false
open Go.RowKit

theorem Stk.kind {w : World} {p : Nat} {F : Nat → Prop} {sb fb : List UInt8} {sd fd : Nat} (h : Stk w p F sb fb sd fd) : ∀ b, F b → ∃ cur t, w.heap[b]? = some (.cells cur t (0, 0)) ∧ (t = 168 ∨ t = 5) := by
  obtain ⟨sa, sc, fa, fc, h1, h2, h3, h4, h5, _⟩ := h
  intro b hb
  rcases (h5 b).1 hb with rfl | hb | hb
  · exact ⟨_, _, h1, .inl rfl⟩
  · rcases h2.2 with ⟨h6, _⟩ | ⟨g, cap, cur, h6, _, hg, _⟩
    · rw [h6] at hb; cases hb
    · rw [h6] at hb
      simp only [Value.ownBlock, Option.some.injEq] at hb
      subst hb
      exact ⟨_, _, hg, .inr rfl⟩
  · rcases h3.2 with ⟨h6, _⟩ | ⟨g, cap, cur, h6, _, hg, _⟩
    · rw [h6] at hb; cases hb
    · rw [h6] at hb
      simp only [Value.ownBlock, Option.some.injEq] at hb
      subst hb
      exact ⟨_, _, hg, .inr rfl⟩
theorem own_kind {w : World} {base k n : Nat} {e : TypeId} {v : Value} {xs : List Value} (h : w.ownsRow base e k v n xs) : ∀ b, v.ownBlock = some b → ∃ cur, w.heap[b]? = some (.cells cur e (0, 0)) := by
  intro b hb
  rcases h.2 with ⟨h6, _⟩ | ⟨g, cap, cur, h6, _, hg, _⟩
  · rw [h6] at hb; cases hb
  · rw [h6] at hb
    simp only [Value.ownBlock, Option.some.injEq] at hb
    subst hb
    exact ⟨_, hg⟩
section
variable {w W : World} {p mb sp : Nat} {G : Nm → Option LN} {SF : Nat → Prop} {S : HouV}
structure HDis (p mb : Nat) (G : Nm → Option LN) (SF : Nat → Prop) : Prop where
  pm : p ≠ mb
  ps : ¬ SF p
  ms : ¬ SF mb
  st : ∀ k x, G k = some x → ∀ b, Value.ownBlock (.slice x.sa x.n.strokes.length x.sc) = some b → b ≠ p ∧ b ≠ mb ∧ ¬ SF b
theorem HouAt.dis (h : HouAt w p mb sp G SF S) : HDis p mb G SF := by
  obtain ⟨es, cl, hm⟩ := h.map.blk
  refine ⟨fun e => ?_, fun e => ?_, fun e => ?_, fun k x hk b hb => ?_⟩
  · have h1 := h.blk
    rw [e, hm] at h1
    cases h1
  · obtain ⟨cur, t, h1, h2⟩ := h.stk.kind p e
    rw [h.blk] at h1
    simp only [Option.some.injEq, Obj.cells.injEq] at h1
    rcases h2 with rfl | rfl
    · exact absurd h1.2.1 (by decide)
    · exact absurd h1.2.1 (by decide)
  · obtain ⟨cur, t, h1, _⟩ := h.stk.kind mb e
    rw [hm] at h1
    cases h1
  · obtain ⟨cur, h1⟩ := own_kind (h.str k x hk) b hb
    refine ⟨fun e => ?_, fun e => ?_, fun e => ?_⟩
    · subst e
      rw [h.blk] at h1
      simp only [Option.some.injEq, Obj.cells.injEq] at h1
      exact absurd h1.2.1 (by decide)
    · subst e
      rw [hm] at h1
      cases h1
    · obtain ⟨cur2, t, h2, h3⟩ := h.stk.kind b e
      rw [h1] at h2
      simp only [Option.some.injEq, Obj.cells.injEq] at h2
      rcases h3 with rfl | rfl
      · exact absurd h2.2.1 (by decide)
      · exact absurd h2.2.1 (by decide)
end
def AddRet (w : World) (p mb sp : Nat) (G : Nm → Option LN) (SF : Nat → Prop) (S : HouV) (n : NoteV) (W : World) : Prop :=
  ∃ ta tc SF', HouAt W p mb sp (updF G (nmOf n) ⟨n, ta, tc⟩) SF' (S.add n) ∧ Same (houF p mb G SF) w W ∧ ∀ k, houF p mb (updF G (nmOf n) ⟨n, ta, tc⟩) SF' k → houF p mb G SF k ∨ w.heap.size ≤ k

section
attribute [local go_sem] noteA_0
set_option maxHeartbeats 16000000 in
set_option maxRecDepth 100000 in
theorem hadd_any (p mb sp : Nat) (G : Nm → Option LN) (SF : Nat → Prop) (S : HouV) (n : NoteV) (sa : Option Addr) (sc : Nat) (w : World) (hh : HouAt w p mb sp G SF S) (hi : HInv S) (hs : ∀ W, Same (houF p mb G SF) w W → RdI W sa n.strokes.length sc n.strokes)
    (hf : formedB S.f n = true) (hok : n.Ok) (hnum : n.num = (S.c n.house : Int) + 1) (hlen : S.l.length ≤ 400) :
    Calls Tryz.prog 60 #[.pointer (some ⟨p, 0, none⟩), .agg (noteA n sa sc)] w fun e w' => e = .returned (.tuple #[]) ∧ AddRet w p mb sp G SF S n w' := by
  have I43 := Lib.hid (show ∀ (m : NoteV) (a : Option Addr) (c : Nat), (Tryz.prog.info? 47).map (·.size) = some (noteA m a c).size from fun m a c => by kernel_rfl)
  have HH := Lib.hid hh
  have HI := Lib.hid hi
  have HF := Lib.hid hf
  have HOK := Lib.hid hok
  have HNUM := Lib.hid hnum
  have HLEN := Lib.hid hlen
  have DIS := Lib.hid hh.dis
  have HST := Lib.hid (show n.strokes.length ≤ 200 from formed_len hi.v hf)
  have NOK : Hid (nmOk (n.house, n.num)) := Lib.hid ⟨hok.house, hok.num⟩
  have HFREE := Lib.hid (hi.add hf hok hnum).2
  have HINV := Lib.hid (hi.add hf hok hnum).1
  obtain ⟨k, hk, hk8⟩ : ∃ k : Nat, n.house = (k : Int) ∧ k ≤ 8 := ⟨n.house.toNat, by have := formed_house hf; omega, by have := formed_house hf; omega⟩
  have HK := Lib.hid hk
  have HK8 := Lib.hid hk8
  have CB : Hid ((S.c (k : Int) : Int) + 1 ≤ 9223372036854775807) := Lib.hid (by
    have h1 := hok.num
    rw [← hk, ← hnum]
    unfold I64 at h1
    omega)
  have B0 := Lib.hid ((Below.refl w.heap.size w).alloc (Nat.le_refl _) (.cells (noteA n sa sc) 47))
  have N0 := Lib.hid (heap_last w (.cells (noteA n sa sc) 47))
  have H0 := Lib.hid (hh.below B0.out)
  have RS := Lib.hid ((hs w (Same.of_below (Below.refl _ _))).below B0.out)
  have RSL := Lib.hid (show ∀ W, Same (fun q => q = p ∨ q = mb) w W → RdI W sa n.strokes.length sc n.strokes from fun W hS => hs W (hS.weaken (fun q h => h.elim .inl (fun h => .inr (.inl h)))))
  clear hh hi hs hf hok hnum hlen hk hk8
  go_enter Tryz.func60, Tryz.ntmps60
  go_upto_region 1 with fail
  obtain ⟨p3, hp3⟩ : ∃ q, Hid (w.heap.size = q) := ⟨_, Lib.hid rfl⟩
  have NE3 : Hid (∀ b, b < w.heap.size → b ≠ p3) := Lib.hid (by have := hp3.out; omega)
  rw [hp3.out] at N0
  rw [hp3.out]
  generalize w.alloc (.cells (noteA n sa sc) 47) = w0 at *
  refine wp_region_noPanic ?_
  refine wp_region_held_drew (S := fun w' => w'.heap[p3]? = some (.cells (noteA n sa sc) 47 (0, 0)) ∧ w'.heap[p]? = some (.cells (houA S.f S.id mb S.c sp) 109 (0, 0))) (by kernel_rfl) (show w0.drew.heap[p3]? = _ ∧ w0.drew.heap[p]? = _ from ⟨N0.out, H0.out.blk⟩) (fun hHeld => ?_)
  refine wpAnyH_take (i := 0) (v := .pointer (some ⟨p, 0, none⟩)) rfl (by kernel_rfl) (by kernel_rfl) (by kernel_rfl) (fun _ _ _ h => h) (Or.inl ⟨by kernel_rfl, by intro W _; go_simp⟩) (by assumption) ?_
  try simp only [Act.put, lq0, lq1, lq2, lq3, lq4, lq5]
  refine wpAnyH_take (i := 1) (v := .pointer (some ⟨p, 0, none⟩)) rfl (by kernel_rfl) (by kernel_rfl) (by kernel_rfl) (fun _ _ _ h => h) (Or.inl ⟨by kernel_rfl, by intro W _; go_simp⟩) (by assumption) ?_
  try simp only [Act.put, lq0, lq1, lq2, lq3, lq4, lq5]
  refine wpAnyH_take (i := 2) (v := .pointer (some ⟨p, 4, none⟩)) rfl (by kernel_rfl) (by kernel_rfl) (by kernel_rfl) (fun _ _ _ h => h) (Or.inl ⟨by kernel_rfl, by intro W _; go_simp⟩) (by assumption) ?_
  try simp only [Act.put, lq0, lq1, lq2, lq3, lq4, lq5]
  refine wpAnyH_take (i := 3) (v := .map (some mb)) rfl (by kernel_rfl) (by kernel_rfl) (by kernel_rfl) (fun _ _ _ h => h) (Or.inl ⟨by kernel_rfl, by intro W h; have hc := cell_of h.2 4 (.map (some mb)) rfl; go_simp⟩) (by assumption) ?_
  try simp only [Act.put, lq0, lq1, lq2, lq3, lq4, lq5]
  refine wpAnyH_take (i := 4) (v := .agg (noteA n sa sc)) rfl (by kernel_rfl) (by kernel_rfl) (by kernel_rfl) (fun _ _ _ h => h) (yields_row (by kernel_rfl) 47 _ rfl p3 rfl _ 47 (0, 0) _ (fun W h => h.1) Tryz.underlying47 rfl (I43.out _ _ _)) (by assumption) ?_
  try simp only [Act.put, lq0, lq1, lq2, lq3, lq4, lq5]
  refine wpAnyH_take (i := 6) (v := .agg (noteA n sa sc)) rfl (by kernel_rfl) (by kernel_rfl) (by kernel_rfl) (fun _ _ _ h => h) (yields_row (by kernel_rfl) 47 _ rfl p3 rfl _ 47 (0, 0) _ (fun W h => h.1) Tryz.underlying47 rfl (I43.out _ _ _)) (by assumption) ?_
  try simp only [Act.put, lq0, lq1, lq2, lq3, lq4, lq5]
  refine wpAnyH_ready (rs := [5]) (by kernel_rfl) (by simp) ?_
  refine AllReadyH.cons rfl (fun K hK => ?_) AllReadyH.nil
  go_simp
  go_at_call 58
  refine (nameOf2_any n sa sc _).mono ?_
  rintro e v1 ⟨rfl, b1⟩
  have B1 := Lib.hid (((Below.refl w0.heap.size w0).drew).trans b1)
  have N1 := Lib.hid (below_blk B1.out N0.out)
  have P1 := Lib.hid (below_blk B1.out H0.out.blk)
  clear b1
  dsimp only
  refine hK.out _ _ ⟨N1.out, P1.out⟩ (fun hHeld => ?_)
  clear hK K
  try simp only [Act.put, lq0, lq1, lq2, lq3, lq4, lq5]
  refine wpAnyH_ready (rs := [7]) (by kernel_rfl) (by simp) ?_
  refine AllReadyH.cons rfl (fun K hK => ?_) AllReadyH.nil
  go_simp
  go_at_call 71
  refine (copied2_any n sa sc v1 (RS.out.below B1.out) (Nat.le_trans HST.out (by decide))).mono ?_
  rintro e v2 ⟨ta, tc, rfl, hown, b2⟩
  have B2 := Lib.hid (B1.out.trans (b2.mono B1.out.size))
  have N2 := Lib.hid (below_blk b2 N1.out)
  have P2 := Lib.hid (below_blk b2 P1.out)
  have O2 := Lib.hid hown
  have V1S := Lib.hid B1.out.size
  clear b2 hown N1 P1
  dsimp only
  refine hK.out _ _ ⟨N2.out, P2.out⟩ (fun hHeld => ?_)
  clear hK K
  try simp only [Act.put, lq0, lq1, lq2, lq3, lq4, lq5]
  refine wpAnyH_ready (rs := [8]) (by kernel_rfl) (by simp) ?_
  refine AllReadyH.cons rfl (fun K hK => ?_) AllReadyH.nil
  obtain ⟨v3, hrun, hm3, ht3⟩ := run_put_nm (t := 106) (H0.out.map.below B2.out) (by have := HLEN.out; unfold maxLen; omega) Tryz.underlying106 n.house n.num NOK.out (⟨n, ta, tc⟩ : LN)
  have M3 := Lib.hid hm3
  have G3 := Lib.hid ht3.grown
  have N3 := Lib.hid (grown_blk ht3.grown N2.out (fun e => absurd (Option.some.inj e) (NE3.out mb HH.out.map.lt).symm))
  have P3 := Lib.hid (grown_blk ht3.grown P2.out (fun e => absurd (Option.some.inj e) DIS.out.pm))
  clear hm3 ht3
  unfold LN.val at hrun
  go_simp
  refine hK.out _ _ ⟨N3.out, P3.out⟩ (fun hHeld => ?_)
  clear hK K
  try simp only [Act.put, lq0, lq1, lq2, lq3, lq4, lq5]
  refine wpAnyH_done (by kernel_rfl) ?_ _
  refine NoPanic.normal ?_
  have S3 : Hid (Same (fun q => q = mb) w v3) := Lib.hid (((Same.of_below B0.out).trans (Same.of_below B2.out)).trans (Same.of_grown G3.out (fun q e => by cases e; rfl)))
  have O3 := Lib.hid (show v3.ownsRow w.heap.size 3 1 (.slice ta n.strokes.length tc) n.strokes.length (n.strokes.map intV) from (own_mono O2.out (Nat.le_trans B0.out.size V1S.out)).kept G3.out (.inr (by
    obtain ⟨es, cl, hm⟩ := (H0.out.map.below B2.out).blk
    exact (own_no O2.out hm (by intro cur; simp)).symm)))
  clear G3 N2 P2 O2 V1S B2 hrun
  go_upto_region 2 with fail
  refine wp_region_noPanic ?_
  refine wp_region_held_drew (S := fun w' => w'.heap[p3]? = some (.cells (noteA n sa sc) 47 (0, 0))) (by kernel_rfl) (show v3.drew.heap[p3]? = _ from N3.out) (fun hHeld => ?_)
  refine wpAnyH_take (i := 0) (v := .pointer (some ⟨p, 0, none⟩)) rfl (by kernel_rfl) (by kernel_rfl) (by kernel_rfl) (fun _ _ _ h => h) (Or.inl ⟨by kernel_rfl, by intro W _; go_simp⟩) (by assumption) ?_
  try simp only [Act.put, lq0, lq1, lq2, lq3, lq4, lq5]
  refine wpAnyH_take (i := 1) (v := .pointer (some ⟨p3, 0, none⟩)) rfl (by kernel_rfl) (by kernel_rfl) (by kernel_rfl) (fun _ _ _ h => h) (Or.inl ⟨by kernel_rfl, by intro W _; go_simp⟩) (by assumption) ?_
  try simp only [Act.put, lq0, lq1, lq2, lq3, lq4, lq5]
  refine wpAnyH_take (i := 2) (v := .int .i64 (k : Int)) rfl (by kernel_rfl) (by kernel_rfl) (by kernel_rfl) (fun _ _ _ h => h) (Or.inl ⟨by kernel_rfl, by intro W h; have hc : W.cell? ⟨p3, 0, none⟩ = some (.int .i64 (k : Int)) := (by rw [← HK.out]; exact cell_of h 0 (.int .i64 n.house) rfl); go_simp⟩) (by assumption) ?_
  try simp only [Act.put, lq0, lq1, lq2, lq3, lq4, lq5]
  refine wpAnyH_take (i := 3) (v := .pointer (some ⟨p, 0, none⟩)) rfl (by kernel_rfl) (by kernel_rfl) (by kernel_rfl) (fun _ _ _ h => h) (Or.inl ⟨by kernel_rfl, by intro W _; go_simp⟩) (by assumption) ?_
  try simp only [Act.put, lq0, lq1, lq2, lq3, lq4, lq5]
  refine wpAnyH_take (i := 4) (v := .pointer (some ⟨p, 5, none⟩)) rfl (by kernel_rfl) (by kernel_rfl) (by kernel_rfl) (fun _ _ _ h => h) (Or.inl ⟨by kernel_rfl, by intro W _; go_simp⟩) (by assumption) ?_
  try simp only [Act.put, lq0, lq1, lq2, lq3, lq4, lq5]
  refine wpAnyH_take (i := 5) (v := .pointer (some ⟨p, 5 + k, none⟩)) rfl (by kernel_rfl) (by kernel_rfl) (by kernel_rfl) (fun _ _ _ h => h) (Or.inl ⟨by kernel_rfl, by intro W h; have hc := idx_cnt (W := W) (p := p) (k := k) (by have := HK8.out; omega); go_simp⟩) (by assumption) ?_
  try simp only [Act.put, lq0, lq1, lq2, lq3, lq4, lq5]
  refine wpAnyH_take (i := 8) (v := .pointer (some ⟨p, 0, none⟩)) rfl (by kernel_rfl) (by kernel_rfl) (by kernel_rfl) (fun _ _ _ h => h) (Or.inl ⟨by kernel_rfl, by intro W _; go_simp⟩) (by assumption) ?_
  try simp only [Act.put, lq0, lq1, lq2, lq3, lq4, lq5]
  refine wpAnyH_take (i := 9) (v := .pointer (some ⟨p, 5, none⟩)) rfl (by kernel_rfl) (by kernel_rfl) (by kernel_rfl) (fun _ _ _ h => h) (Or.inl ⟨by kernel_rfl, by intro W _; go_simp⟩) (by assumption) ?_
  try simp only [Act.put, lq0, lq1, lq2, lq3, lq4, lq5]
  refine wpAnyH_ready (rs := [6]) (by kernel_rfl) (by simp) ?_
  refine AllReadyH.cons rfl (fun K hK => ?_) AllReadyH.nil
  have hc := cell_of (show v3.drew.heap[p]? = _ from P3.out) (5 + k) (.int .i64 (S.c (k : Int) : Int)) (houA_cnt _ _ _ _ _ k HK8.out)
  go_simp
  clear hc
  refine hK.out _ _ N3.out (fun hHeld => ?_)
  clear hK K
  try simp only [Act.put, lq0, lq1, lq2, lq3, lq4, lq5]
  refine wpAnyH_take (i := 7) (v := .int .i64 ((S.c (k : Int) : Int) + 1)) rfl (by kernel_rfl) (by kernel_rfl) (by kernel_rfl) (fun _ _ _ h => h) (Or.inl ⟨by kernel_rfl, by intro W h; have hcb : IntKind.i64.wrap ((S.c (k : Int) : Int) + 1) = (S.c (k : Int) : Int) + 1 := (by have h9 := CB.out; rw [IntKind.wrap_i64]; omega); go_simp⟩) (by assumption) ?_
  try simp only [Act.put, lq0, lq1, lq2, lq3, lq4, lq5]
  refine wpAnyH_take (i := 10) (v := .pointer (some ⟨p, 5 + k, none⟩)) rfl (by kernel_rfl) (by kernel_rfl) (by kernel_rfl) (fun _ _ _ h => h) (Or.inl ⟨by kernel_rfl, by intro W h; have hc := idx_cnt (W := W) (p := p) (k := k) (by have := HK8.out; omega); go_simp⟩) (by assumption) ?_
  try simp only [Act.put, lq0, lq1, lq2, lq3, lq4, lq5]
  refine wpAnyH_ready (rs := [11]) (by kernel_rfl) (by simp) ?_
  refine AllReadyH.cons rfl (fun K hK => ?_) AllReadyH.nil
  have hc := cell_of (show v3.drew.heap[p]? = _ from P3.out) (5 + k) (.int .i64 (S.c (k : Int) : Int)) (houA_cnt _ _ _ _ _ k HK8.out)
  have hfz := frozen_of (show v3.drew.heap[p]? = _ from P3.out) (5 + k)
  have P4 : Hid ((v3.drew.setCell ⟨p, 5 + k, none⟩ (.int .i64 ((S.c (k : Int) : Int) + 1))).heap[p]? = some (.cells (houA S.f S.id mb (bump S.c (k : Int)) sp) 109 (0, 0))) := Lib.hid (by
    have h1 := setCell_at (show v3.drew.heap[p]? = _ from P3.out) (5 + k) (.int .i64 ((S.c (k : Int) : Int) + 1))
    rwa [houA_set _ _ _ _ _ k HK8.out] at h1)
  have G4 := Lib.hid (setCell_grown v3.drew p (5 + k) (.int .i64 ((S.c (k : Int) : Int) + 1)))
  have N4 := Lib.hid (grown_blk G4.out (show v3.drew.heap[p3]? = _ from N3.out) (fun e => absurd (Option.some.inj e) (NE3.out p (blk_lt HH.out.blk)).symm))
  go_simp
  refine hK.out _ _ N4.out (fun hHeld => ?_)
  clear hK K
  try simp only [Act.put, lq0, lq1, lq2, lq3, lq4, lq5]
  refine wpAnyH_done (by kernel_rfl) ?_ _
  refine NoPanic.normal ?_
  clear hc hfz
  change Exit.then _ _ _ _ (v3.drew.setCell ⟨p, 5 + k, none⟩ (.int .i64 ((S.c (k : Int) : Int) + 1)))
  generalize v3.drew.setCell ⟨p, 5 + k, none⟩ (.int .i64 ((S.c (k : Int) : Int) + 1)) = v4 at *
  have S4 : Hid (Same (fun q => q = p ∨ q = mb) w v4) := Lib.hid (((S3.out.weaken (fun q h => .inr h)).trans (Same.of_below ((Below.refl v3.heap.size v3).drew))).trans (Same.of_grown G4.out (fun q e => by cases e; exact .inl rfl)))
  have M4 := Lib.hid (show MapF LN.val v4 mb (S.l.length + 1) (updF G (n.house, n.num) ⟨n, ta, tc⟩) from (M3.out.below ((Below.refl v3.heap.size v3).drew)).kept G4.out (fun e => absurd (Option.some.inj e).symm DIS.out.pm))
  have O4 := Lib.hid (show v4.ownsRow w.heap.size 3 1 (.slice ta n.strokes.length tc) n.strokes.length (n.strokes.map intV) from (own_below O3.out ((Below.refl v3.heap.size v3).drew)).kept G4.out (.inr (own_no (own_below O3.out ((Below.refl v3.heap.size v3).drew)) (show v3.drew.heap[p]? = _ from P3.out) (by intro cur; simp)).symm))
  have K4 := Lib.hid (show Stk v4 sp SF S.sb S.fb S.sd S.fd from HH.out.stk.same S4.out (fun q hq hF => by
    rcases hq with rfl | rfl
    · exact DIS.out.ps hF
    · exact DIS.out.ms hF))
  have RS4 := Lib.hid (show RdI v4 sa n.strokes.length sc n.strokes from RSL.out v4 S4.out)
  clear G4 N3 P3 S3 M3 O3
  go_upto_region 3 with fail
  refine wp_region_noPanic ?_
  refine wp_region_held_drew (S := fun w' => w'.heap[p3]? = some (.cells (noteA n sa sc) 47 (0, 0)) ∧ w'.heap[p]? = some (.cells (houA S.f S.id mb (bump S.c (k : Int)) sp) 109 (0, 0))) (by kernel_rfl) (show v4.drew.heap[p3]? = _ ∧ v4.drew.heap[p]? = _ from ⟨N4.out, P4.out⟩) (fun hHeld => ?_)
  refine wpAnyH_take (i := 0) (v := .pointer (some ⟨p, 0, none⟩)) rfl (by kernel_rfl) (by kernel_rfl) (by kernel_rfl) (fun _ _ _ h => h) (Or.inl ⟨by kernel_rfl, by intro W _; go_simp⟩) (by assumption) ?_
  try simp only [Act.put, lq0, lq1, lq2, lq3, lq4, lq5]
  refine wpAnyH_take (i := 1) (v := .pointer (some ⟨p, 0, none⟩)) rfl (by kernel_rfl) (by kernel_rfl) (by kernel_rfl) (fun _ _ _ h => h) (Or.inl ⟨by kernel_rfl, by intro W _; go_simp⟩) (by assumption) ?_
  try simp only [Act.put, lq0, lq1, lq2, lq3, lq4, lq5]
  refine wpAnyH_take (i := 2) (v := .pointer (some ⟨p, 14, none⟩)) rfl (by kernel_rfl) (by kernel_rfl) (by kernel_rfl) (fun _ _ _ h => h) (Or.inl ⟨by kernel_rfl, by intro W _; go_simp⟩) (by assumption) ?_
  try simp only [Act.put, lq0, lq1, lq2, lq3, lq4, lq5]
  refine wpAnyH_take (i := 3) (v := .pointer (some ⟨sp, 0, none⟩)) rfl (by kernel_rfl) (by kernel_rfl) (by kernel_rfl) (fun _ _ _ h => h) (Or.inl ⟨by kernel_rfl, by intro W h; have hc := cell_of h.2 14 (.pointer (some ⟨sp, 0, none⟩)) rfl; go_simp⟩) (by assumption) ?_
  try simp only [Act.put, lq0, lq1, lq2, lq3, lq4, lq5]
  refine wpAnyH_take (i := 4) (v := .agg (noteA n sa sc)) rfl (by kernel_rfl) (by kernel_rfl) (by kernel_rfl) (fun _ _ _ h => h) (yields_row (by kernel_rfl) 47 _ rfl p3 rfl _ 47 (0, 0) _ (fun W h => h.1) Tryz.underlying47 rfl (I43.out _ _ _)) (by assumption) ?_
  try simp only [Act.put, lq0, lq1, lq2, lq3, lq4, lq5]
  refine wpAnyH_ready (rs := [5]) (by kernel_rfl) (by simp) ?_
  refine AllReadyH.cons rfl (fun K hK => ?_) AllReadyH.nil
  go_simp
  go_at_call 117
  refine (encoded_any n sa sc v4.drew (RS4.out.below ((Below.refl v4.heap.size v4).drew)) (formed_small HI.out.v HF.out) (Nat.le_trans HST.out (by decide))).mono ?_
  rintro e v5 ⟨ba, bc, rfl, hb5, b5⟩
  have B5 := Lib.hid (((Below.refl v4.heap.size v4).drew).trans b5)
  have R5 := Lib.hid (RdB.of_own hb5)
  have N5 := Lib.hid (below_blk B5.out N4.out)
  have P5 := Lib.hid (below_blk B5.out P4.out)
  clear hb5 b5
  dsimp only
  refine hK.out _ _ ⟨N5.out, P5.out⟩ (fun hHeld => ?_)
  clear hK K
  try simp only [Act.put, lq0, lq1, lq2, lq3, lq4, lq5]
  refine wpAnyH_ready (rs := [6]) (by kernel_rfl) (by simp) ?_
  refine AllReadyH.cons rfl (fun K hK => ?_) AllReadyH.nil
  go_simp
  go_at_call 109
  have hel := formed_enc HI.out.v HF.out
  refine (put_any v5 sp SF S.sb S.fb S.sd S.fd ba (encN n).length bc (encN n) (K4.out.same (S := fun _ => False) (Same.of_below B5.out) (fun _ h => h.elim)) R5.out (by omega) (by have h1 := HI.out.sbl; have h2 := HI.out.len; have h3 := HLEN.out; omega) (by have h1 := HI.out.fbl; have h2 := HI.out.len; have h3 := HLEN.out; omega)).mono ?_
  rintro e v6 ⟨rfl, SF', hk6, hs6, hf6⟩
  have P6 := Lib.hid ((hs6.block p (blk_lt P5.out) DIS.out.ps).trans P5.out)
  have N6 := Lib.hid ((hs6.block p3 (blk_lt N5.out) (fun hF => absurd rfl (NE3.out p3 (HH.out.stk.lt p3 hF)))).trans N5.out)
  have K6 := Lib.hid hk6
  have S6 := Lib.hid hs6
  have F6 := Lib.hid hf6
  clear hk6 hs6 hf6 hel
  dsimp only
  refine hK.out _ _ ⟨N6.out, P6.out⟩ (fun hHeld => ?_)
  clear hK K
  try simp only [Act.put, lq0, lq1, lq2, lq3, lq4, lq5]
  refine wpAnyH_done (by kernel_rfl) ?_ _
  refine NoPanic.normal ?_
  go_wp2_with fail
  go_end0
  have S46 : Hid (Same (fun q => q = p ∨ q = mb ∨ SF q) w v6) := Lib.hid (((S4.out.weaken (fun q h => h.elim .inl (fun h => .inr (.inl h)))).trans (Same.of_below B5.out)).trans (S6.out.weaken (fun q h => .inr (.inr h))))
  have O6 : Hid (v6.ownsRow w.heap.size 3 1 (.slice ta n.strokes.length tc) n.strokes.length (n.strokes.map intV)) := Lib.hid (own_keep (own_below O4.out B5.out) S6.out (fun b hb hF => absurd (HH.out.stk.lt b hF) (by have := (O4.out.lt b hb).1; omega)))
  have M6 : Hid (MapF LN.val v6 mb (S.l.length + 1) (updF G (n.house, n.num) ⟨n, ta, tc⟩)) := Lib.hid ((M4.out.below B5.out).of_block (S6.out.block mb (Nat.lt_of_lt_of_le M4.out.lt B5.out.size) DIS.out.ms))
  refine ⟨rfl, ta, tc, SF', ⟨?_, ?_, fun a x hx => ?_, fun y hy => ?_, fun a x hx => ?_, K6.out⟩, ?_, ?_⟩
  · have := P6.out
    rwa [← HK.out] at this
  · have h1 := M6.out
    show MapF LN.val v6 mb (insN S.l n).length _
    rwa [insN, (insG_perm _ n S.l).length_eq, List.length_cons]
  · unfold updF at hx
    split at hx
    · rename_i e
      cases hx
      exact ⟨insN_mem.2 (.inr rfl), e.symm⟩
    · obtain ⟨h1, h2⟩ := HH.out.gs a x hx
      exact ⟨insN_mem.2 (.inl h1), h2⟩
  · rcases insN_mem.1 hy with hy | rfl
    · obtain ⟨x, h1, h2⟩ := HH.out.gl y hy
      refine ⟨x, ?_, h2⟩
      unfold updF
      rw [if_neg (HFREE.out y hy)]
      exact h1
    · exact ⟨⟨y, ta, tc⟩, by unfold updF; rw [if_pos rfl], rfl⟩
  · unfold updF at hx
    split at hx
    · cases hx
      exact own_mono O6.out (Nat.zero_le _)
    · exact own_keep (HH.out.str a x hx) S46.out (fun b hb hq => by
        obtain ⟨d1, d2, d3⟩ := DIS.out.st a x hx b hb
        rcases hq with hq | hq | hq
        · exact d1 hq
        · exact d2 hq
        · exact d3 hq)
  · exact S46.out.weaken (fun q h => by
      rcases h with h | h | h
      · exact .inl h
      · exact .inr (.inl h)
      · exact .inr (.inr (.inl h)))
  · rintro q (h | h | h | ⟨a, x, h, h2⟩)
    · exact .inl (.inl h)
    · exact .inl (.inr (.inl h))
    · rcases F6.out q h with h3 | h3
      · exact .inl (.inr (.inr (.inl h3)))
      · exact .inr (Nat.le_trans S4.out.size (Nat.le_trans B5.out.size h3))
    · unfold updF at h
      split at h
      · cases h
        exact .inr (O6.out.lt q h2).1
      · exact .inl (.inr (.inr (.inr ⟨a, x, h, h2⟩)))
end
end Go.Proofs.YtlnhppgfhkkidaaGreat
namespace Go.Proofs.YtlnhppgfhkkidaaGreat
set_option linter.unusedSimpArgs false
open Go.RowKit

theorem validFrame2_any (r s d : Int) (w : World) : Calls Tryz.prog 52 #[.agg #[.int .i64 r, .int .i64 s, .int .i64 d]] w fun e w' => e = .returned (.bool (FrV.valid ⟨r, s, d⟩)) ∧ Below w.heap.size w w' := by
  have hb := (Below.refl w.heap.size w).alloc (Nat.le_refl _) (.cells #[.int .i64 r, .int .i64 s, .int .i64 d] 23)
  have hv : FrV.valid ⟨r, s, d⟩ = (decide (1 ≤ r) && (decide (r ≤ 24) && (decide (2 ≤ s) && (decide (s ≤ 96) && (decide (1 ≤ d) && decide (d ≤ s)))))) := by
    simp only [FrV.valid, inB]
    grind
  rw [hv]
  clear hv
  cases h0 : decide (1 ≤ r)
  · go_enter Tryz.func52, Tryz.ntmps52
    go_wp2_with fail
    go_ret
    exact ⟨rfl, hb⟩
  · cases h1 : decide (r ≤ 24)
    · go_enter Tryz.func52, Tryz.ntmps52
      go_wp2_with fail
      go_ret
      exact ⟨rfl, hb⟩
    · cases h2 : decide (2 ≤ s)
      · go_enter Tryz.func52, Tryz.ntmps52
        go_wp2_with fail
        go_ret
        exact ⟨rfl, hb⟩
      · cases h3 : decide (s ≤ 96)
        · go_enter Tryz.func52, Tryz.ntmps52
          go_wp2_with fail
          go_ret
          exact ⟨rfl, hb⟩
        · cases h4 : decide (1 ≤ d)
          · go_enter Tryz.func52, Tryz.ntmps52
            go_wp2_with fail
            go_ret
            exact ⟨rfl, hb⟩
          · cases h5 : decide (d ≤ s)
            · go_enter Tryz.func52, Tryz.ntmps52
              go_wp2_with fail
              go_ret
              exact ⟨rfl, hb⟩
            · go_enter Tryz.func52, Tryz.ntmps52
              go_wp2_with fail
              go_ret
              exact ⟨rfl, hb⟩

theorem cut4 {P T : Nat → Nat → Nat → World → Prop} {G : Prop} (h1 : (∀ a b c W, P a b c W → T a b c W) → G) (h2 : ∀ a b c W, P a b c W → T a b c W) : G := h1 h2
def NewRet (f : FrV) (id : Int) (w : World) (e : Ending) (W : World) : Prop :=
  (¬ (f.valid = true ∧ 1 ≤ id ∧ id ≤ 8) ∧ e = .returned (.tuple #[.pointer none, .int .i64 1])) ∨
  (f.valid = true ∧ (1 ≤ id ∧ id ≤ 8) ∧ ∃ p mb sp SF, e = .returned (.tuple #[.pointer (some ⟨p, 0, none⟩), .int .i64 0]) ∧ HouAt W p mb sp (fun _ => none) SF (HouV.new f id) ∧ ∀ k, houF p mb (fun _ => none) SF k → w.heap.size ≤ k)
set_option maxHeartbeats 8000000 in
set_option maxRecDepth 100000 in
theorem newHouse_any (f : FrV) (id : Int) (w : World) (hid : id = 1 ∨ id = 2) :
    Calls Tryz.prog 12 #[f.val, .int .i64 id] w fun e w' => NewRet f id w e w' ∧ Below w.heap.size w w' := by
  have VF := Lib.hid (fun W => validFrame2_any f.rings f.sectors f.wide W)
  have hvl : f.val = .agg #[.int .i64 f.rings, .int .i64 f.sectors, .int .i64 f.wide] := rfl
  have HID := Lib.hid (show 1 ≤ id ∧ id ≤ 8 by omega)
  rw [hvl]
  clear hvl
  have B0 := Lib.hid ((Below.refl w.heap.size w).alloc (Nat.le_refl _) (.cells #[.int .i64 f.rings, .int .i64 f.sectors, .int .i64 f.wide] 23))
  have F0 := Lib.hid (heap_last w (.cells #[.int .i64 f.rings, .int .i64 f.sectors, .int .i64 f.wide] 23))
  have q1 : decide (id < 1) = false := by simp; omega
  have q2 : decide (8 < id) = false := by simp; omega
  clear hid
  go_enter Tryz.func12, Tryz.ntmps12
  go_upto_region 1 with fail
  obtain ⟨p2, hp2⟩ : ∃ q, Hid (w.heap.size = q) := ⟨_, Lib.hid rfl⟩
  rw [hp2.out] at F0
  rw [hp2.out]
  generalize w.alloc (.cells #[.int .i64 f.rings, .int .i64 f.sectors, .int .i64 f.wide] 23) = w0 at *
  have c0 := cell_of F0.out 0 (.int .i64 f.rings) rfl
  have c1 := cell_of F0.out 1 (.int .i64 f.sectors) rfl
  have c2 := cell_of F0.out 2 (.int .i64 f.wide) rfl
  go_wp2_with fail
  refine (VF.out w0).mono ?_
  rintro e w1 ⟨rfl, b1⟩
  have B1 := Lib.hid (B0.out.trans (b1.mono B0.out.size))
  have F1 := Lib.hid (below_blk b1 F0.out)
  clear b1 c0 c1 c2 q1 q2
  cases hv : FrV.valid ⟨f.rings, f.sectors, f.wide⟩
  · have HV : Hid (¬ (f.valid = true ∧ 1 ≤ id ∧ id ≤ 8)) := Lib.hid (fun h => by
      have h1 : FrV.valid ⟨f.rings, f.sectors, f.wide⟩ = true := h.1
      rw [hv] at h1
      cases h1)
    clear hv
    go_wp2_with fail
    go_returns
    exact ⟨.inl ⟨HV.out, rfl⟩, B1.out⟩
  have HV : Hid (f.valid = true) := Lib.hid hv
  clear hv
  have hmm := @run_makeMap Tryz.prog
  go_upto_region 3 with fail
  apply cut4 (P := fun mb sp p W => Hid (Below w1.heap.size w1 W ∧ HouAt W p mb sp (fun _ => none) (fun k => k = sp) (HouV.new f id) ∧ w.heap.size ≤ mb ∧ w.heap.size ≤ sp ∧ w.heap.size ≤ p))
  · intro REST
    refine wp_region_noPanic ?_
    refine wp_region_held_drew (S := fun w' => Below w1.heap.size w1 w') (by kernel_rfl) (show Below w1.heap.size w1 w1.drew from (Below.refl _ _).drew) (fun hHeld => ?_)
    have HB0 := Lib.hid (show Below w1.heap.size w1 w1.drew from (Below.refl _ _).drew)
    generalize w1.drew = V0 at *
    refine wpAnyH_take (i := 0) (v := .agg #[.int .i64 f.rings, .int .i64 f.sectors, .int .i64 f.wide]) rfl (by kernel_rfl) (by kernel_rfl) (by kernel_rfl) (fun _ _ _ h => h) (yields_row (by kernel_rfl) 23 _ rfl p2 rfl _ 23 (0, 0) _ (fun W h => below_blk h F1.out) Tryz.underlying23 rfl (by kernel_rfl)) (by assumption) ?_
    try simp only [Act.put, lq0, lq1, lq2, lq3, lq4, lq5]
    refine wpAnyH_take (i := 1) (v := .int .i64 id) rfl (by kernel_rfl) (by kernel_rfl) (by kernel_rfl) (fun _ _ _ h => h) (Or.inl ⟨by kernel_rfl, by intro W _; go_simp⟩) (by assumption) ?_
    try simp only [Act.put, lq0, lq1, lq2, lq3, lq4, lq5]
    refine wpAnyH_ready (rs := [2, 3]) (by kernel_rfl) (by simp) ?_
    refine AllReadyH.cons rfl (fun K hK => ?_) ?_
    · have bz : Below V0.heap.size V0 (V0.alloc (.map #[] 0)) := (Below.refl _ _).alloc (Nat.le_refl _) _
      have HB1 := Lib.hid (HB0.out.trans (bz.mono HB0.out.size))
      have HM1 := Lib.hid (MapF.made (enc := LN.val) V0)
      have KGE : Hid (w.heap.size ≤ V0.heap.size) := Lib.hid (Nat.le_trans B1.out.size HB0.out.size)
      clear bz
      go_simp
      obtain ⟨mb, hmb⟩ : ∃ z, Hid (V0.heap.size = z) := ⟨_, Lib.hid rfl⟩
      rw [hmb.out] at HM1 KGE
      rw [hmb.out]
      generalize V0.alloc (.map #[] 0) = V1 at *
      refine hK.out _ _ HB1.out (fun hHeld => ?_)
      clear hK K
      try simp only [Act.put, lq0, lq1, lq2, lq3, lq4, lq5]
      refine wpAnyH_ready (rs := [3]) (by kernel_rfl) (by simp) ?_
      refine AllReadyH.cons rfl (fun K hK => ?_) AllReadyH.nil
      go_simp
      go_at_call 48
      refine (newStick_any V1).mono ?_
      rintro e V2 ⟨rfl, hk, b1⟩
      have SGE : Hid (w.heap.size ≤ V1.heap.size) := Lib.hid (Nat.le_trans B1.out.size HB1.out.size)
      obtain ⟨sp, hsp⟩ : ∃ z, Hid (V1.heap.size = z) := ⟨_, Lib.hid rfl⟩
      have HB2 := Lib.hid (HB1.out.trans (b1.mono HB1.out.size))
      have HM2 := Lib.hid (HM1.out.below b1)
      clear b1
      rw [hsp.out] at hk SGE
      rw [hsp.out]
      have HK2 := Lib.hid hk
      clear hk
      dsimp only
      refine hK.out _ _ HB2.out (fun hHeld => ?_)
      clear hK K
      try simp only [Act.put, lq0, lq1, lq2, lq3, lq4, lq5]
      refine wpAnyH_take (i := 4) (v := .agg (houA f id mb (fun _ => 0) sp)) rfl (by kernel_rfl) (by kernel_rfl) (by kernel_rfl) (fun _ _ _ h => h) (Or.inl ⟨by kernel_rfl, by intro W _; kernel_rfl⟩) (by assumption) ?_
      try simp only [Act.put, lq0, lq1, lq2, lq3, lq4, lq5]
      refine wpAnyH_ready (rs := [5]) (by kernel_rfl) (by simp) ?_
      refine AllReadyH.cons rfl (fun K hK => ?_) AllReadyH.nil
      have bz : Below V2.heap.size V2 (V2.alloc (.cells (houA f id mb (fun _ => 0) sp) 109)) := (Below.refl _ _).alloc (Nat.le_refl _) _
      have HB3 := Lib.hid (HB2.out.trans (bz.mono HB2.out.size))
      have HM3 := Lib.hid (HM2.out.below bz)
      have HK3 := Lib.hid (HK2.out.same (S := fun _ => False) (Same.of_below bz) (fun _ h => h.elim))
      have HP3 := Lib.hid (heap_last V2 (.cells (houA f id mb (fun _ => 0) sp) 109))
      have PGE : Hid (w.heap.size ≤ V2.heap.size) := Lib.hid (Nat.le_trans B1.out.size HB2.out.size)
      clear bz
      go_simp
      obtain ⟨p, hp⟩ : ∃ z, Hid (V2.heap.size = z) := ⟨_, Lib.hid rfl⟩
      rw [hp.out] at HP3 PGE
      rw [hp.out]
      generalize V2.alloc (.cells (houA f id mb (fun _ => 0) sp) 109) = V3 at *
      refine hK.out _ _ HB3.out (fun hHeld => ?_)
      clear hK K
      try simp only [Act.put, lq0, lq1, lq2, lq3, lq4, lq5]
      refine wpAnyH_take (i := 6) (v := .pointer (some ⟨p, 0, none⟩)) rfl (by kernel_rfl) (by kernel_rfl) (by kernel_rfl) (fun _ _ _ h => h) (Or.inl ⟨by kernel_rfl, by intro W _; go_simp⟩) (by assumption) ?_
      try simp only [Act.put, lq0, lq1, lq2, lq3, lq4, lq5]
      refine wpAnyH_take (i := 7) (oi := { dst := some 5, op := .assign (.const (Value.int IntKind.i64 0)), type := _, pos := _, after := _, guard := none }) (v := .int .i64 0) rfl (by kernel_rfl) (by kernel_rfl) (by kernel_rfl) (fun _ _ _ h => h) (Or.inl ⟨by kernel_rfl, by intro W _; go_simp⟩) (by assumption) ?_
      try simp only [Act.put, lq0, lq1, lq2, lq3, lq4, lq5]
      refine wpAnyH_done (by kernel_rfl) ?_ _
      refine NoPanic.normal ?_
      exact REST mb sp p V3 (Lib.hid ⟨HB3.out, ⟨HP3.out, HM3.out, (fun k x h => by cases h), (fun n h => by cases h), (fun k x h => by cases h), HK3.out⟩, KGE.out, SGE.out, PGE.out⟩)
    refine AllReadyH.cons rfl (fun K hK => ?_) AllReadyH.nil
    go_simp
    go_at_call 48
    refine (newStick_any V0).mono ?_
    rintro e V1 ⟨rfl, hk, b1⟩
    have SGE : Hid (w.heap.size ≤ V0.heap.size) := Lib.hid (Nat.le_trans B1.out.size HB0.out.size)
    obtain ⟨sp, hsp⟩ : ∃ z, Hid (V0.heap.size = z) := ⟨_, Lib.hid rfl⟩
    have HB1 := Lib.hid (HB0.out.trans (b1.mono HB0.out.size))
    clear b1
    rw [hsp.out] at hk SGE
    rw [hsp.out]
    have HK1 := Lib.hid hk
    clear hk
    dsimp only
    refine hK.out _ _ HB1.out (fun hHeld => ?_)
    clear hK K
    try simp only [Act.put, lq0, lq1, lq2, lq3, lq4, lq5]
    refine wpAnyH_ready (rs := [2]) (by kernel_rfl) (by simp) ?_
    refine AllReadyH.cons rfl (fun K hK => ?_) AllReadyH.nil
    have bz : Below V1.heap.size V1 (V1.alloc (.map #[] 0)) := (Below.refl _ _).alloc (Nat.le_refl _) _
    have HB2 := Lib.hid (HB1.out.trans (bz.mono HB1.out.size))
    have HM2 := Lib.hid (MapF.made (enc := LN.val) V1)
    have KGE : Hid (w.heap.size ≤ V1.heap.size) := Lib.hid (Nat.le_trans B1.out.size HB1.out.size)
    have HK2 := Lib.hid (HK1.out.same (S := fun _ => False) (Same.of_below bz) (fun _ h => h.elim))
    clear bz
    go_simp
    obtain ⟨mb, hmb⟩ : ∃ z, Hid (V1.heap.size = z) := ⟨_, Lib.hid rfl⟩
    rw [hmb.out] at HM2 KGE
    rw [hmb.out]
    generalize V1.alloc (.map #[] 0) = V2 at *
    refine hK.out _ _ HB2.out (fun hHeld => ?_)
    clear hK K
    try simp only [Act.put, lq0, lq1, lq2, lq3, lq4, lq5]
    refine wpAnyH_take (i := 4) (v := .agg (houA f id mb (fun _ => 0) sp)) rfl (by kernel_rfl) (by kernel_rfl) (by kernel_rfl) (fun _ _ _ h => h) (Or.inl ⟨by kernel_rfl, by intro W _; kernel_rfl⟩) (by assumption) ?_
    try simp only [Act.put, lq0, lq1, lq2, lq3, lq4, lq5]
    refine wpAnyH_ready (rs := [5]) (by kernel_rfl) (by simp) ?_
    refine AllReadyH.cons rfl (fun K hK => ?_) AllReadyH.nil
    have bz : Below V2.heap.size V2 (V2.alloc (.cells (houA f id mb (fun _ => 0) sp) 109)) := (Below.refl _ _).alloc (Nat.le_refl _) _
    have HB3 := Lib.hid (HB2.out.trans (bz.mono HB2.out.size))
    have HM3 := Lib.hid (HM2.out.below bz)
    have HK3 := Lib.hid (HK2.out.same (S := fun _ => False) (Same.of_below bz) (fun _ h => h.elim))
    have HP3 := Lib.hid (heap_last V2 (.cells (houA f id mb (fun _ => 0) sp) 109))
    have PGE : Hid (w.heap.size ≤ V2.heap.size) := Lib.hid (Nat.le_trans B1.out.size HB2.out.size)
    clear bz
    go_simp
    obtain ⟨p, hp⟩ : ∃ z, Hid (V2.heap.size = z) := ⟨_, Lib.hid rfl⟩
    rw [hp.out] at HP3 PGE
    rw [hp.out]
    generalize V2.alloc (.cells (houA f id mb (fun _ => 0) sp) 109) = V3 at *
    refine hK.out _ _ HB3.out (fun hHeld => ?_)
    clear hK K
    try simp only [Act.put, lq0, lq1, lq2, lq3, lq4, lq5]
    refine wpAnyH_take (i := 6) (v := .pointer (some ⟨p, 0, none⟩)) rfl (by kernel_rfl) (by kernel_rfl) (by kernel_rfl) (fun _ _ _ h => h) (Or.inl ⟨by kernel_rfl, by intro W _; go_simp⟩) (by assumption) ?_
    try simp only [Act.put, lq0, lq1, lq2, lq3, lq4, lq5]
    refine wpAnyH_take (i := 7) (oi := { dst := some 5, op := .assign (.const (Value.int IntKind.i64 0)), type := _, pos := _, after := _, guard := none }) (v := .int .i64 0) rfl (by kernel_rfl) (by kernel_rfl) (by kernel_rfl) (fun _ _ _ h => h) (Or.inl ⟨by kernel_rfl, by intro W _; go_simp⟩) (by assumption) ?_
    try simp only [Act.put, lq0, lq1, lq2, lq3, lq4, lq5]
    refine wpAnyH_done (by kernel_rfl) ?_ _
    refine NoPanic.normal ?_
    exact REST mb sp p V3 (Lib.hid ⟨HB3.out, ⟨HP3.out, HM3.out, (fun k x h => by cases h), (fun n h => by cases h), (fun k x h => by cases h), HK3.out⟩, KGE.out, SGE.out, PGE.out⟩)
  intro mb sp p W QQ
  go_wp2_with fail
  go_returns
  exact ⟨.inr ⟨HV.out, HID.out, p, mb, sp, _, rfl, QQ.out.2.1, fun k hk => by
    have hp := QQ.out.2.2
    rcases hk with h | h | h | ⟨a, x, h, _⟩
    · omega
    · omega
    · have h2 : k = sp := h
      omega
    · cases h⟩, B1.out.trans (QQ.out.1.mono B1.out.size)⟩
set_option maxHeartbeats 4000000 in
set_option maxRecDepth 100000 in
theorem hnotes2_any (p mb sp : Nat) (G : Nm → Option LN) (SF : Nat → Prop) (S : HouV) (w : World) (hh : HouAt w p mb sp G SF S) (hi : HInv S) (hlen : S.l.length ≤ 400) :
    Calls Tryz.prog 14 #[.pointer (some ⟨p, 0, none⟩)] w fun e w' => (∃ a un c zs, e = .returned (.slice a un c) ∧ MgAt w w' a c un zs ∧ zs.map LN.n = S.l) ∧ Below w.heap.size w w' := by
  have LI := Lib.hid (list_any mb S.l.length G w hh.map (by omega) (hh.gok hi))
  have HH := Lib.hid hh
  have HI := Lib.hid hi
  have c4 := cell_of hh.blk 4 (.map (some mb)) rfl
  have MD := Lib.hid (made_any w p mb sp S.f S.id S.c hh.blk)
  clear hh hi hlen
  go_enter Tryz.func14, Tryz.ntmps14
  go_wp2_with fail
  refine MD.out.mono ?_
  rintro e w1 ⟨rfl, rfl⟩
  go_wp2_with fail
  refine LI.out.mono ?_
  rintro e w2 ⟨⟨a, un, c, zs, ks, rfl, h1, h2, h3, h4, h5, h6⟩, b2⟩
  have M := Lib.hid h1
  have E : Hid (zs.map LN.n = S.l) := Lib.hid (h2.trans (HH.out.list HI.out h3 h4 h5))
  have B := Lib.hid b2
  clear h1 h2 h3 h4 h5 h6 b2 c4
  go_wp2_with fail
  go_ret
  exact ⟨⟨a, un, c, zs, rfl, M.out, E.out⟩, B.out⟩
def cntL (c : Int → Nat) : List Int := [(c 1 : Int), (c 2 : Int), (c 3 : Int), (c 4 : Int), (c 5 : Int), (c 6 : Int), (c 7 : Int), (c 8 : Int)]
theorem cntL_at (c : Int → Nat) (k : Nat) (hk : 1 ≤ k ∧ k ≤ 8) : (cntL c)[k - 1]? = some (c (k : Int) : Int) := by
  have : k = 1 ∨ k = 2 ∨ k = 3 ∨ k = 4 ∨ k = 5 ∨ k = 6 ∨ k = 7 ∨ k = 8 := by omega
  rcases this with rfl | rfl | rfl | rfl | rfl | rfl | rfl | rfl <;> rfl
set_option maxHeartbeats 4000000 in
set_option maxRecDepth 100000 in
theorem hcounts_any (p mb sp : Nat) (G : Nm → Option LN) (SF : Nat → Prop) (S : HouV) (w : World) (hh : HouAt w p mb sp G SF S) :
    Calls Tryz.prog 17 #[.pointer (some ⟨p, 0, none⟩)] w fun e w' => (∃ a c, e = .returned (.slice a 8 c) ∧ RdI w' a 8 c (cntL S.c)) ∧ Below w.heap.size w w' := by
  have RC : RdI w (some ⟨p, 6, none⟩) 8 8 (cntL S.c) := ⟨rfl, Nat.le_refl _, by unfold maxLen; omega, .inr ⟨p, 6, rfl, fun j v hv => by
    have hj : j < 8 := (List.getElem?_eq_some_iff.1 hv).1
    refine cell_of hh.blk (6 + j) v ?_
    have : j = 0 ∨ j = 1 ∨ j = 2 ∨ j = 3 ∨ j = 4 ∨ j = 5 ∨ j = 6 ∨ j = 7 := by omega
    rcases this with rfl | rfl | rfl | rfl | rfl | rfl | rfl | rfl <;> simpa [houA, cntL, intV] using hv⟩⟩
  have CL := Lib.hid (cloneI_any (some ⟨p, 6, none⟩) 8 8 (cntL S.c) w (by decide) RC)
  have MD := Lib.hid (made_any w p mb sp S.f S.id S.c hh.blk)
  have hsl : (Instr.sliceAt 107 (.pointer (some ⟨p, 5, none⟩)) (some (.int .i64 1)) none none).run Tryz.prog w = .ok (.slice (some ⟨p, 6, none⟩) 8 8) w := by
    have hsz : (Tryz.prog.info? 3).map (·.size) = some 1 := by kernel_rfl
    cases hq : Tryz.prog.info? 3 with
    | none => simp [hq] at hsz
    | some i =>
      simp only [hq, Option.map_some, Option.some.injEq] at hsz
      simp [Instr.sliceAt, run_underlying Tryz.underlying107, Instr.sureAddr, sizeOf, typeInfo, hq, hsz, Addr.add, Instr.sliceBounds, Instr.sliceBound, asIntOf, Result.andThen]
  clear hh RC
  go_enter Tryz.func17, Tryz.ntmps17
  go_wp2_with fail
  refine MD.out.mono ?_
  rintro e w1 ⟨rfl, rfl⟩
  go_wp2_with fail
  refine CL.out.mono ?_
  rintro e w2 ⟨a, c, rfl, h1, b2⟩
  have R := Lib.hid (show RdI w2 a 8 c (cntL S.c) from RdA.of_own h1)
  have B := Lib.hid b2
  clear h1 b2 hsl
  go_wp2_with fail
  go_ret
  exact ⟨⟨a, c, rfl, R.out⟩, B.out⟩
def SomeBo (e : Ending) : Prop := ∃ r : Bool, e = .returned (.bool r)
set_option maxHeartbeats 4000000 in
set_option maxRecDepth 100000 in
theorem lightL_any (xs : List LN) (a : Option Addr) (n c : Nat) (most : Int) (w : World) (hr : RdLs w a n c xs) :
    Calls Tryz.prog 11 #[.slice a n c, .int .i64 most] w fun e w' => SomeBo e ∧ w' = w := by
  have J19 : (Tryz.prog.info? 47).map (·.size) = some 19 := by kernel_rfl
  have RL := Lib.hid hr
  have HN := Lib.hid hr.1
  have hn63 : n ≤ 9223372036854775807 := by have h1 := hr.2.1; have h2 := hr.2.2.1; unfold maxLen at h2; omega
  clear hr
  go_enter Tryz.func11, Tryz.ntmps11
  go_wp2_with fail
  go_loopw [5, 6] (fun z i wr => ∃ (k : Nat) (s : Int), z = .int .i64 s ∧ i = .int .i64 (k : Int) ∧ k ≤ n ∧ Hid (wr = w)) (fun _ i _ => n - (intOf i).toNat)
  case atStart => exact ⟨0, _, rfl, rfl, Nat.zero_le _, Lib.hid rfl⟩
  case round =>
    obtain ⟨k, s, rfl, rfl, hk, HW⟩ := hrel
    have hw := HW.out
    subst hw
    by_cases hlt : k < n
    · have t0 : decide ((k : Int) < (n : Int)) = true := by simp; omega
      obtain ⟨x, Hx⟩ : ∃ x, xs[k]? = some x := ⟨_, List.getElem?_eq_getElem (by rw [HN.out]; exact hlt)⟩
      obtain ⟨b, off, rfl, hat⟩ := RL.out.at (by omega)
      obtain ⟨o, ho⟩ : ∃ o, Hid (off + k * 19 = o) := ⟨_, Lib.hid rfl⟩
      have hx := (hat k x Hx).1
      rw [ho.out] at hx
      have c15 := hx 15 (.slice x.sa x.n.strokes.length x.sc) rfl
      have hix := fun W => idx_off (W := W) (c := c) (b := b) Tryz.underlying24 J19 hlt ho.out
      have hk64 : (k : Int) + 1 ≤ 9223372036854775807 := by omega
      clear hat hx Hx
      go_wp2_with fail
      go_roundw
      case rel => exact ⟨k + 1, _, rfl, by go_num, by omega, (by first | exact Lib.hid rfl | exact Lib.hid trivial)⟩
      case measure => simp [intOf]; omega
    · have t0 : decide ((k : Int) < (n : Int)) = false := by simp; omega
      go_wp2_with fail
      go_ret
      exact ⟨⟨_, rfl⟩, rfl⟩
end Go.Proofs.YtlnhppgfhkkidaaGreat
