/- Parts of the proof, in this order: A house's Missing; What a house hears, as values; The reference's wellFormed and CheckNote; What Hear asks of a note; whether two notes are the same; maps.Clone of a map of notes; A house's Hear; What every row of this work shares: a law of the template 'true whatever the input' holds where its call gives true and leaves all old memory; []byte arguments opened; A note, a list of ints, out of a reading; Frames, lists of notes, registers, questions: out of a reading; What is asked, out of a reading; The reference's counted; The reference's events; The reference's folded, Fold and AsOf; HistoryMerges gives true; The plain law of HistoryUnion: merging is commutative, associative and idempotent. -/
import Derived.Shelf.SlMaps.Clone
import Derived.Test.YtlnhppgfhkkidaaGreatRows
import Derived.ProofKit
import Derived.OpenShut
import Derived.Deep.Strs
import Derived.Test.YtlnhppgfhkkidaaGreatKPgp8
set_option linter.unusedSimpArgs false
set_option linter.unusedVariables false
open List renaming getElem_toArray → lq0, getElem_cons_succ → lq1, getElem_cons_zero → lq2, setIfInBounds_toArray → lq3, set_cons_zero → lq4, set_cons_succ → lq5
namespace Go.Proofs.YtlnhppgfhkkidaaGreat
set_option linter.unusedSimpArgs false
open Go.RowKit

def missP (cs : List Int) (n : NoteV) : Bool := match cs[(n.house - 1).toNat]? with | some v => decide (n.house ≤ (cs.length : Int)) && decide (n.num ≤ v) | none => false
theorem missP_out {cs : List Int} {n : NoteV} (_h1 : 1 ≤ n.house) (h : decide (n.house ≤ (cs.length : Int)) = false) : missP cs n = false := by
  unfold missP
  split
  · rw [h]; rfl
  · rfl
theorem missP_in {cs : List Int} {n : NoteV} {k : Nat} {v : Int} (hk : n.house = (k : Int) + 1) (h : decide (n.house ≤ (cs.length : Int)) = true) (hv : cs[k]? = some v) : missP cs n = decide (n.num ≤ v) := by
  unfold missP
  rw [show (n.house - 1).toNat = k by omega, hv]
  simp only [h, Bool.true_and]
theorem missing1_fn (args : Array Value) (w : World) : (callFunc 68 args).run Tryz.prog w = .ok (.enter 68 args) w := by kernel_rfl
set_option maxHeartbeats 4000000 in
set_option maxRecDepth 100000 in
theorem missing1_any (cs : List Int) (ca : Option Addr) (cn cc : Nat) (pB : Nat) (n : NoteV) (sa : Option Addr) (sc : Nat) (w : World) (hb : w.heap[pB]? = some (.cells #[.slice ca cn cc] 37 (0, 0)))
    (hc : RdI w ca cn cc cs) (hn : 1 ≤ n.house ∧ n.house ≤ 1000) :
    Calls Tryz.prog 68 #[.agg (noteA n sa sc), .pointer (some ⟨pB, 0, none⟩)] w fun e w' => e = .returned (.bool (missP cs n)) ∧ Below w.heap.size w w' := by
  have I1 : (Tryz.prog.info? 3).map (·.size) = some 1 := by kernel_rfl
  have HL : Hid (cs.length = cn) := Lib.hid (by have := hc.len; simpa using this)
  obtain ⟨k, hk⟩ : ∃ k : Nat, n.house = (k : Int) + 1 := ⟨(n.house - 1).toNat, by omega⟩
  have HK := Lib.hid hk
  have HB := Lib.hid hn
  have B0 := Lib.hid ((Below.refl w.heap.size w).alloc (Nat.le_refl _) (.cells (noteA n sa sc) 47))
  have N0 := Lib.hid (heap_last w (.cells (noteA n sa sc) 47))
  have PB0 := Lib.hid (below_blk B0.out hb)
  have RC0 := Lib.hid (hc.below B0.out)
  clear hb hc hn hk
  go_enter Tryz.func68, Tryz.ntmps68
  go_upto_region 1 with fail
  obtain ⟨p2, hp2⟩ : ∃ q, Hid (w.heap.size = q) := ⟨_, Lib.hid rfl⟩
  rw [hp2.out] at N0
  rw [hp2.out]
  generalize w.alloc (.cells (noteA n sa sc) 47) = wr at *
  have hC0 : Below wr.heap.size wr wr.drew := (Below.refl _ _).drew
  have LB := Lib.hid (show ∀ w0, Below wr.heap.size wr w0 → w0.heap[pB]? = some (.cells #[.slice ca cn cc] 37 (0, 0)) from fun w0 h => below_blk h PB0.out)
  have LN2 := Lib.hid (show ∀ w0, Below wr.heap.size wr w0 → w0.heap[p2]? = some (.cells (noteA n sa sc) 47 (0, 0)) from fun w0 h => below_blk h N0.out)
  have BW := Lib.hid (show ∀ w0, Below wr.heap.size wr w0 → Below w.heap.size w w0 from fun w0 h => B0.out.trans (h.mono B0.out.size))
  have RW := Lib.hid (show ∀ w0, Below wr.heap.size wr w0 → RdI w0 ca cn cc cs from fun w0 h => RC0.out.below h)
  try simp only [Act.put, lq3, lq4, lq5]
  cases hq : decide (n.house ≤ (cn : Int))
  · have MF : Hid (missP cs n = false) := Lib.hid (missP_out (by have := HB.out; omega) (by rw [HL.out]; exact hq))
    refine wp_region_quiet (C := fun w' : World => Below wr.heap.size wr w') (by kernel_rfl) (by kernel_rfl) hC0 ?_
    show wpQuiet _ _ _ _ (_ :: _) _
    go_big_quiet_want
    refine ⟨.pointer (some ⟨p2, 0, none⟩), fun w0 hC => ?_, ?_⟩
    · clear hC
      go_simp
    simp only [Act.put, lq3, lq4, lq5]
    go_big_quiet_on
    go_big_quiet_want
    refine ⟨.int .i64 n.house, fun w0 hC => ?_, ?_⟩
    · have c0 := cell_of (LN2.out w0 hC) 0 (.int .i64 n.house) rfl
      clear hC
      go_simp
    simp only [Act.put, lq3, lq4, lq5]
    go_big_quiet_on
    go_big_quiet_want
    refine ⟨.slice ca cn cc, fun w0 hC => ?_, ?_⟩
    · have c0 := cell_of (LB.out w0 hC) 0 (.slice ca cn cc) rfl
      clear hC
      go_simp
    simp only [Act.put, lq3, lq4, lq5]
    go_big_quiet_on
    go_big_quiet_want
    refine ⟨.int .i64 (cn : Int), fun w0 hC => ?_, ?_⟩
    · clear hC
      go_simp
    simp only [Act.put, lq3, lq4, lq5]
    go_big_quiet_on
    go_big_quiet_want
    refine ⟨.bool false, fun w0 hC => ?_, ?_⟩
    · clear hC
      go_simp
    simp only [Act.put, lq3, lq4, lq5]
    go_big_quiet_on
    go_big_quiet_want
    go_big_quiet_op
    go_big_quiet_on
    go_big_quiet_skip
    go_big_quiet_skip
    go_big_quiet_skip
    go_big_quiet_skip
    go_big_quiet_skip
    go_big_quiet_skip
    go_big_quiet_skip
    go_big_quiet_skip
    go_big_quiet_skip
    go_big_quiet_want
    refine ⟨.bool false, fun w0 hC => ?_, ?_⟩
    · clear hC
      go_simp
    simp only [Act.put, lq3, lq4, lq5]
    go_big_quiet_on
    go_big_quiet_want
    go_big_quiet_op
    go_big_quiet_on
    refine wpQuiet_nil ?_
    intro w' hC
    have B9 := Lib.hid (BW.out w' hC)
    clear hC
    go_wp2_with fail
    go_ret
    exact ⟨by rw [MF.out] <;> rfl, B9.out⟩
  · have MT : Hid (∀ v, cs[k]? = some v → missP cs n = decide (n.num ≤ v)) := Lib.hid (fun v hv => missP_in HK.out (by rw [HL.out]; exact hq) hv)
    have hkc : k < cn := by have h1 := HK.out; have h2 := of_decide_eq_true hq; omega
    obtain ⟨v, hv⟩ : ∃ v, cs[k]? = some v := ⟨_, List.getElem?_eq_getElem (by rw [HL.out]; exact hkc)⟩
    have MV := Lib.hid (MT.out v hv)
    obtain ⟨cb, coff, rfl, hat⟩ := RC0.out.at (show 0 < cn by omega)
    obtain ⟨o, ho⟩ : ∃ o, Hid (coff + k * 1 = o) := ⟨_, Lib.hid rfl⟩
    have hix := Lib.hid (fun W => idx_off (W := W) (c := cc) (b := cb) Tryz.underlying37 I1 hkc ho.out)
    have VC := Lib.hid (show ∀ w0, Below wr.heap.size wr w0 → w0.cell? ⟨cb, o, none⟩ = some (.int .i64 v) from fun w0 h => by
      obtain ⟨cb', coff', e, hat'⟩ := (RW.out w0 h).at (show 0 < cn by omega)
      cases e
      have h3 := hat' k hkc
      rw [hv] at h3
      rw [← ho.out, Nat.mul_one]
      exact h3)
    clear hat hkc hv MT
    refine wp_region_quiet (C := fun w' : World => Below wr.heap.size wr w') (by kernel_rfl) (by kernel_rfl) hC0 ?_
    show wpQuiet _ _ _ _ (_ :: _) _
    go_big_quiet_want
    refine ⟨.pointer (some ⟨p2, 0, none⟩), fun w0 hC => ?_, ?_⟩
    · clear hC
      go_simp
    simp only [Act.put, lq3, lq4, lq5]
    go_big_quiet_on
    go_big_quiet_want
    refine ⟨.int .i64 n.house, fun w0 hC => ?_, ?_⟩
    · have c0 := cell_of (LN2.out w0 hC) 0 (.int .i64 n.house) rfl
      clear hC
      go_simp
    simp only [Act.put, lq3, lq4, lq5]
    go_big_quiet_on
    go_big_quiet_want
    refine ⟨.slice (some ⟨cb, coff, none⟩) cn cc, fun w0 hC => ?_, ?_⟩
    · have c0 := cell_of (LB.out w0 hC) 0 (.slice (some ⟨cb, coff, none⟩) cn cc) rfl
      clear hC
      go_simp
    simp only [Act.put, lq3, lq4, lq5]
    go_big_quiet_on
    go_big_quiet_want
    refine ⟨.int .i64 (cn : Int), fun w0 hC => ?_, ?_⟩
    · clear hC
      go_simp
    simp only [Act.put, lq3, lq4, lq5]
    go_big_quiet_on
    go_big_quiet_want
    refine ⟨.bool true, fun w0 hC => ?_, ?_⟩
    · clear hC
      go_simp
    simp only [Act.put, lq3, lq4, lq5]
    go_big_quiet_on
    go_big_quiet_want
    go_big_quiet_op
    go_big_quiet_on
    go_big_quiet_want
    refine ⟨.pointer (some ⟨p2, 1, none⟩), fun w0 hC => ?_, ?_⟩
    · clear hC
      go_simp
    simp only [Act.put, lq3, lq4, lq5]
    go_big_quiet_on
    go_big_quiet_want
    refine ⟨.int .i64 n.num, fun w0 hC => ?_, ?_⟩
    · have c1 := cell_of (LN2.out w0 hC) 1 (.int .i64 n.num) rfl
      clear hC
      go_simp
    simp only [Act.put, lq3, lq4, lq5]
    go_big_quiet_on
    go_big_quiet_want
    refine ⟨.slice (some ⟨cb, coff, none⟩) cn cc, fun w0 hC => ?_, ?_⟩
    · have c0 := cell_of (LB.out w0 hC) 0 (.slice (some ⟨cb, coff, none⟩) cn cc) rfl
      clear hC
      go_simp
    simp only [Act.put, lq3, lq4, lq5]
    go_big_quiet_on
    go_big_quiet_want
    refine ⟨.pointer (some ⟨p2, 0, none⟩), fun w0 hC => ?_, ?_⟩
    · clear hC
      go_simp
    simp only [Act.put, lq3, lq4, lq5]
    go_big_quiet_on
    go_big_quiet_want
    refine ⟨.int .i64 n.house, fun w0 hC => ?_, ?_⟩
    · have c0 := cell_of (LN2.out w0 hC) 0 (.int .i64 n.house) rfl
      clear hC
      go_simp
    simp only [Act.put, lq3, lq4, lq5]
    go_big_quiet_on
    go_big_quiet_want
    refine ⟨.int .i64 (k : Int), fun w0 hC => ?_, ?_⟩
    · have hk := HK.out
      have hb := HB.out
      clear hC
      rw [hk]
      go_simp
      rw [IntKind.wrap_i64]
      omega
    simp only [Act.put, lq3, lq4, lq5]
    go_big_quiet_on
    go_big_quiet_want
    refine ⟨.pointer (some ⟨cb, o, none⟩), fun w0 hC => ?_, ?_⟩
    · have hi := hix.out
      clear hC
      go_simp
    simp only [Act.put, lq3, lq4, lq5]
    go_big_quiet_on
    go_big_quiet_want
    refine ⟨.int .i64 v, fun w0 hC => ?_, ?_⟩
    · have hv := VC.out w0 hC
      clear hC
      go_simp
    simp only [Act.put, lq3, lq4, lq5]
    go_big_quiet_on
    go_big_quiet_want
    refine ⟨.bool (decide (n.num ≤ v)), fun w0 hC => ?_, ?_⟩
    · clear hC
      go_simp
    simp only [Act.put, lq3, lq4, lq5]
    go_big_quiet_on
    go_big_quiet_want
    refine ⟨.bool (decide (n.num ≤ v)), fun w0 hC => ?_, ?_⟩
    · clear hC
      go_simp
    simp only [Act.put, lq3, lq4, lq5]
    go_big_quiet_on
    go_big_quiet_want
    go_big_quiet_op
    go_big_quiet_on
    refine wpQuiet_nil ?_
    intro w' hC
    have B9 := Lib.hid (BW.out w' hC)
    clear hC
    go_wp2_with fail
    go_ret
    exact ⟨by rw [MV.out] <;> rfl, B9.out⟩

def MisRet (l : List NoteV) (w : World) (e : Ending) (W : World) : Prop := ∃ a i c zs, e = .returned (.slice a i c) ∧ Kept w.heap.size W.heap.size W a i c zs ∧ zs.map LN.n = l
set_option maxHeartbeats 8000000 in
set_option maxRecDepth 100000 in
theorem hmissing_any (p mb sp : Nat) (G : Nm → Option LN) (SF : Nat → Prop) (S : HouV) (cs : List Int) (ca : Option Addr) (cn cc : Nat) (w : World) (hh : HouAt w p mb sp G SF S) (hi : HInv S) (hlen : S.l.length ≤ 400) (hc : RdI w ca cn cc cs) :
    Calls Tryz.prog 16 #[.pointer (some ⟨p, 0, none⟩), .slice ca cn cc] w fun e w' => MisRet (S.l.filter (fun n => !missP cs n)) w e w' ∧ Below w.heap.size w w' := by
  have B0 := Lib.hid ((Below.refl w.heap.size w).alloc (Nat.le_refl _) (.cells #[.slice ca cn cc] 37))
  have P0 := Lib.hid (heap_last w (.cells #[.slice ca cn cc] 37))
  have HH := Lib.hid (hh.below B0.out)
  have HI := Lib.hid hi
  have HC := Lib.hid (hc.below B0.out)
  have HL := Lib.hid hlen
  clear hh hi hc hlen
  go_enter Tryz.func16, Tryz.ntmps16
  go_upto_region 1 with fail
  obtain ⟨pB, hpB⟩ : ∃ q, Hid (w.heap.size = q) := ⟨_, Lib.hid rfl⟩
  rw [hpB.out] at P0
  rw [hpB.out]
  generalize w.alloc (.cells #[.slice ca cn cc] 37) = w1 at *
  have c4 := cell_of HH.out.blk 4 (.map (some mb)) rfl
  go_wp2_with fail
  refine (made_any w1 p mb sp S.f S.id S.c HH.out.blk).mono ?_
  rintro e w2 ⟨rfl, hw2⟩
  rw [hw2]
  clear hw2 w2
  go_upto_region 3 with fail
  go_wp2_with fail
  refine (list_any mb S.l.length G w1 HH.out.map (by have := HL.out; omega) (HH.out.gok HI.out)).mono ?_
  rintro e w2 ⟨⟨a, un, c, zs, ks, rfl, h1, h2, h3, h4, h5, h6⟩, b2⟩
  have M := Lib.hid h1
  have E : Hid (zs.map LN.n = S.l) := Lib.hid (h2.trans (HH.out.list HI.out h3 h4 h5))
  have B2 := Lib.hid (B0.out.trans (b2.mono B0.out.size))
  have P2 := Lib.hid (below_blk b2 P0.out)
  have C2 := Lib.hid (HC.out.below b2)
  have PL := Lib.hid (blk_lt P0.out)
  have CK : Hid (∀ W, Same (fun k => Value.ownBlock (.slice a un c) = some k) w2 W → RdI W ca cn cc cs ∧ W.heap[pB]? = some (.cells #[.slice ca cn cc] 37 (0, 0))) := Lib.hid (fun W hs => by
    have hlt : ∀ k, Value.ownBlock (.slice a un c) = some k → w1.heap.size ≤ k := fun k hk => (M.out.own.lt k hk).1
    have hb : Below w1.heap.size w1 W := hs.below b2 M.out.bel.size hlt
    exact ⟨HC.out.below hb, below_blk hb P0.out⟩)
  clear h1 h2 h3 h4 h5 h6 b2 c4
  go_wp2_with fail
  refine (delL_any zs (fun x => missP cs x.n) 68 (.pointer (some ⟨pB, 0, none⟩)) missing1_fn a un c w1 w2 M.out (fun e he W hs => missing1_any cs ca cn cc pB e.n e.sa e.sc W (CK.out W hs).2 (CK.out W hs).1 (by
    have hm : e.n ∈ S.l := by rw [← E.out]; exact List.mem_map_of_mem he
    have h1 := formed_house (HI.out.frm _ hm)
    omega))).mono ?_
  rintro e w3 ⟨⟨a', i, c', rfl, hr, hin⟩, b3⟩
  have R3 : Hid (Kept w.heap.size w3.heap.size w3 a' i c' _) := Lib.hid ⟨hr.1, fun W2 hs2 => hr.2 W2 (hs2.weaken (fun k hk => hk.imp (fun h => Nat.lt_of_lt_of_le h B0.out.size) id))⟩
  have B3 := Lib.hid (B0.out.trans ((M.out.bel.trans b3).mono B0.out.size))
  clear hr hin b3
  go_wp2_with fail
  go_ret
  exact ⟨⟨a', i, c', _, rfl, R3.out, by rw [← E.out, List.filter_map]; rfl⟩, B3.out⟩
end Go.Proofs.YtlnhppgfhkkidaaGreat
namespace Go.Proofs.YtlnhppgfhkkidaaGreat
set_option linter.unusedSimpArgs false
set_option linter.unusedVariables false

def seqOk (c : Int → Nat) : List NoteV → Prop
  | [] => True
  | n :: ns => n.num = (c n.house : Int) + 1 ∧ seqOk (bump c n.house) ns
theorem hear_seq {l : List NoteV} : ∀ (ns fr : List NoteV) (c : Int → Nat) {fr' : List NoteV} {c' : Int → Nat}, NmsOk (l ++ fr) c → (∀ n ∈ ns, 1 ≤ n.num) → hearGo l fr c ns = some (fr', c') → ∃ t, fr' = fr ++ t ∧ seqOk c t ∧ ∀ x ∈ t, x ∈ ns
  | [], fr, c, fr', c', _, _, h => by
    simp only [hearGo, Option.some.injEq, Prod.mk.injEq] at h
    exact ⟨[], by rw [h.1, List.append_nil], trivial, fun x hx => by cases hx⟩
  | n :: ns, fr, c, fr', c', h1, h3, h => by
    rw [hearGo] at h
    have h3' : ∀ m ∈ ns, 1 ≤ m.num := fun m hm => h3 m (List.mem_cons_of_mem _ hm)
    split at h
    · split at h
      · obtain ⟨t, a1, a2, a3⟩ := hear_seq ns fr c h1 h3' h
        exact ⟨t, a1, a2, fun x hx => List.mem_cons_of_mem _ (a3 x hx)⟩
      · cases h
    · rename_i hk
      split at h
      · obtain ⟨t, a1, a2, a3⟩ := hear_seq ns fr c h1 h3' h
        exact ⟨t, a1, a2, fun x hx => List.mem_cons_of_mem _ (a3 x hx)⟩
      · rename_i hle
        have hlt := h1.free (h3 n (List.mem_cons_self ..)) (knownBy_none hk)
        have hadd := h1.add (n := n) (by omega)
        rw [List.append_assoc] at hadd
        obtain ⟨t, a1, a2, a3⟩ := hear_seq ns (fr ++ [n]) (bump c n.house) hadd h3' h
        refine ⟨n :: t, by rw [a1, List.append_assoc]; rfl, ⟨by omega, a2⟩, fun x hx => ?_⟩
        rcases List.mem_cons.1 hx with rfl | hx
        · exact List.mem_cons_self ..
        · exact List.mem_cons_of_mem _ (a3 x hx)
def HouV.adds (S : HouV) (fr : List NoteV) : HouV := fr.foldl HouV.add S
theorem adds_snoc (S : HouV) (fr : List NoteV) (n : NoteV) : S.adds (fr ++ [n]) = (S.adds fr).add n := by simp [HouV.adds, List.foldl_append]
theorem adds_f : ∀ (fr : List NoteV) (S : HouV), (S.adds fr).f = S.f
  | [], _ => rfl
  | n :: fr, S => adds_f fr (S.add n)
theorem adds_l : ∀ (fr : List NoteV) (S : HouV), (S.adds fr).l = addAll S.l fr
  | [], _ => rfl
  | n :: fr, S => adds_l fr (S.add n)
theorem adds_len (fr : List NoteV) (S : HouV) : (S.adds fr).l.length = S.l.length + fr.length := by rw [adds_l, addAll_len]
theorem adds_inv : ∀ (fr : List NoteV) (S : HouV), HInv S → seqOk S.c fr → (∀ x ∈ fr, formedB S.f x = true ∧ x.Ok) → HInv (S.adds fr)
  | [], _, h, _, _ => h
  | n :: fr, S, h, hs, hf => adds_inv fr (S.add n) (h.add (hf n (List.mem_cons_self ..)).1 (hf n (List.mem_cons_self ..)).2 hs.1).1 hs.2 (fun x hx => hf x (List.mem_cons_of_mem _ hx))
theorem seqOk_at : ∀ (fr : List NoteV) (S : HouV) (q : Nat) (n : NoteV), seqOk S.c fr → fr[q]? = some n → n.num = ((S.adds (fr.take q)).c n.house : Int) + 1
  | [], _, q, n, _, h => by simp at h
  | m :: fr, S, 0, n, hs, h => by
    simp at h
    subst h
    exact hs.1
  | m :: fr, S, q + 1, n, hs, h => by
    have := seqOk_at fr (S.add m) q n hs.2 (by simpa using h)
    exact this
theorem seqOk_take : ∀ (fr : List NoteV) (c : Int → Nat) (q : Nat), seqOk c fr → seqOk c (fr.take q)
  | [], _, q, _ => by simp [seqOk]
  | m :: fr, c, 0, _ => trivial
  | m :: fr, c, q + 1, h => ⟨h.1, seqOk_take fr _ q h.2⟩
def hearP (S : HouV) (l : List NoteV) : HouV × Int × Int :=
  if l.any (fun n => !decide (checkN S.f n = 0)) = true then (S, 0, 80) else match hearGo S.l [] S.c l with | none => (S, 0, 81) | some (fr, _) => (S.adds fr, (fr.length : Int), 0)
theorem hearP_bad {S : HouV} {l : List NoteV} (h : l.any (fun n => !decide (checkN S.f n = 0)) = true) : hearP S l = (S, 0, 80) := by unfold hearP; rw [if_pos h]
theorem hearP_fork {S : HouV} {l : List NoteV} (h : l.any (fun n => !decide (checkN S.f n = 0)) = false) (h2 : hearGo S.l [] S.c l = none) : hearP S l = (S, 0, 81) := by unfold hearP; rw [if_neg (by rw [h]; decide), h2]
theorem hearP_ok {S : HouV} {l fr : List NoteV} {c : Int → Nat} (h : l.any (fun n => !decide (checkN S.f n = 0)) = false) (h2 : hearGo S.l [] S.c l = some (fr, c)) : hearP S l = (S.adds fr, (fr.length : Int), 0) := by unfold hearP; rw [if_neg (by rw [h]; decide), h2]
theorem check_formed {S : HouV} (hv : S.f.valid = true) {l : List NoteV} (h : l.any (fun n => !decide (checkN S.f n = 0)) = false) : ∀ n ∈ l, formedB S.f n = true := fun n hn => by
  rw [List.any_eq_false] at h
  have h1 := h n hn
  simp only [Bool.not_eq_true', decide_eq_false_iff_not, Decidable.not_not] at h1
  unfold checkN at h1
  rw [if_pos hv] at h1
  by_cases h2 : formedB S.f n = true
  · exact h2
  · rw [if_neg h2] at h1
    cases h1
theorem hearP_inv {S : HouV} {l : List NoteV} (h : HInv S) (hok : ∀ x ∈ l, x.Ok) : HInv (hearP S l).1 ∧ (hearP S l).1.l.length ≤ S.l.length + l.length := by
  cases hb : l.any (fun n => !decide (checkN S.f n = 0)) with
  | true => rw [hearP_bad hb]; exact ⟨h, Nat.le_add_right _ _⟩
  | false =>
    have hf := check_formed h.v hb
    cases hg : hearGo S.l [] S.c l with
    | none => rw [hearP_fork hb hg]; exact ⟨h, Nat.le_add_right _ _⟩
    | some r =>
      obtain ⟨fr, c'⟩ := r
      rw [hearP_ok hb hg]
      have hn : NmsOk (S.l ++ []) S.c := by rw [List.append_nil]; exact h.nms
      obtain ⟨t, e, hs, hm⟩ := hear_seq l [] S.c hn (fun n hn => (formed_house (hf n hn)).2.2) hg
      rw [List.nil_append] at e
      subst e
      have hl := (hear_ok l [] S.c hn (by rw [List.append_nil]; exact set_nodup h.srt) (fun n hn => (formed_house (hf n hn)).2.2) hg).2.2.2
      exact ⟨adds_inv fr S h hs (fun x hx => ⟨hf x (hm x hx), hok x (hm x hx)⟩), by show (S.adds fr).l.length ≤ _; rw [adds_len]; simp at hl; omega⟩
end Go.Proofs.YtlnhppgfhkkidaaGreat
namespace Go.Proofs.YtlnhppgfhkkidaaGreat
open Go.RowKit

structure LocF (w W : World) (p0 p1 : Nat) (f : FrV) (n : NoteV) (sa : Option Addr) (sc : Nat) : Prop where
  e0 : W.heap[p0]? = some (.cells #[.int .i64 f.rings, .int .i64 f.sectors, .int .i64 f.wide] 23 (0, 0))
  e1 : W.heap[p1]? = some (.cells (noteA n sa sc) 47 (0, 0))
  b : Below p0 w W
  lt : p0 < p1
theorem LocF.below {w W W' : World} {p0 p1 : Nat} {f : FrV} {n : NoteV} {sa : Option Addr} {sc : Nat} (h : LocF w W p0 p1 f n sa sc) (hb : Below W.heap.size W W') : LocF w W' p0 p1 f n sa sc := by
  have g : ∀ {k : Nat} {o : Obj}, W.heap[k]? = some o → W'.heap[k]? = some o := fun {k o} hk => (hb.block k (Array.getElem?_eq_some_iff.1 hk).1).trans hk
  have h0 := (Array.getElem?_eq_some_iff.1 h.e0).1
  exact ⟨g h.e0, g h.e1, h.b.trans (hb.mono (by omega)), h.lt⟩
section
attribute [local go_sem] noteA_0 noteA_1 noteA_2 noteA_3 noteA_4 noteA_5 noteA_6 noteA_7 noteA_8 noteA_9 noteA_10 noteA_11 noteA_12 noteA_13 noteA_14 noteA_15 noteA_16 noteA_17 noteA_18
variable (f : FrV) (n : NoteV) (sa : Option Addr) (sc : Nat) (w : World)
end
end Go.Proofs.YtlnhppgfhkkidaaGreat
namespace Go.Proofs.YtlnhppgfhkkidaaGreat
set_option linter.unusedSimpArgs false
open Go.RowKit

theorem hear1_fn (args : Array Value) (w : World) : (callFunc 55 args).run Tryz.prog w = .ok (.enter 55 args) w := by kernel_rfl
set_option maxHeartbeats 4000000 in
set_option maxRecDepth 100000 in
theorem hear1_any (f : FrV) (id : Int) (mb sp p pB : Nat) (c : Int → Nat) (n : NoteV) (sa : Option Addr) (sc : Nat) (w : World) (hb : w.heap[pB]? = some (.cells #[.pointer (some ⟨p, 0, none⟩)] 27 (0, 0)))
    (hh : w.heap[p]? = some (.cells (houA f id mb c sp) 109 (0, 0))) (hs : RdI w sa n.strokes.length sc n.strokes) :
    Calls Tryz.prog 55 #[.agg (noteA n sa sc), .pointer (some ⟨pB, 0, none⟩)] w fun e w' => e = .returned (.bool (!decide (checkN f n = 0))) ∧ Below w.heap.size w w' := by
  have I43 := Lib.hid (show ∀ (m : NoteV) (a : Option Addr) (c : Nat), (Tryz.prog.info? 47).map (·.size) = some (noteA m a c).size from fun m a c => by kernel_rfl)
  have CN := Lib.hid (fun W (hb : Below w.heap.size w W) => checkNote_any f n sa sc W (hs.below hb))
  have hvl : f.val = .agg #[.int .i64 f.rings, .int .i64 f.sectors, .int .i64 f.wide] := rfl
  rw [hvl] at CN
  clear hvl
  obtain ⟨z, hz⟩ : ∃ z, Hid (checkN f n = z) := ⟨_, Lib.hid rfl⟩
  rw [hz.out] at CN ⊢
  have QE : Hid ((z != 0) = !decide (z = 0)) := Lib.hid (by by_cases h : z = 0 <;> simp [h])
  have B0 := Lib.hid ((Below.refl w.heap.size w).alloc (Nat.le_refl _) (.cells (noteA n sa sc) 47))
  have N0 := Lib.hid (heap_last w (.cells (noteA n sa sc) 47))
  have PB0 := Lib.hid (below_blk B0.out hb)
  have PH0 := Lib.hid (below_blk B0.out hh)
  clear hb hh hs
  go_enter Tryz.func55, Tryz.ntmps55
  go_upto_region 1 with fail
  obtain ⟨p2, hp2⟩ : ∃ q, Hid (w.heap.size = q) := ⟨_, Lib.hid rfl⟩
  rw [hp2.out] at N0
  rw [hp2.out]
  generalize w.alloc (.cells (noteA n sa sc) 47) = wr at *
  have hC0 : Below wr.heap.size wr wr.drew := (Below.refl _ _).drew
  have LB := Lib.hid (show ∀ w0, Below wr.heap.size wr w0 → w0.heap[pB]? = some (.cells #[.pointer (some ⟨p, 0, none⟩)] 27 (0, 0)) from fun w0 h => below_blk h PB0.out)
  have LH := Lib.hid (show ∀ w0, Below wr.heap.size wr w0 → w0.heap[p]? = some (.cells (houA f id mb c sp) 109 (0, 0)) from fun w0 h => below_blk h PH0.out)
  have LN2 := Lib.hid (show ∀ w0, Below wr.heap.size wr w0 → w0.heap[p2]? = some (.cells (noteA n sa sc) 47 (0, 0)) from fun w0 h => below_blk h N0.out)
  have BW := Lib.hid (show ∀ w0, Below wr.heap.size wr w0 → Below w.heap.size w w0 from fun w0 h => B0.out.trans (h.mono B0.out.size))
  try simp only [Act.put, lq3, lq4, lq5]
  refine wp_region_quiet (C := fun w' : World => Below wr.heap.size wr w') (by kernel_rfl) (by kernel_rfl) hC0 ?_
  show wpQuiet _ _ _ _ (_ :: _) _
  go_big_quiet_want
  refine ⟨.pointer (some ⟨p, 0, none⟩), fun w0 hC => ?_, ?_⟩
  · have c0 := cell_of (LB.out w0 hC) 0 (.pointer (some ⟨p, 0, none⟩)) rfl
    clear hC
    go_simp
  simp only [Act.put, lq3, lq4, lq5]
  go_big_quiet_on
  go_big_quiet_want
  refine ⟨.pointer (some ⟨p, 0, none⟩), fun w0 hC => ?_, ?_⟩
  · clear hC
    go_simp
  simp only [Act.put, lq3, lq4, lq5]
  go_big_quiet_on
  go_big_quiet_want
  refine ⟨.pointer (some ⟨p, 0, none⟩), fun w0 hC => ?_, ?_⟩
  · clear hC
    go_simp
  simp only [Act.put, lq3, lq4, lq5]
  go_big_quiet_on
  go_big_quiet_want
  refine ⟨.agg #[.int .i64 f.rings, .int .i64 f.sectors, .int .i64 f.wide], fun w0 hC => ?_, ?_⟩
  · have c0 := cell_of (LH.out w0 hC) 0 (.int .i64 f.rings) rfl
    have c1 := cell_of (LH.out w0 hC) 1 (.int .i64 f.sectors) rfl
    have c2 := cell_of (LH.out w0 hC) 2 (.int .i64 f.wide) rfl
    clear hC
    go_simp
  simp only [Act.put, lq3, lq4, lq5]
  go_big_quiet_on
  go_big_quiet_want
  refine ⟨.agg (noteA n sa sc), fun w0 hC => quiet_load43 (.tmp 2) rfl p2 rfl n sa sc (LN2.out w0 hC), ?_⟩
  simp only [Act.put, lq3, lq4, lq5]
  go_big_quiet_on
  go_big_quiet_want
  refine ⟨.int .i64 z, fun w0 hC => ?_, ?_⟩
  · go_simp
    refine (CN.out w0 (BW.out w0 hC)).mono ?_
    rintro e w1 ⟨rfl, b1⟩
    exact ⟨rfl, hC.trans (b1.mono hC.size)⟩
  simp only [Act.put, lq3, lq4, lq5]
  go_big_quiet_on
  go_big_quiet_want
  refine ⟨.bool (!decide (z = 0)), fun w0 hC => ?_, ?_⟩
  · have qe := QE.out
    clear hC
    go_simp
  simp only [Act.put, lq3, lq4, lq5]
  go_big_quiet_on
  go_big_quiet_want
  go_big_quiet_op
  go_big_quiet_on
  refine wpQuiet_nil ?_
  intro w' hC
  have B9 := Lib.hid (BW.out w' hC)
  clear hC
  go_wp2_with fail
  go_ret
  exact ⟨rfl, B9.out⟩

theorem encN_inj {f : FrV} (hv : f.valid = true) {x y : NoteV} (hx : formedB f x = true) (hy : formedB f y = true) (h : encN x = encN y) : x = y := by
  have h1 := decode_of_enc hv x hx
  rw [h, decode_of_enc hv y hy] at h1
  simpa using h1.symm
set_option maxHeartbeats 8000000 in
set_option maxRecDepth 100000 in
theorem same2_any (f : FrV) (hv : f.valid = true) (x y : NoteV) (sa : Option Addr) (sc : Nat) (ta : Option Addr) (tc : Nat) (w : World) (hx : RdI w sa x.strokes.length sc x.strokes) (hy : RdI w ta y.strokes.length tc y.strokes) (hfx : formedB f x = true) (hfy : formedB f y = true) :
    Calls Tryz.prog 59 #[.agg (noteA x sa sc), .agg (noteA y ta tc)] w fun e w' => e = .returned (.bool (sameB x y)) ∧ Below w.heap.size w w' := by
  have I43 := Lib.hid (show ∀ (m : NoteV) (a : Option Addr) (c : Nat), (Tryz.prog.info? 47).map (·.size) = some (noteA m a c).size from fun m a c => by kernel_rfl)
  have EQ : Hid (∀ b : Bool, (b = true ↔ encN x = encN y) → b = sameB x y) := Lib.hid (fun b hb => by
    rw [Bool.eq_iff_iff, hb, sameB_iff]
    exact ⟨encN_inj hv hfx hfy, fun e => by rw [e]⟩)
  have EX := Lib.hid (fun W (hb : Below w.heap.size w W) => encoded_any x sa sc W (hx.below hb) (formed_small hv hfx) (Nat.le_trans (formed_len hv hfx) (by decide)))
  have EY := Lib.hid (fun W (hb : Below w.heap.size w W) => encoded_any y ta tc W (hy.below hb) (formed_small hv hfy) (Nat.le_trans (formed_len hv hfy) (by decide)))
  have B0 := Lib.hid (((Below.refl w.heap.size w).alloc (Nat.le_refl _) (.cells (noteA x sa sc) 47)).alloc (by simp) (.cells (noteA y ta tc) 47))
  have X0 := Lib.hid (heap_before _ (.cells (noteA y ta tc) 47) _ _ (heap_last w (.cells (noteA x sa sc) 47)))
  have Y0 := Lib.hid (heap_at (w.alloc (.cells (noteA x sa sc) 47)) (.cells (noteA y ta tc) 47) (w.heap.size + 1) (by simp))
  clear hx hy hfx hfy
  go_enter Tryz.func59, Tryz.ntmps59
  go_upto_region 1 with fail
  obtain ⟨p2, hp2⟩ : ∃ q, Hid (w.heap.size = q) := ⟨_, Lib.hid rfl⟩
  obtain ⟨p3, hp3⟩ : ∃ q, Hid (w.heap.size + 1 = q) := ⟨_, Lib.hid rfl⟩
  rw [hp2.out] at X0
  rw [hp3.out] at Y0
  rw [hp3.out, hp2.out]
  generalize (w.alloc (.cells (noteA x sa sc) 47)).alloc (.cells (noteA y ta tc) 47) = wr at *
  refine wp_region_noPanic ?_
  refine wp_region_held_drew (S := fun w' => w'.heap[p2]? = some (.cells (noteA x sa sc) 47 (0, 0)) ∧ w'.heap[p3]? = some (.cells (noteA y ta tc) 47 (0, 0))) (by kernel_rfl) (show wr.drew.heap[p2]? = _ ∧ wr.drew.heap[p3]? = _ from ⟨X0.out, Y0.out⟩) (fun hHeld => ?_)
  have XD := Lib.hid (show wr.drew.heap[p2]? = _ from X0.out)
  have YD := Lib.hid (show wr.drew.heap[p3]? = _ from Y0.out)
  have BD := Lib.hid (show Below w.heap.size w wr.drew from B0.out.drew)
  generalize wr.drew = V at *
  refine wpAnyH_take (i := 0) (v := .agg (noteA x sa sc)) rfl (by kernel_rfl) (by kernel_rfl) (by kernel_rfl) (fun _ _ _ h => h) (yields_row (by kernel_rfl) 47 _ rfl p2 rfl _ 47 (0, 0) _ (fun W h => h.1) Tryz.underlying47 rfl (I43.out _ _ _)) (by assumption) ?_
  try simp only [Act.put, lq0, lq1, lq2, lq3, lq4, lq5]
  refine wpAnyH_take (i := 2) (v := .agg (noteA y ta tc)) rfl (by kernel_rfl) (by kernel_rfl) (by kernel_rfl) (fun _ _ _ h => h) (yields_row (by kernel_rfl) 47 _ rfl p3 rfl _ 47 (0, 0) _ (fun W h => h.2) Tryz.underlying47 rfl (I43.out _ _ _)) (by assumption) ?_
  try simp only [Act.put, lq0, lq1, lq2, lq3, lq4, lq5]
  refine wpAnyH_ready (rs := [1]) (by kernel_rfl) (by simp) ?_
  refine AllReadyH.cons rfl (fun K hK => ?_) AllReadyH.nil
  go_simp
  go_at_call 117
  refine (EX.out V BD.out).mono ?_
  rintro e v1 ⟨xa, xc, rfl, ho, b1⟩
  have B1 := Lib.hid (BD.out.trans (b1.mono BD.out.size))
  have X1 := Lib.hid (below_blk b1 XD.out)
  have Y1 := Lib.hid (below_blk b1 YD.out)
  have R1 := Lib.hid (RdB.of_own ho)
  clear b1 ho
  dsimp only
  refine hK.out _ _ ⟨X1.out, Y1.out⟩ (fun hHeld => ?_)
  clear hK K
  try simp only [Act.put, lq0, lq1, lq2, lq3, lq4, lq5]
  refine wpAnyH_ready (rs := [3]) (by kernel_rfl) (by simp) ?_
  refine AllReadyH.cons rfl (fun K hK => ?_) AllReadyH.nil
  go_simp
  go_at_call 117
  refine (EY.out v1 B1.out).mono ?_
  rintro e v2 ⟨ya, yc, rfl, ho, b2⟩
  have B2 := Lib.hid (B1.out.trans (b2.mono B1.out.size))
  have X2 := Lib.hid (below_blk b2 X1.out)
  have Y2 := Lib.hid (below_blk b2 Y1.out)
  have R2 := Lib.hid (RdB.of_own ho)
  have R12 := Lib.hid (R1.out.below b2)
  clear b2 ho
  dsimp only
  refine hK.out _ _ ⟨X2.out, Y2.out⟩ (fun hHeld => ?_)
  clear hK K
  try simp only [Act.put, lq0, lq1, lq2, lq3, lq4, lq5]
  refine wpAnyH_ready (rs := [4]) (by kernel_rfl) (by simp) ?_
  refine AllReadyH.cons rfl (fun K hK => ?_) AllReadyH.nil
  go_simp
  go_at_call 116
  refine (equal_any xa _ xc (encN x) ya _ yc (encN y) v2 R12.out R2.out).mono ?_
  rintro e v3 ⟨b, rfl, hb, q3, rfl⟩
  have HB := Lib.hid hb
  have B3 := Lib.hid (below_drewN B2.out q3)
  clear hb
  dsimp only
  refine hK.out _ _ ⟨X2.out, Y2.out⟩ (fun hHeld => ?_)
  clear hK K
  try simp only [Act.put, lq0, lq1, lq2, lq3, lq4, lq5]
  refine wpAnyH_take (i := 5) (oi := { dst := some 4, op := .assign (.tmp 9), type := _, pos := _, after := _, guard := none }) (v := .bool b) rfl (by kernel_rfl) (by kernel_rfl) (by kernel_rfl) (fun _ _ _ h => h) (Or.inl ⟨by kernel_rfl, by intro W _; go_simp⟩) (by assumption) ?_
  try simp only [Act.put, lq0, lq1, lq2, lq3, lq4, lq5]
  refine wpAnyH_done (by kernel_rfl) ?_ _
  refine NoPanic.normal ?_
  go_wp2_with fail
  go_ret
  exact ⟨by rw [EQ.out b HB.out] <;> rfl, B3.out⟩
end Go.Proofs.YtlnhppgfhkkidaaGreat
namespace Go.Proofs.YtlnhppgfhkkidaaGreat
set_option linter.unusedSimpArgs false
open Go.RowKit

theorem MapF.cloned {α : Type} {enc : α → Value} {w : World} {b n : Nat} {f : Nm → Option α} (h : MapF enc w b n f) : ∃ es clock, w.heap[b]? = some (.map es clock) ∧ MapF enc (w.alloc (.map es clock)) w.heap.size n f := by
  obtain ⟨D, ⟨es, clock, hb, F, hs, hD⟩, hr⟩ := h
  exact ⟨es, clock, hb, D, ⟨es, clock, heap_alloc_new w _, F, hs, hD⟩, hr⟩
set_option maxHeartbeats 4000000 in
set_option maxRecDepth 100000 in
theorem mapsClone_any (b n : Nat) (G : Nm → Option LN) (w : World) (hm : MapF LN.val w b n G) :
    Calls Tryz.prog 57 #[.map (some b)] w fun e w' => e = .returned (.map (some w.heap.size)) ∧ MapF LN.val w' w.heap.size n G ∧ Below w.heap.size w w' := by
  obtain ⟨es, clock, hb, hc⟩ := hm.cloned
  have HC := Lib.hid hc
  clear hc hm
  have hq := fun w => run_eql_map_nil_sl (P := Tryz.prog) w 106 _ _ (some b) Tryz.underlying106
  have hx := @run_callFunc_extern Tryz.prog 115 Tryz.f115 Extern.MapsClone.clone (by kernel_rfl) (by kernel_rfl) (by kernel_rfl) (by kernel_rfl) (by kernel_rfl)
  go_enter Tryz.func57, Tryz.ntmps57
  go_wp2
  rw [run_maps_clone_sl w 106 hb]
  simp only [Result.andThen]
  rw [Oper.upon_value]
  go_wp2
  rw [run_typeAssert_map_sl _ 106 _ _ _ _ Tryz.underlying106]
  simp only [Result.andThen]
  rw [Oper.upon_value]
  go_wp2
  go_ret
  exact ⟨rfl, HC.out, (Below.refl _ _).alloc (Nat.le_refl _) _⟩
end Go.Proofs.YtlnhppgfhkkidaaGreat
namespace Go.Proofs.YtlnhppgfhkkidaaGreat
set_option linter.unusedSimpArgs false
open Go.RowKit

theorem yields_mid2 {P : Program} {ops : Array Oper} {S : World → Prop} {op : Oper} {a : Act} (hw : Region.wanted op (yielded ops a.tmps) = true) (ty : TypeId) (x : Operand) (ho : op.op = .load ty x)
    (b o : Nat) (hx : a.eval x = .pointer (some ⟨b, o, none⟩)) (cs : List Value) (d : TypeDesc) (hS : ∀ w, S w → w.rangeAt b o cs)
    (hu : P.underlying ty = some d) (hd : d.isRow = true) (hi : (P.info? ty).map (·.size) = some cs.length) : YieldsIf P ops S op (.agg cs.toArray) a :=
  .inl ⟨hw, fun w hw' => by
    unfold execOp
    simp only [ho, hx, Instr.loadAt, Instr.sureAddr, Sem.run_bind, Sem.run_pure, Result.andThen_ok, run_loadVar_mid w b o ty cs d (hS w hw') hu hd hi]⟩
theorem same_trans2 {F F1 : Nat → Prop} {a b c : World} (h : Same F a b) (k : Same F1 b c) (hF : ∀ k, F1 k → F k ∨ a.heap.size ≤ k) : Same F a c :=
  ⟨k.os.trans h.os, k.tape.trans h.tape, k.output.trans h.output, Nat.le_trans h.size k.size, fun i hi hs => (k.block i (Nat.lt_of_lt_of_le hi h.size) (fun h1 => by
    rcases hF i h1 with h2 | h2
    · exact hs h2
    · omega)).trans (h.block i hi hs)⟩
theorem hou_cnts {W : World} {p mb sp : Nat} {f : FrV} {id : Int} {c : Int → Nat} (h : W.heap[p]? = some (.cells (houA f id mb c sp) 109 (0, 0))) : W.rangeAt p 5 [.int .i64 (c 0 : Int), .int .i64 (c 1 : Int), .int .i64 (c 2 : Int), .int .i64 (c 3 : Int), .int .i64 (c 4 : Int), .int .i64 (c 5 : Int), .int .i64 (c 6 : Int), .int .i64 (c 7 : Int), .int .i64 (c 8 : Int)] := fun j v hv => by
  have hj : j < 9 := (List.getElem?_eq_some_iff.1 hv).1
  have h1 := cell_of h (5 + j) v ?_
  · exact h1
  · have : j = 0 ∨ j = 1 ∨ j = 2 ∨ j = 3 ∨ j = 4 ∨ j = 5 ∨ j = 6 ∨ j = 7 ∨ j = 8 := by omega
    rcases this with rfl | rfl | rfl | rfl | rfl | rfl | rfl | rfl | rfl <;> simpa [houA] using hv
def cntA (c : Int → Nat) : Array Value := #[.int .i64 (c 0 : Int), .int .i64 (c 1 : Int), .int .i64 (c 2 : Int), .int .i64 (c 3 : Int), .int .i64 (c 4 : Int), .int .i64 (c 5 : Int), .int .i64 (c 6 : Int), .int .i64 (c 7 : Int), .int .i64 (c 8 : Int)]
theorem cntA_at (c : Int → Nat) (k : Nat) (hk : k ≤ 8) : (cntA c)[k]? = some (.int .i64 (c (k : Int) : Int)) := by
  have : k = 0 ∨ k = 1 ∨ k = 2 ∨ k = 3 ∨ k = 4 ∨ k = 5 ∨ k = 6 ∨ k = 7 ∨ k = 8 := by omega
  rcases this with rfl | rfl | rfl | rfl | rfl | rfl | rfl | rfl | rfl <;> rfl
theorem cntA_set (c : Int → Nat) (k : Nat) (hk : k ≤ 8) : (cntA c).setIfInBounds k (.int .i64 ((c (k : Int) : Int) + 1)) = cntA (bump c (k : Int)) := by
  have : k = 0 ∨ k = 1 ∨ k = 2 ∨ k = 3 ∨ k = 4 ∨ k = 5 ∨ k = 6 ∨ k = 7 ∨ k = 8 := by omega
  rcases this with rfl | rfl | rfl | rfl | rfl | rfl | rfl | rfl | rfl <;> simp [cntA, bump]
theorem cntA_one (c : Int → Nat) : (cntA c).all (·.oneCell') = true := by simp [cntA, Value.oneCell']
theorem idx_cnt0 {W : World} {p k : Nat} (hk : k < 9) : (Instr.indexAt 107 (.pointer (some ⟨p, 0, none⟩)) (.int .i64 (k : Int))).run Tryz.prog W = .ok (.pointer (some ⟨p, k, none⟩)) W := by
  have hsz : (Tryz.prog.info? 3).map (·.size) = some 1 := by kernel_rfl
  cases hq : Tryz.prog.info? 3 with
  | none => simp [hq] at hsz
  | some i =>
    simp only [hq, Option.map_some, Option.some.injEq] at hsz
    simp [Instr.indexAt, run_underlying Tryz.underlying107, Instr.sureAddr, asIntOf, sizeOf, typeInfo, hq, hsz, Addr.add, hk]
    try exact fun h => h.symm
theorem cut3 {P T : Nat → Nat → World → Prop} {G : Prop} (h1 : (∀ a b W, P a b W → T a b W) → G) (h2 : ∀ a b W, P a b W → T a b W) : G := h1 h2
structure HeSt (w W : World) (km pc : Nat) (S : HouV) (l : List NoteV) (xs : List LN) (q : Nat) (GK : Nm → Option LN) (fr : List NoteV) (c : Int → Nat) (fa : Option Addr) (fc : Nat) (ys : List LN) : Prop where
  bel : Below w.heap.size w W
  go : hearGo S.l [] S.c l = hearGo S.l fr c (l.drop q)
  nms : NmsOk (S.l ++ fr) c
  nd : ((S.l ++ fr).map nmOf).Nodup
  map : MapF LN.val W km (S.l.length + fr.length) GK
  gs : ∀ k x, GK k = some x → x.n ∈ S.l ++ fr ∧ x.nm = k
  ok : ∀ k x, GK k = some x → ∀ W', Below w.heap.size w W' → x.ok W'
  gl : ∀ n ∈ S.l ++ fr, ∃ x, GK (nmOf n) = some x ∧ x.n = n
  cnt : W.heap[pc]? = some (.cells (cntA c) 107 (0, 0))
  own : W.ownsRow w.heap.size 47 19 (.slice fa fr.length fc) fr.length (lnCells ys)
  eq : ys.map LN.n = fr
  mem : ∀ y ∈ ys, y ∈ xs
  km_ge : w.heap.size ≤ km
  pc_ge : w.heap.size ≤ pc
  fl : fr.length ≤ q
section
variable {w W W' : World} {km pc : Nat} {S : HouV} {l : List NoteV} {xs : List LN} {q : Nat} {GK : Nm → Option LN} {fr : List NoteV} {c : Int → Nat} {fa : Option Addr} {fc : Nat} {ys : List LN}
theorem HeSt.below (h : HeSt w W km pc S l xs q GK fr c fa fc ys) (hb : Below W.heap.size W W') : HeSt w W' km pc S l xs q GK fr c fa fc ys :=
  ⟨h.bel.trans (hb.mono h.bel.size), h.go, h.nms, h.nd, h.map.below hb, h.gs, h.ok, h.gl, below_blk hb h.cnt, own_below h.own hb, h.eq, h.mem, h.km_ge, h.pc_ge, h.fl⟩
theorem HeSt.known (h : HeSt w W km pc S l xs q GK fr c fa fc ys) {n : NoteV} {x : LN} (hx : GK (nmOf n) = some x) : knownBy (S.l ++ fr) n = some x.n := by
  obtain ⟨h1, h2⟩ := h.gs _ x hx
  cases hk : knownBy (S.l ++ fr) n with
  | none => exact absurd h2 (knownBy_none hk x.n h1)
  | some o =>
    obtain ⟨h3, h4⟩ := knownBy_some hk
    rw [nodup_inj h.nd h3 h1 (h4.trans h2.symm)]
theorem HeSt.unknown (h : HeSt w W km pc S l xs q GK fr c fa fc ys) {n : NoteV} (hx : GK (nmOf n) = none) : knownBy (S.l ++ fr) n = none :=
  knownBy_no fun y hy e => by
    obtain ⟨x, h1, _⟩ := h.gl y hy
    rw [e, hx] at h1
    cases h1
theorem HeSt.skip (h : HeSt w W km pc S l xs q GK fr c fa fc ys) {n : NoteV} (hn : l[q]? = some n) (hk : (∃ o, knownBy (S.l ++ fr) n = some o ∧ sameB o n = true) ∨ (knownBy (S.l ++ fr) n = none ∧ (c n.house : Int) + 1 < n.num)) : HeSt w W km pc S l xs (q + 1) GK fr c fa fc ys := by
  refine ⟨h.bel, ?_, h.nms, h.nd, h.map, h.gs, h.ok, h.gl, h.cnt, h.own, h.eq, h.mem, h.km_ge, h.pc_ge, Nat.le_succ_of_le h.fl⟩
  rw [h.go, drop_at hn, hearGo]
  rcases hk with ⟨o, h1, h2⟩ | ⟨h1, h2⟩
  · rw [h1]
    simp only
    rw [if_pos h2]
  · rw [h1]
    simp only
    rw [if_pos h2]
theorem HeSt.fork (h : HeSt w W km pc S l xs q GK fr c fa fc ys) {n o : NoteV} (hn : l[q]? = some n) (h1 : knownBy (S.l ++ fr) n = some o) (h2 : sameB o n = false) : hearGo S.l [] S.c l = none := by
  rw [h.go, drop_at hn, hearGo, h1]
  simp only
  rw [if_neg (by rw [h2]; decide)]
theorem HeSt.add {x : LN} {a' : Option Addr} {c' : Nat} (h : HeSt w W km pc S l xs q GK fr c fa fc ys) (hn : l[q]? = some x.n) (hx : x ∈ xs) (h1 : knownBy (S.l ++ fr) x.n = none) (h2 : ¬ (c x.n.house : Int) + 1 < x.n.num) (hnum : 1 ≤ x.n.num) (hok : ∀ W', Below w.heap.size w W' → x.ok W')
    (hbel : Below w.heap.size w W') (hm : MapF LN.val W' km (S.l.length + fr.length + 1) (updF GK (nmOf x.n) x)) (hc : W'.heap[pc]? = some (.cells (cntA (bump c x.n.house)) 107 (0, 0)))
    (ho : W'.ownsRow w.heap.size 47 19 (.slice a' (fr.length + 1) c') (fr.length + 1) (lnCells ys ++ x.n.cells x.sa x.sc)) : HeSt w W' km pc S l xs (q + 1) (updF GK (nmOf x.n) x) (fr ++ [x.n]) (bump c x.n.house) a' c' (ys ++ [x]) := by
  have hfree := knownBy_none h1
  have hlt := h.nms.free hnum hfree
  refine ⟨hbel, ?_, ?_, ?_, ?_, fun k y hy => ?_, fun k y hy => ?_, fun y hy => ?_, hc, ?_, ?_, fun y hy => ?_, h.km_ge, h.pc_ge, ?_⟩
  · rw [h.go, drop_at hn, hearGo, h1]
    simp only
    rw [if_neg h2]
  · rw [← List.append_assoc]
    exact h.nms.add (by omega)
  · rw [← List.append_assoc, List.map_append]
    refine List.nodup_append.2 ⟨h.nd, by simp, fun a ha b hb e => ?_⟩
    rw [List.map_singleton, List.mem_singleton] at hb
    obtain ⟨y, hy, rfl⟩ := List.mem_map.1 ha
    exact hfree y hy (e.trans hb)
  · rw [List.length_append, List.length_singleton, ← Nat.add_assoc]
    exact hm
  · rw [← List.append_assoc]
    unfold updF at hy
    split at hy
    · rename_i e
      cases hy
      exact ⟨List.mem_append_right _ (by simp), e.symm⟩
    · obtain ⟨h3, h4⟩ := h.gs k y hy
      exact ⟨List.mem_append_left _ h3, h4⟩
  · unfold updF at hy
    split at hy
    · cases hy; exact hok
    · exact h.ok k y hy
  · rw [← List.append_assoc] at hy
    rcases List.mem_append.1 hy with hy | hy
    · obtain ⟨z, h3, h4⟩ := h.gl y hy
      refine ⟨z, ?_, h4⟩
      unfold updF
      rw [if_neg (hfree y hy)]
      exact h3
    · rw [List.mem_singleton.1 hy]
      exact ⟨x, by unfold updF; rw [if_pos rfl], rfl⟩
  · rw [lnCells_snoc, List.length_append, List.length_singleton]
    exact ho
  · rw [List.map_append, h.eq]; rfl
  · rcases List.mem_append.1 hy with hy | hy
    · exact h.mem y hy
    · rw [List.mem_singleton.1 hy]; exact hx
  · rw [List.length_append, List.length_singleton]
    have := h.fl
    omega
end
def HearRet (w : World) (p mb sp : Nat) (G : Nm → Option LN) (SF : Nat → Prop) (S : HouV) (l : List NoteV) (e : Ending) (W : World) : Prop :=
  e = .returned (.tuple #[.int .i64 (hearP S l).2.1, .int .i64 (hearP S l).2.2]) ∧ ∃ G' SF', HouAt W p mb sp G' SF' (hearP S l).1 ∧ Same (houF p mb G SF) w W ∧ ∀ k, houF p mb G' SF' k → houF p mb G SF k ∨ w.heap.size ≤ k

section
attribute [local go_sem] noteA_0 noteA_1
set_option maxHeartbeats 32000000 in
set_option maxRecDepth 100000 in
theorem hhear_any (p mb sp : Nat) (G : Nm → Option LN) (SF : Nat → Prop) (S : HouV) (a : Option Addr) (nn nc : Nat) (l : List NoteV) (xs : List LN) (w : World) (hh : HouAt w p mb sp G SF S) (hi : HInv S) (hxs : xs.map LN.n = l)
    (hr : ∀ W, Same (houF p mb G SF) w W → RdLs W a nn nc xs) (hok : ∀ x ∈ l, x.Ok) (hlen : S.l.length + nn ≤ 400) :
    Calls Tryz.prog 13 #[.pointer (some ⟨p, 0, none⟩), .slice a nn nc] w fun e w' => HearRet w p mb sp G SF S l e w' := by
  have I43 := Lib.hid (show ∀ (m : NoteV) (a : Option Addr) (c : Nat), (Tryz.prog.info? 47).map (·.size) = some (noteA m a c).size from fun m a c => by kernel_rfl)
  have J19 : (Tryz.prog.info? 47).map (·.size) = some 19 := by kernel_rfl
  have hmf : ∀ (fn : Fn) (first cap : Array Value) (w : World), (Instr.makeFunc fn first cap).run Tryz.prog w = .ok (.func fn first cap) w := fun _ _ _ _ => rfl
  have HH := Lib.hid hh
  have HI := Lib.hid hi
  have HXS := Lib.hid hxs
  have HR := Lib.hid hr
  have RL := Lib.hid (hr w (Same.of_below (Below.refl _ _)))
  have LNX : Hid (xs.length = nn) := Lib.hid (hr w (Same.of_below (Below.refl _ _))).1
  have HLN : Hid (l.length = nn) := Lib.hid (by rw [← hxs, List.length_map]; exact (hr w (Same.of_below (Below.refl _ _))).1)
  have LOK := Lib.hid (show ∀ W, Below w.heap.size w W → ∀ x ∈ xs, x.ok W from fun W hb x hx => (ls_ok (hr w (Same.of_below (Below.refl _ _))) hx).below hb)
  have HOK := Lib.hid hok
  have HLEN := Lib.hid hlen
  have hn4 : (nn : Int) ≤ 9223372036854775807 := by omega
  have B0 := Lib.hid ((Below.refl w.heap.size w).alloc (Nat.le_refl _) (.cells #[.pointer (some ⟨p, 0, none⟩)] 27))
  have P0 := Lib.hid (heap_last w (.cells #[.pointer (some ⟨p, 0, none⟩)] 27))
  have H0 := Lib.hid (hh.below B0.out)
  clear hh hi hxs hr hok hlen
  go_enter Tryz.func13, Tryz.ntmps13
  go_upto_region 1 with fail
  obtain ⟨pB, hpB⟩ : ∃ q, Hid (w.heap.size = q) := ⟨_, Lib.hid rfl⟩
  rw [hpB.out] at P0
  rw [hpB.out]
  generalize w.alloc (.cells #[.pointer (some ⟨p, 0, none⟩)] 27) = w0 at *
  have cB := cell_of P0.out 0 (.pointer (some ⟨p, 0, none⟩)) rfl
  go_wp2_with fail
  refine (made_any w0 p mb sp S.f S.id S.c H0.out.blk).mono ?_
  rintro e w1 ⟨rfl, rfl⟩
  go_wp2_with fail
  refine (containsL_any xs (fun x => !decide (checkN S.f x.n = 0)) 55 (.pointer (some ⟨pB, 0, none⟩)) hear1_fn a nn nc w1 (RL.out.below B0.out) (fun x hx W hb => hear1_any S.f S.id mb sp p pB S.c x.n x.sa x.sc W (below_blk hb P0.out) (below_blk hb H0.out.blk) (LOK.out W (B0.out.trans (hb.mono B0.out.size)) x hx))).mono ?_
  rintro e w2 ⟨rfl, b2⟩
  have B2 := Lib.hid (B0.out.trans (b2.mono B0.out.size))
  have P2 := Lib.hid (below_blk b2 P0.out)
  have H2 := Lib.hid (HH.out.below B2.out)
  have ANY : Hid ((xs.any fun x => !decide (checkN S.f x.n = 0)) = l.any (fun n => !decide (checkN S.f n = 0))) := Lib.hid (by rw [← HXS.out, List.any_map]; rfl)
  rw [ANY.out]
  clear b2 cB B0 P0 H0 hmf
  have UNCH := Lib.hid (show ∀ W, Below w.heap.size w W → ∃ G' SF', HouAt W p mb sp G' SF' S ∧ Same (houF p mb G SF) w W ∧ ∀ k, houF p mb G' SF' k → houF p mb G SF k ∨ w.heap.size ≤ k from fun W hb => ⟨G, SF, HH.out.below hb, Same.of_below hb, fun k hk => .inl hk⟩)
  have RL2 := Lib.hid (RL.out.below B2.out)
  have LOK2 := Lib.hid (show ∀ W, Below w2.heap.size w2 W → ∀ x ∈ xs, x.ok W from fun W hb => LOK.out W (B2.out.trans (hb.mono B2.out.size)))
  have UNCH2 := Lib.hid (show ∀ W, Below w2.heap.size w2 W → ∃ G' SF', HouAt W p mb sp G' SF' S ∧ Same (houF p mb G SF) w W ∧ ∀ k, houF p mb G' SF' k → houF p mb G SF k ∨ w.heap.size ≤ k from fun W hb => UNCH.out W (B2.out.trans (hb.mono B2.out.size)))
  cases hbad : l.any (fun n => !decide (checkN S.f n = 0))
  case true =>
    have HE := Lib.hid (hearP_bad hbad)
    clear hbad
    go_wp2_with fail
    go_returns
    exact ⟨by rw [HE.out] <;> rfl, by rw [HE.out]; exact UNCH.out _ B2.out⟩
  have GOOD := Lib.hid hbad
  have FRM := Lib.hid (check_formed HI.out.v hbad)
  clear hbad
  go_upto_region 5 with fail
  apply cut3 (P := fun km pc W => Hid (Below w2.heap.size w2 W ∧ MapF LN.val W km S.l.length G ∧ W.heap[pc]? = some (.cells (cntA S.c) 107 (0, 0)) ∧ w2.heap.size ≤ km ∧ w2.heap.size ≤ pc))
  · intro REST
    refine wp_region_noPanic ?_
    refine wp_region_held_drew (S := fun w' => Below w2.heap.size w2 w') (by kernel_rfl) (show Below w2.heap.size w2 w2.drew from (Below.refl _ _).drew) (fun hHeld => ?_)
    have HB0 := Lib.hid (show Below w2.heap.size w2 w2.drew from (Below.refl _ _).drew)
    generalize w2.drew = V0 at *
    refine wpAnyH_take (i := 0) (v := .pointer (some ⟨p, 0, none⟩)) rfl (by kernel_rfl) (by kernel_rfl) (by kernel_rfl) (fun _ _ _ h => h) (Or.inl ⟨by kernel_rfl, by intro W h; have hc := cell_of (below_blk h P2.out) 0 (.pointer (some ⟨p, 0, none⟩)) rfl; go_simp⟩) (by assumption) ?_
    try simp only [Act.put, lq0, lq1, lq2, lq3, lq4, lq5]
    refine wpAnyH_take (i := 1) (v := .pointer (some ⟨p, 0, none⟩)) rfl (by kernel_rfl) (by kernel_rfl) (by kernel_rfl) (fun _ _ _ h => h) (Or.inl ⟨by kernel_rfl, by intro W _; go_simp⟩) (by assumption) ?_
    try simp only [Act.put, lq0, lq1, lq2, lq3, lq4, lq5]
    refine wpAnyH_take (i := 2) (v := .pointer (some ⟨p, 4, none⟩)) rfl (by kernel_rfl) (by kernel_rfl) (by kernel_rfl) (fun _ _ _ h => h) (Or.inl ⟨by kernel_rfl, by intro W _; go_simp⟩) (by assumption) ?_
    try simp only [Act.put, lq0, lq1, lq2, lq3, lq4, lq5]
    refine wpAnyH_take (i := 3) (v := .map (some mb)) rfl (by kernel_rfl) (by kernel_rfl) (by kernel_rfl) (fun _ _ _ h => h) (Or.inl ⟨by kernel_rfl, by intro W h; have hc := cell_of (below_blk h H2.out.blk) 4 (.map (some mb)) rfl; go_simp⟩) (by assumption) ?_
    try simp only [Act.put, lq0, lq1, lq2, lq3, lq4, lq5]
    refine wpAnyH_take (i := 5) (v := .pointer (some ⟨p, 0, none⟩)) rfl (by kernel_rfl) (by kernel_rfl) (by kernel_rfl) (fun _ _ _ h => h) (Or.inl ⟨by kernel_rfl, by intro W h; have hc := cell_of (below_blk h P2.out) 0 (.pointer (some ⟨p, 0, none⟩)) rfl; go_simp⟩) (by assumption) ?_
    try simp only [Act.put, lq0, lq1, lq2, lq3, lq4, lq5]
    refine wpAnyH_take (i := 6) (v := .pointer (some ⟨p, 0, none⟩)) rfl (by kernel_rfl) (by kernel_rfl) (by kernel_rfl) (fun _ _ _ h => h) (Or.inl ⟨by kernel_rfl, by intro W _; go_simp⟩) (by assumption) ?_
    try simp only [Act.put, lq0, lq1, lq2, lq3, lq4, lq5]
    refine wpAnyH_take (i := 7) (v := .pointer (some ⟨p, 5, none⟩)) rfl (by kernel_rfl) (by kernel_rfl) (by kernel_rfl) (fun _ _ _ h => h) (Or.inl ⟨by kernel_rfl, by intro W _; go_simp⟩) (by assumption) ?_
    try simp only [Act.put, lq0, lq1, lq2, lq3, lq4, lq5]
    refine wpAnyH_take (i := 8) (v := .agg (cntA S.c)) rfl (by kernel_rfl) (by kernel_rfl) (by kernel_rfl) (fun _ _ _ h => h) (yields_mid2 (by kernel_rfl) 107 _ rfl p 5 rfl [.int .i64 (S.c 0 : Int), .int .i64 (S.c 1 : Int), .int .i64 (S.c 2 : Int), .int .i64 (S.c 3 : Int), .int .i64 (S.c 4 : Int), .int .i64 (S.c 5 : Int), .int .i64 (S.c 6 : Int), .int .i64 (S.c 7 : Int), .int .i64 (S.c 8 : Int)] _ (fun W h => hou_cnts (below_blk h H2.out.blk)) Tryz.underlying107 rfl (by kernel_rfl)) (by assumption) ?_
    try simp only [Act.put, lq0, lq1, lq2, lq3, lq4, lq5]
    refine wpAnyH_ready (rs := [4, 9]) (by kernel_rfl) (by simp) ?_
    refine AllReadyH.cons rfl (fun K hK => ?_) ?_
    · go_simp
      go_at_call 57
      refine (mapsClone_any mb S.l.length G V0 (H2.out.map.below HB0.out)).mono ?_
      rintro e V1 ⟨rfl, hm, b1⟩
      have KGE : Hid (w2.heap.size ≤ V0.heap.size) := Lib.hid HB0.out.size
      obtain ⟨km, hkm⟩ : ∃ z, Hid (V0.heap.size = z) := ⟨_, Lib.hid rfl⟩
      have HB1 := Lib.hid (HB0.out.trans (b1.mono HB0.out.size))
      clear b1
      rw [hkm.out] at hm KGE
      rw [hkm.out]
      have HM1 := Lib.hid hm
      clear hm
      dsimp only
      refine hK.out _ _ HB1.out (fun hHeld => ?_)
      clear hK K
      try simp only [Act.put, lq0, lq1, lq2, lq3, lq4, lq5]
      refine wpAnyH_ready (rs := [9]) (by kernel_rfl) (by simp) ?_
      refine AllReadyH.cons rfl (fun K hK => ?_) AllReadyH.nil
      have bz : Below V1.heap.size V1 (V1.alloc (.cells #[.int .i64 0, .int .i64 0, .int .i64 0, .int .i64 0, .int .i64 0, .int .i64 0, .int .i64 0, .int .i64 0, .int .i64 0] 107)) := (Below.refl _ _).alloc (Nat.le_refl _) _
      have HB2 := Lib.hid (HB1.out.trans (bz.mono HB1.out.size))
      have HP2 := Lib.hid (heap_last V1 (.cells #[.int .i64 0, .int .i64 0, .int .i64 0, .int .i64 0, .int .i64 0, .int .i64 0, .int .i64 0, .int .i64 0, .int .i64 0] 107))
      have CGE : Hid (w2.heap.size ≤ V1.heap.size) := Lib.hid HB1.out.size
      have HM2 := Lib.hid (HM1.out.below bz)
      clear bz
      go_simp
      obtain ⟨pc, hpc⟩ : ∃ z, Hid (V1.heap.size = z) := ⟨_, Lib.hid rfl⟩
      rw [hpc.out] at HP2 CGE
      rw [hpc.out]
      generalize V1.alloc (.cells #[.int .i64 0, .int .i64 0, .int .i64 0, .int .i64 0, .int .i64 0, .int .i64 0, .int .i64 0, .int .i64 0, .int .i64 0] 107) = V2 at *
      refine hK.out _ _ HB2.out (fun hHeld => ?_)
      clear hK K
      try simp only [Act.put, lq0, lq1, lq2, lq3, lq4, lq5]
      refine wpAnyH_take (i := 10) (v := .map (some km)) rfl (by kernel_rfl) (by kernel_rfl) (by kernel_rfl) (fun _ _ _ h => h) (Or.inl ⟨by kernel_rfl, by intro W _; go_simp⟩) (by assumption) ?_
      try simp only [Act.put, lq0, lq1, lq2, lq3, lq4, lq5]
      refine wpAnyH_ready (rs := [11]) (by kernel_rfl) (by simp) ?_
      refine AllReadyH.cons rfl (fun K hK => ?_) AllReadyH.nil
      rw [if_pos (by kernel_rfl)]
      refine oper_store_blk 107 _ _ rfl pc #[.int .i64 0, .int .i64 0, .int .i64 0, .int .i64 0, .int .i64 0, .int .i64 0, .int .i64 0, .int .i64 0, .int .i64 0] (cntA S.c) 107 rfl rfl HP2.out (by kernel_rfl) rfl (cntA_one _) ?_
      intro V3 h8 hg8 hs8
      have KPC : Hid (km ≠ pc) := Lib.hid (fun e => by
        obtain ⟨es, cl, h9⟩ := HM2.out.blk
        rw [e, HP2.out] at h9
        cases h9)
      have HB3 := Lib.hid (HB2.out.grown hg8 HB2.out.size (fun q hq => by cases hq; exact CGE.out))
      have HM3 := Lib.hid (HM2.out.kept hg8 (fun e => absurd (Option.some.inj e) KPC.out))
      have HP3 := Lib.hid h8
      clear h8 hg8 hs8
      simp only [Act.put, lq0, lq1, lq2]
      refine hK.out _ _ HB3.out (fun hHeld => ?_)
      clear hK K
      try simp only [Act.put, lq0, lq1, lq2, lq3, lq4, lq5]
      refine wpAnyH_done (by kernel_rfl) ?_ _
      refine NoPanic.normal ?_
      exact REST km pc V3 (Lib.hid ⟨HB3.out, HM3.out, HP3.out, KGE.out, CGE.out⟩)
    refine AllReadyH.cons rfl (fun K hK => ?_) AllReadyH.nil
    have bz : Below V0.heap.size V0 (V0.alloc (.cells #[.int .i64 0, .int .i64 0, .int .i64 0, .int .i64 0, .int .i64 0, .int .i64 0, .int .i64 0, .int .i64 0, .int .i64 0] 107)) := (Below.refl _ _).alloc (Nat.le_refl _) _
    have HB1 := Lib.hid (HB0.out.trans (bz.mono HB0.out.size))
    have HP1 := Lib.hid (heap_last V0 (.cells #[.int .i64 0, .int .i64 0, .int .i64 0, .int .i64 0, .int .i64 0, .int .i64 0, .int .i64 0, .int .i64 0, .int .i64 0] 107))
    have CGE : Hid (w2.heap.size ≤ V0.heap.size) := Lib.hid HB0.out.size
    clear bz
    go_simp
    obtain ⟨pc, hpc⟩ : ∃ z, Hid (V0.heap.size = z) := ⟨_, Lib.hid rfl⟩
    rw [hpc.out] at HP1 CGE
    rw [hpc.out]
    generalize V0.alloc (.cells #[.int .i64 0, .int .i64 0, .int .i64 0, .int .i64 0, .int .i64 0, .int .i64 0, .int .i64 0, .int .i64 0, .int .i64 0] 107) = V1 at *
    refine hK.out _ _ HB1.out (fun hHeld => ?_)
    clear hK K
    try simp only [Act.put, lq0, lq1, lq2, lq3, lq4, lq5]
    refine wpAnyH_ready (rs := [4]) (by kernel_rfl) (by simp) ?_
    refine AllReadyH.cons rfl (fun K hK => ?_) AllReadyH.nil
    go_simp
    go_at_call 57
    refine (mapsClone_any mb S.l.length G V1 (H2.out.map.below HB1.out)).mono ?_
    rintro e V2 ⟨rfl, hm, b1⟩
    have KGE : Hid (w2.heap.size ≤ V1.heap.size) := Lib.hid HB1.out.size
    obtain ⟨km, hkm⟩ : ∃ z, Hid (V1.heap.size = z) := ⟨_, Lib.hid rfl⟩
    have HB2 := Lib.hid (HB1.out.trans (b1.mono HB1.out.size))
    have HP2 := Lib.hid (below_blk b1 HP1.out)
    clear b1
    rw [hkm.out] at hm KGE
    rw [hkm.out]
    have HM2 := Lib.hid hm
    clear hm
    dsimp only
    refine hK.out _ _ HB2.out (fun hHeld => ?_)
    clear hK K
    try simp only [Act.put, lq0, lq1, lq2, lq3, lq4, lq5]
    refine wpAnyH_take (i := 10) (v := .map (some km)) rfl (by kernel_rfl) (by kernel_rfl) (by kernel_rfl) (fun _ _ _ h => h) (Or.inl ⟨by kernel_rfl, by intro W _; go_simp⟩) (by assumption) ?_
    try simp only [Act.put, lq0, lq1, lq2, lq3, lq4, lq5]
    refine wpAnyH_ready (rs := [11]) (by kernel_rfl) (by simp) ?_
    refine AllReadyH.cons rfl (fun K hK => ?_) AllReadyH.nil
    rw [if_pos (by kernel_rfl)]
    refine oper_store_blk 107 _ _ rfl pc #[.int .i64 0, .int .i64 0, .int .i64 0, .int .i64 0, .int .i64 0, .int .i64 0, .int .i64 0, .int .i64 0, .int .i64 0] (cntA S.c) 107 rfl rfl HP2.out (by kernel_rfl) rfl (cntA_one _) ?_
    intro V3 h8 hg8 hs8
    have KPC : Hid (km ≠ pc) := Lib.hid (fun e => by
      obtain ⟨es, cl, h9⟩ := HM2.out.blk
      rw [e, HP2.out] at h9
      cases h9)
    have HB3 := Lib.hid (HB2.out.grown hg8 HB2.out.size (fun q hq => by cases hq; exact CGE.out))
    have HM3 := Lib.hid (HM2.out.kept hg8 (fun e => absurd (Option.some.inj e) KPC.out))
    have HP3 := Lib.hid h8
    clear h8 hg8 hs8
    simp only [Act.put, lq0, lq1, lq2]
    refine hK.out _ _ HB3.out (fun hHeld => ?_)
    clear hK K
    try simp only [Act.put, lq0, lq1, lq2, lq3, lq4, lq5]
    refine wpAnyH_done (by kernel_rfl) ?_ _
    refine NoPanic.normal ?_
    exact REST km pc V3 (Lib.hid ⟨HB3.out, HM3.out, HP3.out, KGE.out, CGE.out⟩)
  intro km pc W5 QQ
  have HS0 : Hid (HeSt w2 W5 km pc S l xs 0 G [] S.c none 0 []) := Lib.hid ⟨QQ.out.1, by rw [List.drop_zero], by rw [List.append_nil]; exact HI.out.nms, by rw [List.append_nil]; exact set_nodup HI.out.srt, QQ.out.2.1, by rw [List.append_nil]; exact HH.out.gs,
    fun k x hx W' hb => LN.ok.below (x := x) (RdA.of_own (H2.out.str k x hx)) hb, by rw [List.append_nil]; exact HH.out.gl, QQ.out.2.2.1, World.ownsRow_nil _ _ _ _, rfl, (fun y hy => by cases hy), QQ.out.2.2.2.1, QQ.out.2.2.2.2, Nat.le_refl _⟩
  clear QQ
  go_wp2_with fail
  go_loopw [8, 32] (fun fv iv wr => ∃ (q : Nat) (GK : Nm → Option LN) (fr : List NoteV) (c : Int → Nat) (fa : Option Addr) (fc : Nat) (ys : List LN), fv = .slice fa fr.length fc ∧ iv = .int .i64 (q : Int) ∧ q ≤ nn ∧ Hid (HeSt w2 wr km pc S l xs q GK fr c fa fc ys)) (fun _ iv _ => nn - (intOf iv).toNat)
  case atStart => exact ⟨0, G, [], S.c, none, 0, [], rfl, rfl, Nat.zero_le _, HS0⟩
  case round =>
    clear HS0
    obtain ⟨q, GK, fr, c, fa, fc, ys, rfl, rfl, hq, HS⟩ := hrel
    by_cases hlt : q < nn
    · have t0 : decide ((q : Int) < (nn : Int)) = true := by simp; omega
      obtain ⟨x, Hx⟩ : ∃ x, xs[q]? = some x := ⟨_, List.getElem?_eq_getElem (by rw [LNX.out]; exact hlt)⟩
      have HLX := Lib.hid (show l[q]? = some x.n by rw [← HXS.out, List.getElem?_map, Hx]; rfl)
      have XM := Lib.hid (List.mem_of_getElem? Hx)
      have XF := Lib.hid (FRM.out x.n (List.mem_of_getElem? HLX.out))
      have XO := Lib.hid (HOK.out x.n (List.mem_of_getElem? HLX.out))
      have NOK : Hid (nmOk (x.n.house, x.n.num)) := Lib.hid ⟨XO.out.house, XO.out.num⟩
      obtain ⟨b, off, rfl, hat⟩ := (RL2.out.below HS.out.bel).at (by omega)
      obtain ⟨o, ho⟩ : ∃ o, Hid (off + q * 19 = o) := ⟨_, Lib.hid rfl⟩
      have HX := Lib.hid (hat q x Hx).1
      rw [ho.out] at HX
      have hix := fun W => idx_off (W := W) (c := nc) (b := b) Tryz.underlying24 J19 hlt ho.out
      have HK64 : Hid ((q : Int) + 1 ≤ 9223372036854775807) := Lib.hid (by have := HLEN.out; omega)
      clear hat Hx
      go_upto_region 10 with (first
        | (refine wpList_load_mid rfl 47 _ rfl b o rfl (x.n.cells x.sa x.sc) _ HX.out Tryz.underlying47 rfl (size43 x.n x.sa x.sc) ?_)
        | (refine wpList_store_newp wr rfl 47 _ _ rfl wr.heap.size rfl _ (noteA x.n x.sa x.sc) rfl rfl (I43.out _ _ _) rfl (noteA_one x.n x.sa x.sc) ?_))
      clear hix t0
      have bt : Below wr.heap.size wr (wr.alloc (.cells (noteA x.n x.sa x.sc) 47)) := (Below.refl _ _).alloc (Nat.le_refl _) _
      have HT := Lib.hid (HS.out.below bt)
      have N10 := Lib.hid (heap_last wr (.cells (noteA x.n x.sa x.sc) 47))
      have GE10 : Hid (w2.heap.size ≤ wr.heap.size) := Lib.hid HS.out.bel.size
      have KM10 : Hid (km < wr.heap.size ∧ pc < wr.heap.size) := Lib.hid ⟨HS.out.map.lt, blk_lt HS.out.cnt⟩
      obtain ⟨p10, hp10⟩ : ∃ z, Hid (wr.heap.size = z) := ⟨_, Lib.hid rfl⟩
      rw [hp10.out] at N10 GE10 KM10
      rw [hp10.out]
      generalize wr.alloc (.cells (noteA x.n x.sa x.sc) 47) = wt at *
      clear bt HS HX
      go_wp2_with (first
        | (refine wpList_load_row rfl 47 _ rfl p10 rfl 47 (noteA x.n x.sa x.sc) (0, 0) _ N10.out Tryz.underlying47 rfl (I43.out _ _ _) ?_))
      refine (nameOf2_any x.n x.sa x.sc wt).mono ?_
      rintro e w6 ⟨rfl, b6⟩
      have HT6 := Lib.hid (HT.out.below b6)
      have N6 := Lib.hid (below_blk b6 N10.out)
      clear b6 HT N10
      cases hgk : GK (x.n.house, x.n.num) with
      | some y =>
        have hget : (Instr.lookup 106 (.map (some km)) (.agg #[.int .i64 x.n.house, .int .i64 x.n.num]) true).run Tryz.prog w6 = .ok (.tuple #[.agg (noteA y.n y.sa y.sc), .bool true]) w6 := by
          have := run_get_nm (t := 106) HT6.out.map Tryz.underlying106 (zero_note w6) x.n.house x.n.num NOK.out
          rw [hgk] at this; exact this
        have KB := Lib.hid (HT6.out.known (n := x.n) hgk)
        have YM := Lib.hid (HT6.out.gs _ y hgk).1
        have YK := Lib.hid (HT6.out.ok _ y hgk)
        have YF : Hid (formedB S.f y.n = true) := Lib.hid (by
          rcases List.mem_append.1 YM.out with h | h
          · exact HI.out.frm _ h
          · rw [← HT6.out.eq] at h
            obtain ⟨z, hz, hz2⟩ := List.mem_map.1 h
            rw [← hz2]
            exact FRM.out _ (by rw [← HXS.out]; exact List.mem_map_of_mem (HT6.out.mem z hz)))
        clear hgk
        go_upto_region 14 with (first
          | (refine wpList_store_newp w6 rfl 47 _ _ rfl w6.heap.size rfl _ (noteA y.n y.sa y.sc) rfl rfl (I43.out _ _ _) rfl (noteA_one y.n y.sa y.sc) ?_))
        have bt : Below w6.heap.size w6 (w6.alloc (.cells (noteA y.n y.sa y.sc) 47)) := (Below.refl _ _).alloc (Nat.le_refl _) _
        have HT7 := Lib.hid (HT6.out.below bt)
        have N7 := Lib.hid (below_blk bt N6.out)
        have M7 := Lib.hid (heap_last w6 (.cells (noteA y.n y.sa y.sc) 47))
        obtain ⟨p11, hp11⟩ : ∃ z, Hid (w6.heap.size = z) := ⟨_, Lib.hid rfl⟩
        rw [hp11.out] at M7
        rw [hp11.out]
        generalize w6.alloc (.cells (noteA y.n y.sa y.sc) 47) = w7 at *
        clear bt hget HT6 N6
        go_wp2_with (first
          | (refine wpList_load_rowG ?hw 47 _ rfl p11 rfl 47 (noteA y.n y.sa y.sc) (0, 0) _ M7.out Tryz.underlying47 rfl (I43.out _ _ _) ?_; case hw => kernel_rfl)
          | (refine wpList_load_rowG ?hw 47 _ rfl p10 rfl 47 (noteA x.n x.sa x.sc) (0, 0) _ N7.out Tryz.underlying47 rfl (I43.out _ _ _) ?_; case hw => kernel_rfl))
        refine (same2_any S.f HI.out.v y.n x.n y.sa y.sc x.sa x.sc w7 (YK.out w7 HT7.out.bel) (LOK2.out w7 HT7.out.bel x XM.out) YF.out XF.out).mono ?_
        rintro e w8 ⟨rfl, b8⟩
        have HT8 := Lib.hid (HT7.out.below b8)
        have N8 := Lib.hid (below_blk b8 N7.out)
        clear b8 HT7 N7 M7
        cases hsame : sameB y.n x.n
        case false =>
          have HG := Lib.hid (HT8.out.fork HLX.out KB.out hsame)
          have HE := Lib.hid (hearP_fork GOOD.out HG.out)
          clear hsame
          go_wp2_with fail
          go_returns
          exact ⟨by rw [HE.out] <;> rfl, by rw [HE.out]; exact UNCH2.out _ HT8.out.bel⟩
        case true =>
          have HN := Lib.hid (HT8.out.skip HLX.out (.inl ⟨_, KB.out, hsame⟩))
          clear hsame HT8
          go_upto_region 16 with fail
          have hC0 : Below w8.heap.size w8 w8.drew := (Below.refl _ _).drew
          try simp only [Act.put, lq3, lq4, lq5]
          refine wp_region_quiet (C := fun w' : World => Below w8.heap.size w8 w') (by kernel_rfl) (by kernel_rfl) hC0 ?_
          show wpQuiet _ _ _ _ (_ :: _) _
          go_big_quiet_want
          go_big_quiet_op
          go_big_quiet_on
          go_big_quiet_want
          go_big_quiet_op
          go_big_quiet_on
          go_big_quiet_skip
          go_big_quiet_skip
          go_big_quiet_skip
          go_big_quiet_skip
          go_big_quiet_skip
          go_big_quiet_skip
          go_big_quiet_skip
          go_big_quiet_skip
          go_big_quiet_want
          refine ⟨.bool true, fun w0 hC => ?_, ?_⟩
          · clear hC
            go_simp
          simp only [Act.put, lq3, lq4, lq5]
          go_big_quiet_on
          go_big_quiet_want
          go_big_quiet_op
          go_big_quiet_on
          refine wpQuiet_nil ?_
          intro w' hC
          have HN2 := Lib.hid (HN.out.below hC)
          clear hC HN
          have hk64 := HK64.out
          go_wp2_with fail
          go_roundw
          case rel => exact ⟨q + 1, GK, fr, c, fa, fc, ys, by go_num, by go_num, by omega, HN2⟩
          case measure => simp [intOf]; omega
      | none =>
        have hget : (Instr.lookup 106 (.map (some km)) (.agg #[.int .i64 x.n.house, .int .i64 x.n.num]) true).run Tryz.prog w6 = .ok (.tuple #[.agg (noteA zeroN none 0), .bool false]) w6 := by
          have := run_get_nm (t := 106) HT6.out.map Tryz.underlying106 (zero_note w6) x.n.house x.n.num NOK.out
          rw [hgk] at this; exact this
        have KB := Lib.hid (HT6.out.unknown (n := x.n) hgk)
        clear hgk
        go_upto_region 14 with (first
          | (refine wpList_store_newp w6 rfl 47 _ _ rfl w6.heap.size rfl _ (noteA zeroN none 0) rfl rfl (I43.out _ _ _) rfl (noteA_one zeroN none 0) ?_))
        have bt : Below w6.heap.size w6 (w6.alloc (.cells (noteA zeroN none 0) 47)) := (Below.refl _ _).alloc (Nat.le_refl _) _
        have HT7 := Lib.hid (HT6.out.below bt)
        have N7 := Lib.hid (below_blk bt N6.out)
        generalize w6.alloc (.cells (noteA zeroN none 0) 47) = w7 at *
        clear bt hget HT6 N6
        obtain ⟨k, hk, hk8⟩ : ∃ k : Nat, x.n.house = (k : Int) ∧ k ≤ 8 := ⟨x.n.house.toNat, by have := formed_house XF.out; omega, by have := formed_house XF.out; omega⟩
        have HK := Lib.hid hk
        have HK8 := Lib.hid hk8
        have XP := Lib.hid (show 1 ≤ x.n.num from (formed_house XF.out).2.2)
        have CB : Hid ((c (k : Int) : Int) + 1 ≤ 9223372036854775807) := Lib.hid (by
          have hl := HT7.out.nms.free XP.out (knownBy_none KB.out)
          have h1 := XO.out.num
          rw [hk] at hl
          unfold I64 at h1
          omega)
        have WR : Hid (IntKind.i64.wrap ((c (k : Int) : Int) + 1) = (c (k : Int) : Int) + 1) := Lib.hid (by have h9 := CB.out; rw [IntKind.wrap_i64]; omega)
        clear hk hk8
        go_upto_region 16 with fail
        have hC0 : Below w7.heap.size w7 w7.drew := (Below.refl _ _).drew
        have LN10 := Lib.hid (show ∀ w0, Below w7.heap.size w7 w0 → w0.heap[p10]? = some (.cells (noteA x.n x.sa x.sc) 47 (0, 0)) from fun w0 h => below_blk h N7.out)
        have LC := Lib.hid (show ∀ w0, Below w7.heap.size w7 w0 → w0.heap[pc]? = some (.cells (cntA c) 107 (0, 0)) from fun w0 h => below_blk h HT7.out.cnt)
        try simp only [Act.put, lq3, lq4, lq5]
        refine wp_region_quiet (C := fun w' : World => Below w7.heap.size w7 w') (by kernel_rfl) (by kernel_rfl) hC0 ?_
        show wpQuiet _ _ _ _ (_ :: _) _
        go_big_quiet_want
        go_big_quiet_op
        go_big_quiet_on
        go_big_quiet_want
        go_big_quiet_op
        go_big_quiet_on
        go_big_quiet_want
        refine ⟨.pointer (some ⟨p10, 1, none⟩), fun w0 hC => ?_, ?_⟩
        · clear hC
          go_simp
        simp only [Act.put, lq3, lq4, lq5]
        go_big_quiet_on
        go_big_quiet_want
        refine ⟨.int .i64 x.n.num, fun w0 hC => ?_, ?_⟩
        · have c1 := cell_of (LN10.out w0 hC) 1 (.int .i64 x.n.num) rfl
          clear hC
          go_simp
        simp only [Act.put, lq3, lq4, lq5]
        go_big_quiet_on
        go_big_quiet_want
        refine ⟨.pointer (some ⟨p10, 0, none⟩), fun w0 hC => ?_, ?_⟩
        · clear hC
          go_simp
        simp only [Act.put, lq3, lq4, lq5]
        go_big_quiet_on
        go_big_quiet_want
        refine ⟨.int .i64 (k : Int), fun w0 hC => ?_, ?_⟩
        · have c0 : w0.cell? ⟨p10, 0, none⟩ = some (.int .i64 (k : Int)) := by rw [← HK.out]; exact cell_of (LN10.out w0 hC) 0 (.int .i64 x.n.house) rfl
          clear hC
          go_simp
        simp only [Act.put, lq3, lq4, lq5]
        go_big_quiet_on
        go_big_quiet_want
        refine ⟨.pointer (some ⟨pc, k, none⟩), fun w0 hC => ?_, ?_⟩
        · have c0 := idx_cnt0 (W := w0) (p := pc) (k := k) (by have := HK8.out; omega)
          clear hC
          go_simp
        simp only [Act.put, lq3, lq4, lq5]
        go_big_quiet_on
        go_big_quiet_want
        refine ⟨.int .i64 (c (k : Int) : Int), fun w0 hC => ?_, ?_⟩
        · have c0 := cell_of (LC.out w0 hC) k (.int .i64 (c (k : Int) : Int)) (cntA_at c k HK8.out)
          clear hC
          go_simp
        simp only [Act.put, lq3, lq4, lq5]
        go_big_quiet_on
        go_big_quiet_want
        refine ⟨.int .i64 ((c (k : Int) : Int) + 1), fun w0 hC => ?_, ?_⟩
        · have c0 := WR.out
          clear hC
          go_simp
        simp only [Act.put, lq3, lq4, lq5]
        go_big_quiet_on
        go_big_quiet_want
        refine ⟨.bool (decide ((c (k : Int) : Int) + 1 < x.n.num)), fun w0 hC => ?_, ?_⟩
        · clear hC
          go_simp
        simp only [Act.put, lq3, lq4, lq5]
        go_big_quiet_on
        go_big_quiet_want
        refine ⟨.bool (decide ((c (k : Int) : Int) + 1 < x.n.num)), fun w0 hC => ?_, ?_⟩
        · clear hC
          go_simp
        simp only [Act.put, lq3, lq4, lq5]
        go_big_quiet_on
        go_big_quiet_want
        go_big_quiet_op
        go_big_quiet_on
        refine wpQuiet_nil ?_
        intro w' hC
        have H9 := Lib.hid (HT7.out.below hC)
        have N9 := Lib.hid (below_blk hC N7.out)
        clear hC LN10 LC HT7 N7
        generalize w' = w9 at *
        cases hgr : decide ((c (k : Int) : Int) + 1 < x.n.num)
        · have LT : Hid (¬ (c (k : Int) : Int) + 1 < x.n.num) := Lib.hid (of_decide_eq_false hgr)
          clear hgr
          go_upto_region 11 with fail
          refine wp_region_noPanic ?_
          refine wp_region_held_drew (S := fun w' => w'.heap[p10]? = some (.cells (noteA x.n x.sa x.sc) 47 (0, 0))) (by kernel_rfl) (show w9.drew.heap[p10]? = _ from N9.out) (fun hHeld => ?_)
          refine wpAnyH_take (i := 0) (v := .map (some km)) rfl (by kernel_rfl) (by kernel_rfl) (by kernel_rfl) (fun _ _ _ h => h) (Or.inl ⟨by kernel_rfl, by intro W _; go_simp⟩) (by assumption) ?_
          try simp only [Act.put, lq0, lq1, lq2, lq3, lq4, lq5]
          refine wpAnyH_take (i := 1) (v := .agg (noteA x.n x.sa x.sc)) rfl (by kernel_rfl) (by kernel_rfl) (by kernel_rfl) (fun _ _ _ h => h) (yields_row (by kernel_rfl) 47 _ rfl p10 rfl _ 47 (0, 0) _ (fun W h => h) Tryz.underlying47 rfl (I43.out _ _ _)) (by assumption) ?_
          try simp only [Act.put, lq0, lq1, lq2, lq3, lq4, lq5]
          refine wpAnyH_take (i := 3) (v := .agg (noteA x.n x.sa x.sc)) rfl (by kernel_rfl) (by kernel_rfl) (by kernel_rfl) (fun _ _ _ h => h) (yields_row (by kernel_rfl) 47 _ rfl p10 rfl _ 47 (0, 0) _ (fun W h => h) Tryz.underlying47 rfl (I43.out _ _ _)) (by assumption) ?_
          try simp only [Act.put, lq0, lq1, lq2, lq3, lq4, lq5]
          refine wpAnyH_ready (rs := [2]) (by kernel_rfl) (by simp) ?_
          refine AllReadyH.cons rfl (fun K hK => ?_) AllReadyH.nil
          go_simp
          go_at_call 58
          refine (nameOf2_any x.n x.sa x.sc _).mono ?_
          rintro e v2 ⟨rfl, b2⟩
          have bv := ((Below.refl w9.heap.size w9).drew).trans b2
          have HV := Lib.hid (H9.out.below bv)
          have NV := Lib.hid (below_blk bv N9.out)
          clear b2 bv
          dsimp only
          refine hK.out _ _ NV.out (fun hHeld => ?_)
          clear hK K
          try simp only [Act.put, lq0, lq1, lq2, lq3, lq4, lq5]
          refine wpAnyH_ready (rs := [4]) (by kernel_rfl) (by simp) ?_
          refine AllReadyH.cons rfl (fun K hK => ?_) AllReadyH.nil
          obtain ⟨v3, hrun, hm3, ht3⟩ := run_put_nm (t := 106) HV.out.map (by have h1 := HV.out.fl; have h2 := HLEN.out; unfold maxLen; omega) Tryz.underlying106 x.n.house x.n.num NOK.out x
          have M3 := Lib.hid hm3
          have NE1 : Hid (pc ≠ km) := Lib.hid (fun e => by
            obtain ⟨es, cl, h9⟩ := HV.out.map.blk
            rw [← e, HV.out.cnt] at h9
            cases h9)
          have N3 := Lib.hid (grown_blk ht3.grown NV.out (fun e => absurd (Option.some.inj e) (by have := KM10.out; omega)))
          have C3 := Lib.hid (grown_blk ht3.grown HV.out.cnt (fun e => absurd (Option.some.inj e) NE1.out))
          have O3 := Lib.hid (HV.out.own.kept ht3.grown (.inr (by
            obtain ⟨es, cl, h9⟩ := HV.out.map.blk
            exact (own_no HV.out.own h9 (by intro cur; simp)).symm)))
          have B3 := Lib.hid (HV.out.bel.grown ht3.grown HV.out.bel.size (fun z hz => by cases hz; exact HV.out.km_ge))
          clear hm3 ht3
          unfold LN.val at hrun
          go_simp
          refine hK.out _ _ N3.out (fun hHeld => ?_)
          clear hK K
          try simp only [Act.put, lq0, lq1, lq2, lq3, lq4, lq5]
          refine wpAnyH_done (by kernel_rfl) ?_ _
          refine NoPanic.normal ?_
          clear hrun
          have c0 : v3.cell? ⟨p10, 0, none⟩ = some (.int .i64 (k : Int)) := by rw [← HK.out]; exact cell_of N3.out 0 (.int .i64 x.n.house) rfl
          have c1 := idx_cnt0 (W := v3) (p := pc) (k := k) (by have := HK8.out; omega)
          have c2 := cell_of C3.out k (.int .i64 (c (k : Int) : Int)) (cntA_at c k HK8.out)
          have c3 := frozen_of C3.out k
          have c4 := WR.out
          go_upto_region 13 with fail
          have G4 := setCell_grown v3 pc k (.int .i64 ((c (k : Int) : Int) + 1))
          have C4 := Lib.hid (setCell_at C3.out k (.int .i64 ((c (k : Int) : Int) + 1)))
          rw [cntA_set c k HK8.out] at C4
          have N4 := Lib.hid (grown_blk G4 N3.out (fun e => absurd (Option.some.inj e) (by have := KM10.out; omega)))
          have M4 := Lib.hid (M3.out.kept G4 (fun e => absurd (Option.some.inj e).symm NE1.out))
          have O4 := Lib.hid (O3.out.kept G4 (.inr (own_no O3.out C3.out (by intro cur; simp)).symm))
          have B4 := Lib.hid (B3.out.grown G4 B3.out.size (fun z hz => by cases hz; exact HV.out.pc_ge))
          clear c0 c1 c2 c3 c4 G4
          generalize v3.setCell ⟨pc, k, none⟩ (.int .i64 ((c (k : Int) : Int) + 1)) = v4 at *
          have bn : Below v4.heap.size v4 (v4.alloc (.cells (noteA x.n x.sa x.sc) 47)) := (Below.refl _ _).alloc (Nat.le_refl _) _
          have O5 := Lib.hid (own_below O4.out bn)
          obtain ⟨a', c', v9, hrun, ho9, hg9⟩ := run_app_nt (v4.alloc (.cells (noteA x.n x.sa x.sc) 47)) w2.heap.size fa fr.length fc _ O5.out _ 1 1 _ (lit_note v4 x.n x.sa x.sc) (x.n.cells_one _ _) (by have h1 := HV.out.fl; have h2 := HLEN.out; omega) (Nat.le_trans B4.out.size bn.size)
          have M9 : MapF LN.val v9 km (S.l.length + fr.length + 1) (updF GK (nmOf x.n) x) := (M4.out.below bn).kept hg9 (by
            obtain ⟨es, cl, h9⟩ := (M4.out.below bn).blk
            exact (own_no O5.out h9 (by intro cur; simp)))
          have C9 : v9.heap[pc]? = some (.cells (cntA (bump c x.n.house)) 107 (0, 0)) := by
            have h9 := grown_blk hg9 (below_blk bn C4.out) (own_no O5.out (below_blk bn C4.out) (by intro cur; simp))
            rwa [← HK.out] at h9
          have B9 := (B4.out.trans (bn.mono B4.out.size)).grown hg9 (Nat.le_trans B4.out.size bn.size) (fun z hz => (O5.out.lt z hz).1)
          have HN := Lib.hid (HV.out.add HLX.out XM.out KB.out (by rw [HK.out]; exact LT.out) XP.out (fun W' hb => LOK2.out W' hb x XM.out) B9 M9 C9 ho9)
          clear bn ho9 hg9 M9 C9 B9 O5 M4 C4 O4 B4 HV NV M3 C3 O3 B3
          have FLE : Hid ((fr ++ [x.n]).length = fr.length + 1) := Lib.hid (by rw [List.length_append]; rfl)
          have hk64 := HK64.out
          go_wp2_with (first
            | (refine wpList_load_row rfl 47 _ rfl p10 rfl 47 (noteA x.n x.sa x.sc) (0, 0) _ N4.out Tryz.underlying47 rfl (I43.out _ _ _) ?_)
            | (refine wpList_build_note rfl _ rfl x.n x.sa x.sc rfl ?_)
            | (refine wpList_append_eq rfl _ _ _ rfl _ _ _ rfl rfl hrun ?_)
            | fail)
          go_roundw
          case rel => exact ⟨q + 1, updF GK (nmOf x.n) x, fr ++ [x.n], bump c x.n.house, a', c', ys ++ [x], by rw [FLE.out] <;> rfl, by go_num, by omega, HN⟩
          case measure => simp [intOf]; omega
        · have HN := Lib.hid (H9.out.skip HLX.out (.inr ⟨KB.out, by rw [HK.out]; exact of_decide_eq_true hgr⟩))
          clear hgr H9
          have hk64 := HK64.out
          go_wp2_with fail
          go_roundw
          case rel => exact ⟨q + 1, GK, fr, c, fa, fc, ys, by go_num, by go_num, by omega, HN⟩
          case measure => simp [intOf]; omega
    · have t0 : decide ((q : Int) < (nn : Int)) = false := by simp; omega
      have HG : Hid (hearGo S.l [] S.c l = some (fr, c)) := Lib.hid (by
        rw [HS.out.go, List.drop_of_length_le (by rw [HLN.out]; omega)]
        rfl)
      have HE := Lib.hid (hearP_ok GOOD.out HG.out)
      have SQ : Hid (seqOk S.c fr ∧ ∀ y ∈ fr, y ∈ l) := Lib.hid (by
        obtain ⟨t, h1, h2, h3⟩ := hear_seq l [] S.c (by rw [List.append_nil]; exact HI.out.nms) (fun n hn => (formed_house (FRM.out n hn)).2.2) HG.out
        rw [List.nil_append] at h1
        subst h1
        exact ⟨h2, h3⟩)
      have FL : Hid (S.l.length + fr.length ≤ 400) := Lib.hid (by have := HS.out.fl; have := HLEN.out; omega)
      have YL : Hid (ys.length = fr.length) := Lib.hid (by rw [← HS.out.eq, List.length_map])
      have MP := Lib.hid HS.out.map
      have RY := Lib.hid (RdA.of_own HS.out.own)
      have RG := Lib.hid HS.out.own
      have BW := Lib.hid HS.out.bel
      have YE := Lib.hid HS.out.eq
      have YM := Lib.hid HS.out.mem
      have PW := Lib.hid (show wr.heap[pB]? = some (.cells #[.pointer (some ⟨p, 0, none⟩)] 27 (0, 0)) from below_blk HS.out.bel P2.out)
      have CA : Hid (∀ W, Same (houF p mb G SF) wr W → ∀ y ∈ xs, y.ok W) := Lib.hid (fun W hS y hy => ls_ok (HR.out W ((Same.of_below (B2.out.trans (HS.out.bel.mono B2.out.size))).trans hS)) hy)
      have H5 := Lib.hid (HH.out.below (B2.out.trans (HS.out.bel.mono B2.out.size)))
      have BT := Lib.hid (B2.out.trans (HS.out.bel.mono B2.out.size))
      clear HS t0
      go_upto_region 18 with fail
      go_wp2_with (first
        | (at_len; refine wpList_len_nm rfl _ 106 47 rfl Tryz.underlying106 km (S.l.length + fr.length) rfl MP.out ?_; intro kk hkk; have tkk : decide ((400 : Int) < (kk : Int)) = false := (by have := FL.out; simp; omega))
        | fail)
      clear tkk hkk
      obtain ⟨fn, hfn⟩ : ∃ z, Hid (fr.length = z) := ⟨_, Lib.hid rfl⟩
      rw [hfn.out] at RY RG YL FL ⊢
      have F63 : Hid ((fn : Int) ≤ 9223372036854775807) := Lib.hid (by have := FL.out; omega)
      generalize wr = V at *
      go_loopw [83] (fun iv wr => ∃ (j : Nat) (G' : Nm → Option LN) (SF' : Nat → Prop), iv = .int .i64 (j : Int) ∧ j ≤ fn ∧ Hid (HouAt wr p mb sp G' SF' (S.adds (fr.take j)) ∧ Same (houF p mb G SF) V wr ∧ ∀ k, houF p mb G' SF' k → houF p mb G SF k ∨ V.heap.size ≤ k)) (fun iv _ => fn - (intOf iv).toNat)
      case atStart => exact ⟨0, G, SF, rfl, Nat.zero_le _, Lib.hid ⟨H5.out, Same.of_below (Below.refl _ _), fun k hk => .inl hk⟩⟩
      case round =>
        obtain ⟨j, G', SF', rfl, hj, HJ⟩ := hrel
        by_cases hjn : j < fn
        · have t0 : decide ((j : Int) < (fn : Int)) = true := by simp; omega
          obtain ⟨y, Hy⟩ : ∃ y, ys[j]? = some y := ⟨_, List.getElem?_eq_getElem (by rw [YL.out]; exact hjn)⟩
          have FY := Lib.hid (show fr[j]? = some y.n by rw [← YE.out, List.getElem?_map, Hy]; rfl)
          have YX := Lib.hid (YM.out y (List.mem_of_getElem? Hy))
          have RJ := Lib.hid (RdA.of_own (own_keep RG.out HJ.out.2.1 (fun b hb hF => absurd (HH.out.lt b hF) (by have h1 := (RG.out.lt b hb).1; have h2 := B2.out.size; omega))))
          obtain ⟨b, off, rfl, hat⟩ := ln_at RJ.out (by omega)
          obtain ⟨o, ho⟩ : ∃ o, Hid (off + j * 19 = o) := ⟨_, Lib.hid rfl⟩
          have HY := Lib.hid (hat j y Hy)
          rw [ho.out] at HY
          have hix := fun W => idx_off (W := W) (c := fc) (b := b) Tryz.underlying24 J19 hjn ho.out
          have HK64 : Hid ((j : Int) + 1 ≤ 9223372036854775807) := Lib.hid (by have := F63.out; omega)
          have PJ := Lib.hid ((HJ.out.2.1.block pB (blk_lt PW.out) (fun hF => absurd (HH.out.lt pB hF) (by have := hpB.out; omega))).trans PW.out)
          clear hat Hy
          go_upto_region 23 with (first
            | (refine wpList_load_mid rfl 47 _ rfl b o rfl (y.n.cells y.sa y.sc) _ HY.out Tryz.underlying47 rfl (size43 y.n y.sa y.sc) ?_)
            | (refine wpList_store_newp wr rfl 47 _ _ rfl wr.heap.size rfl _ (noteA y.n y.sa y.sc) rfl rfl (I43.out _ _ _) rfl (noteA_one y.n y.sa y.sc) ?_))
          clear t0 hix
          have bt : Below wr.heap.size wr (wr.alloc (.cells (noteA y.n y.sa y.sc) 47)) := (Below.refl _ _).alloc (Nat.le_refl _) _
          have N14 := Lib.hid (heap_last wr (.cells (noteA y.n y.sa y.sc) 47))
          have HT := Lib.hid (HJ.out.1.below bt)
          have ST := Lib.hid (HJ.out.2.1.trans (Same.of_below bt))
          have FT := Lib.hid HJ.out.2.2
          have PT := Lib.hid (below_blk bt PJ.out)
          obtain ⟨p14, hp14⟩ : ∃ z, Hid (wr.heap.size = z) := ⟨_, Lib.hid rfl⟩
          rw [hp14.out] at N14
          rw [hp14.out]
          generalize wr.alloc (.cells (noteA y.n y.sa y.sc) 47) = wt at *
          clear bt HJ PJ HY RJ
          have cB := cell_of PT.out 0 (.pointer (some ⟨p, 0, none⟩)) rfl
          go_wp2_with (first
            | (refine wpList_load_row rfl 47 _ rfl p14 rfl 47 (noteA y.n y.sa y.sc) (0, 0) _ N14.out Tryz.underlying47 rfl (I43.out _ _ _) ?_))
          clear cB
          have FT2 := Lib.hid (show ∀ k, houF p mb G' SF' k → houF p mb G SF k ∨ V.heap.size ≤ k from FT.out)
          have FSUB : Hid (∀ x ∈ fr.take j, formedB S.f x = true ∧ x.Ok) := Lib.hid (fun x hx => by have h1 := SQ.out.2 x (List.mem_of_mem_take hx); exact ⟨FRM.out x h1, HOK.out x h1⟩)
          have HIJ := Lib.hid (adds_inv (fr.take j) S HI.out (seqOk_take fr S.c j SQ.out.1) FSUB.out)
          have YF := Lib.hid (show formedB (S.adds (fr.take j)).f y.n = true by rw [adds_f]; exact FRM.out y.n (SQ.out.2 y.n (List.mem_of_getElem? FY.out)))
          have YO := Lib.hid (HOK.out y.n (SQ.out.2 y.n (List.mem_of_getElem? FY.out)))
          refine (hadd_any p mb sp G' SF' (S.adds (fr.take j)) y.n y.sa y.sc wt HT.out HIJ.out (fun W hS => CA.out W (same_trans2 ST.out hS FT2.out) y YX.out) YF.out YO.out (seqOk_at fr S j y.n SQ.out.1 FY.out) (by rw [adds_len, List.length_take]; have := FL.out; omega)).mono ?_
          rintro e w8 ⟨rfl, ta, tc, SF2, hh8, hs8, hf8⟩
          have HN := Lib.hid (show HouAt w8 p mb sp (updF G' (nmOf y.n) ⟨y.n, ta, tc⟩) SF2 (S.adds (fr.take (j + 1))) ∧ Same (houF p mb G SF) V w8 ∧ ∀ k, houF p mb (updF G' (nmOf y.n) ⟨y.n, ta, tc⟩) SF2 k → houF p mb G SF k ∨ V.heap.size ≤ k from ⟨by rw [take_snoc FY.out, adds_snoc]; exact hh8, same_trans2 ST.out hs8 FT2.out, fun k hk => by
            rcases hf8 k hk with h1 | h1
            · exact FT2.out k h1
            · exact .inr (Nat.le_trans ST.out.size h1)⟩)
          clear hh8 hs8 hf8 HT ST FT FT2 PT N14
          have hk64 := HK64.out
          go_wp2_with fail
          go_roundw
          case rel => exact ⟨j + 1, updF G' (nmOf y.n) ⟨y.n, ta, tc⟩, SF2, by go_num, by omega, HN⟩
          case measure => simp [intOf]; omega
        · have t0 : decide ((j : Int) < (fn : Int)) = false := by simp; omega
          have HF := Lib.hid (show HouAt wr p mb sp G' SF' (S.adds fr) by have h1 := HJ.out.1; rwa [List.take_of_length_le (by have := hfn.out; omega)] at h1)
          go_wp2_with fail
          go_returns
          exact ⟨by rw [HE.out, hfn.out] <;> rfl, by rw [HE.out]; exact ⟨G', SF', HF.out, (Same.of_below BT.out).trans HJ.out.2.1, fun k hk => (HJ.out.2.2 k hk).imp id (fun h => Nat.le_trans BT.out.size h)⟩⟩
end
end Go.Proofs.YtlnhppgfhkkidaaGreat
namespace Go.Proofs.YtlnhppgfhkkidaaGreat
open Go.ChangeShapes Go.WideShapes Go.ChangeAt Go.RowKit

theorem Tryz.own : ownKnob Tryz.prog.godebug = none := by kernel_rfl
theorem Tryz.laidOut : laidOutB Tryz.prog = true := by kernel_rfl

theorem below_trodAll {H : Type} {enc : TypeId × Value → H} {P : Program} (hl : laidOutB P = true) {W W' : World} (hb : Below W.heap.size W W') :
    ∀ (ts : List TypeId) {vs : List Value} {ds : List (DataW H)} {ps : List MemPlace}, ts.all (fun t => P.readableRec t && decide (t < P.types.size)) = true → (∀ x ∈ ps, x.block < W.heap.size) →
      DataW.TrodAll enc P W 0 (fun _ => true) true ts vs ds ps → DataW.TrodAll enc P W' 0 (fun b => decide (b < W.heap.size)) true ts vs ds ps
  | [], [], [], _, _, _, h => h
  | [], _ :: _, _, _, _, _, h => h.elim
  | [], [], _ :: _, _, _, _, h => h.elim
  | _ :: _, [], _, _, _, _, h => h.elim
  | _ :: _, _ :: _, [], _, _, _, h => h.elim
  | t :: ts, v :: vs, d :: ds, ps, hr, hlt, h => by
    obtain ⟨p, q, h1, h2, rfl⟩ := h
    simp only [List.all_cons, Bool.and_eq_true, decide_eq_true_eq] at hr
    exact ⟨p, q, Below.trod hl hr.1.1 hr.1.2 h1 hb (fun x hx => hlt x (List.mem_append_left _ hx)), below_trodAll hl hb ts hr.2 (fun x hx => hlt x (List.mem_append_right _ hx)) h2, rfl⟩

theorem post_of_law {H : Type} {enc : TypeId × Value → H} {P : Program} (hl : laidOutB P = true) {t : TypeId} (ht : P.underlying t = some .bool) {f : Func} {s : ChangeSpec} {W W' : World} {args : Array Value} {ds : List (DataW H)} {ps : List MemPlace}
    (hv : s.vars = []) (hf : f.resultTypes = #[t]) (hr : f.params.toList.all (fun t => P.readableRec t && decide (t < P.types.size)) = true)
    (hW : DataW.Whole enc P f.params.toList s.vars false W args.toList ds [] ps) (hA : DataW.TrodAll enc P W 0 (fun _ => true) true f.params.toList args.toList ds ps)
    (hs : s.fn H (ds ++ []) = { results := [.lit (.bool true)], args := ds }) (hb : Below W.heap.size W W') : s.post enc P f false true false false W args (.bool true) W' := by
  refine ⟨ds, [], ps, [], ps, [], hW, ?_, ?_, ?_, hb.frame _, fun h => by cases h⟩
  · rw [hs, hf]
    exact trodAll_mk1 (shut_bool ht _)
  · rw [hs]
    exact below_trodAll hl hb _ hr hW.lt hA
  · rw [hs, hv]
    rfl

end Go.Proofs.YtlnhppgfhkkidaaGreat
namespace Go.Proofs.YtlnhppgfhkkidaaGreat
open Go.ChangeShapes Go.WideShapes Go.ChangeAt Go.RowKit

theorem i64_of_wf {x : Int} (h : (Lit.int .i64 x).wf = true) : I64 x := by
  simp [Lit.wf, IntKind.min, IntKind.max, IntKind.signed, IntKind.bits] at h
  unfold I64
  omega
theorem Tryz.cells3 : Tryz.prog.cellsOf 3 = 1 := by kernel_rfl
theorem Tryz.cells37 : Tryz.prog.cellsOf 37 = 1 := by kernel_rfl
theorem Tryz.cells43 : Tryz.prog.cellsOf 43 = 2 := by kernel_rfl
theorem Tryz.cells45 : Tryz.prog.cellsOf 45 = 2 := by kernel_rfl
theorem Tryz.cells47 : Tryz.prog.cellsOf 47 = 19 := by kernel_rfl

section
variable {H : Type} {enc : TypeId × Value → H} {W : World} {fuel : Nat}

theorem open_ri1 {cs : List Value} {y : DataW H × List MemPlace} (h : DataW.trod enc Tryz.prog W 0 (fun _ => true) true fuel 37 cs = some y) : ∃ a c l, cs = [.slice a l.length c] ∧ RdI W a l.length c l ∧ ∀ z ∈ l, I64 z := by
  rcases open_ints Tryz.underlying37 Tryz.underlying3 Tryz.cells3 h with ⟨hcs, hx⟩ | ⟨a, n, c, zs, hcs, _, hl, hm, hz, hx, hcell, hwz⟩
  · exact ⟨none, 0, [], hcs, RdA.nil _ _, fun z hz => by cases hz⟩
  · simp only [if_true] at hz
    have hlen : (zs.take n).length = n := by rw [List.length_take]; omega
    refine ⟨some a, c, zs.take n, by rw [hlen]; exact hcs, ⟨by simp, by omega, hm, ?_⟩, fun z hz => i64_of_wf (hwz z (List.mem_of_mem_take hz))⟩
    by_cases hc0 : c = 0
    · exact .inl hc0
    · obtain ⟨ab, ao, spot⟩ := a
      have hspot : spot = none := by simpa [Addr.add] using World.cell?_spot (hcell 0 (by omega))
      subst hspot
      refine .inr ⟨ab, ao, rfl, fun i x hx => ?_⟩
      rw [List.getElem?_map, List.getElem?_take] at hx
      split at hx
      · rename_i hi
        have hiz : i < zs.length := by omega
        rw [List.getElem?_eq_getElem hiz, Option.map_some] at hx
        simp only [Option.some.injEq] at hx
        subst hx
        have hc := hcell i hiz
        rw [Addr.add_lit] at hc
        rw [hc, List.getD_eq_getElem?_getD, List.getElem?_eq_getElem hiz]
        rfl
      · cases hx
theorem get_some {α : Type} {xs : List α} {n i : Nat} (h : xs.length = n) (hi : i < n) : ∃ y, xs[i]? = some y := ⟨xs[i]'(by omega), List.getElem?_eq_getElem (by omega)⟩
set_option maxRecDepth 100000 in
theorem open_two {t : TypeId} {cs : List Value} {y : DataW H × List MemPlace} {f0 f1 : Field} (ht : Tryz.prog.underlying t = some (.struct #[f0, f1])) (h0 : f0.type = 3) (h1 : f1.type = 3) (o0 : f0.offset = 0) (o1 : f1.offset = 1) (hc : Tryz.prog.cellsOf t = 2)
    (h : DataW.trod enc Tryz.prog W 0 (fun _ => true) true fuel t cs = some y) : ∃ x z, cs = [.int .i64 x, .int .i64 z] ∧ I64 x ∧ I64 z := by
  obtain ⟨y0, y1, n, _, hl, g0, g1⟩ := trod_struct2 ht h
  rw [hc] at hl
  match cs, hl with
  | [c0, c1], _ =>
    rw [h0, o0, Tryz.cells3] at g0
    rw [h1, o1, Tryz.cells3] at g1
    obtain ⟨x, a0, _, b0⟩ := DataW.trod_int Tryz.underlying3 g0
    obtain ⟨z, a1, _, b1⟩ := DataW.trod_int Tryz.underlying3 g1
    simp at a0 a1
    exact ⟨x, z, by rw [a0, a1], i64_of_wf b0, i64_of_wf b1⟩

set_option maxHeartbeats 1000000 in
set_option maxRecDepth 100000 in
theorem open_note1 {cs : List Value} {y : DataW H × List MemPlace} (h : DataW.trod enc Tryz.prog W 0 (fun _ => true) true fuel 47 cs = some y) : ∃ n : NoteV, RdNote W cs n := by
  obtain ⟨xs, m, _, _, hl, hlen, hf⟩ := DataW.trod_struct Tryz.underlying47 h
  rw [Tryz.cells47] at hl
  match cs, hl with
  | [c0, c1, c2, c3, c4, c5, c6, c7, c8, c9, c10, c11, c12, c13, c14, c15, c16, c17, c18], _ =>
    obtain ⟨y0, e0⟩ := get_some hlen (i := 0) (by decide)
    have g0 : DataW.trod enc Tryz.prog W 0 (fun _ => true) true m 3 (([c0, c1, c2, c3, c4, c5, c6, c7, c8, c9, c10, c11, c12, c13, c14, c15, c16, c17, c18].drop 0).take (Tryz.prog.cellsOf 3)) = some y0 := (hf 0 _ rfl).trans e0
    rw [Tryz.cells3] at g0
    obtain ⟨x0, a0, _, b0⟩ := DataW.trod_int Tryz.underlying3 g0
    simp at a0
    clear e0 g0
    obtain ⟨y1, e1⟩ := get_some hlen (i := 1) (by decide)
    have g1 : DataW.trod enc Tryz.prog W 0 (fun _ => true) true m 3 (([c0, c1, c2, c3, c4, c5, c6, c7, c8, c9, c10, c11, c12, c13, c14, c15, c16, c17, c18].drop 1).take (Tryz.prog.cellsOf 3)) = some y1 := (hf 1 _ rfl).trans e1
    rw [Tryz.cells3] at g1
    obtain ⟨x1, a1, _, b1⟩ := DataW.trod_int Tryz.underlying3 g1
    simp at a1
    clear e1 g1
    obtain ⟨y2, e2⟩ := get_some hlen (i := 2) (by decide)
    have g2 : DataW.trod enc Tryz.prog W 0 (fun _ => true) true m 3 (([c0, c1, c2, c3, c4, c5, c6, c7, c8, c9, c10, c11, c12, c13, c14, c15, c16, c17, c18].drop 2).take (Tryz.prog.cellsOf 3)) = some y2 := (hf 2 _ rfl).trans e2
    rw [Tryz.cells3] at g2
    obtain ⟨x2, a2, _, b2⟩ := DataW.trod_int Tryz.underlying3 g2
    simp at a2
    clear e2 g2
    obtain ⟨y3, e3⟩ := get_some hlen (i := 3) (by decide)
    have g3 : DataW.trod enc Tryz.prog W 0 (fun _ => true) true m 3 (([c0, c1, c2, c3, c4, c5, c6, c7, c8, c9, c10, c11, c12, c13, c14, c15, c16, c17, c18].drop 3).take (Tryz.prog.cellsOf 3)) = some y3 := (hf 3 _ rfl).trans e3
    rw [Tryz.cells3] at g3
    obtain ⟨x3, a3, _, b3⟩ := DataW.trod_int Tryz.underlying3 g3
    simp at a3
    clear e3 g3
    obtain ⟨y4, e4⟩ := get_some hlen (i := 4) (by decide)
    have g4 : DataW.trod enc Tryz.prog W 0 (fun _ => true) true m 3 (([c0, c1, c2, c3, c4, c5, c6, c7, c8, c9, c10, c11, c12, c13, c14, c15, c16, c17, c18].drop 4).take (Tryz.prog.cellsOf 3)) = some y4 := (hf 4 _ rfl).trans e4
    rw [Tryz.cells3] at g4
    obtain ⟨x4, a4, _, b4⟩ := DataW.trod_int Tryz.underlying3 g4
    simp at a4
    clear e4 g4
    obtain ⟨y5, e5⟩ := get_some hlen (i := 5) (by decide)
    have g5 : DataW.trod enc Tryz.prog W 0 (fun _ => true) true m 3 (([c0, c1, c2, c3, c4, c5, c6, c7, c8, c9, c10, c11, c12, c13, c14, c15, c16, c17, c18].drop 5).take (Tryz.prog.cellsOf 3)) = some y5 := (hf 5 _ rfl).trans e5
    rw [Tryz.cells3] at g5
    obtain ⟨x5, a5, _, b5⟩ := DataW.trod_int Tryz.underlying3 g5
    simp at a5
    clear e5 g5
    obtain ⟨y6, e6⟩ := get_some hlen (i := 6) (by decide)
    have g6 : DataW.trod enc Tryz.prog W 0 (fun _ => true) true m 3 (([c0, c1, c2, c3, c4, c5, c6, c7, c8, c9, c10, c11, c12, c13, c14, c15, c16, c17, c18].drop 6).take (Tryz.prog.cellsOf 3)) = some y6 := (hf 6 _ rfl).trans e6
    rw [Tryz.cells3] at g6
    obtain ⟨x6, a6, _, b6⟩ := DataW.trod_int Tryz.underlying3 g6
    simp at a6
    clear e6 g6
    obtain ⟨y7, e7⟩ := get_some hlen (i := 7) (by decide)
    have g7 : DataW.trod enc Tryz.prog W 0 (fun _ => true) true m 3 (([c0, c1, c2, c3, c4, c5, c6, c7, c8, c9, c10, c11, c12, c13, c14, c15, c16, c17, c18].drop 7).take (Tryz.prog.cellsOf 3)) = some y7 := (hf 7 _ rfl).trans e7
    rw [Tryz.cells3] at g7
    obtain ⟨x7, a7, _, b7⟩ := DataW.trod_int Tryz.underlying3 g7
    simp at a7
    clear e7 g7
    obtain ⟨y8, e8⟩ := get_some hlen (i := 8) (by decide)
    have g8 : DataW.trod enc Tryz.prog W 0 (fun _ => true) true m 43 (([c0, c1, c2, c3, c4, c5, c6, c7, c8, c9, c10, c11, c12, c13, c14, c15, c16, c17, c18].drop 8).take (Tryz.prog.cellsOf 43)) = some y8 := (hf 8 _ rfl).trans e8
    rw [Tryz.cells43] at g8
    obtain ⟨x8, z8, a8, b8, d8⟩ := open_two Tryz.underlying43 rfl rfl rfl rfl Tryz.cells43 g8
    simp at a8
    clear e8 g8
    obtain ⟨y9, e9⟩ := get_some hlen (i := 9) (by decide)
    have g9 : DataW.trod enc Tryz.prog W 0 (fun _ => true) true m 43 (([c0, c1, c2, c3, c4, c5, c6, c7, c8, c9, c10, c11, c12, c13, c14, c15, c16, c17, c18].drop 10).take (Tryz.prog.cellsOf 43)) = some y9 := (hf 9 _ rfl).trans e9
    rw [Tryz.cells43] at g9
    obtain ⟨x9, z9, a9, b9, d9⟩ := open_two Tryz.underlying43 rfl rfl rfl rfl Tryz.cells43 g9
    simp at a9
    clear e9 g9
    obtain ⟨y10, e10⟩ := get_some hlen (i := 10) (by decide)
    have g10 : DataW.trod enc Tryz.prog W 0 (fun _ => true) true m 3 (([c0, c1, c2, c3, c4, c5, c6, c7, c8, c9, c10, c11, c12, c13, c14, c15, c16, c17, c18].drop 12).take (Tryz.prog.cellsOf 3)) = some y10 := (hf 10 _ rfl).trans e10
    rw [Tryz.cells3] at g10
    obtain ⟨x10, a10, _, b10⟩ := DataW.trod_int Tryz.underlying3 g10
    simp at a10
    clear e10 g10
    obtain ⟨y11, e11⟩ := get_some hlen (i := 11) (by decide)
    have g11 : DataW.trod enc Tryz.prog W 0 (fun _ => true) true m 3 (([c0, c1, c2, c3, c4, c5, c6, c7, c8, c9, c10, c11, c12, c13, c14, c15, c16, c17, c18].drop 13).take (Tryz.prog.cellsOf 3)) = some y11 := (hf 11 _ rfl).trans e11
    rw [Tryz.cells3] at g11
    obtain ⟨x11, a11, _, b11⟩ := DataW.trod_int Tryz.underlying3 g11
    simp at a11
    clear e11 g11
    obtain ⟨y12, e12⟩ := get_some hlen (i := 12) (by decide)
    have g12 : DataW.trod enc Tryz.prog W 0 (fun _ => true) true m 3 (([c0, c1, c2, c3, c4, c5, c6, c7, c8, c9, c10, c11, c12, c13, c14, c15, c16, c17, c18].drop 14).take (Tryz.prog.cellsOf 3)) = some y12 := (hf 12 _ rfl).trans e12
    rw [Tryz.cells3] at g12
    obtain ⟨x12, a12, _, b12⟩ := DataW.trod_int Tryz.underlying3 g12
    simp at a12
    clear e12 g12
    obtain ⟨y13, e13⟩ := get_some hlen (i := 13) (by decide)
    have g13 : DataW.trod enc Tryz.prog W 0 (fun _ => true) true m 37 (([c0, c1, c2, c3, c4, c5, c6, c7, c8, c9, c10, c11, c12, c13, c14, c15, c16, c17, c18].drop 15).take (Tryz.prog.cellsOf 37)) = some y13 := (hf 13 _ rfl).trans e13
    rw [Tryz.cells37] at g13
    obtain ⟨sa, sc, l, a13, r13, b13⟩ := open_ri1 g13
    simp at a13
    clear e13 g13
    obtain ⟨y14, e14⟩ := get_some hlen (i := 14) (by decide)
    have g14 : DataW.trod enc Tryz.prog W 0 (fun _ => true) true m 45 (([c0, c1, c2, c3, c4, c5, c6, c7, c8, c9, c10, c11, c12, c13, c14, c15, c16, c17, c18].drop 16).take (Tryz.prog.cellsOf 45)) = some y14 := (hf 14 _ rfl).trans e14
    rw [Tryz.cells45] at g14
    obtain ⟨x14, z14, a14, b14, d14⟩ := open_two Tryz.underlying45 rfl rfl rfl rfl Tryz.cells45 g14
    simp at a14
    clear e14 g14
    obtain ⟨y15, e15⟩ := get_some hlen (i := 15) (by decide)
    have g15 : DataW.trod enc Tryz.prog W 0 (fun _ => true) true m 3 (([c0, c1, c2, c3, c4, c5, c6, c7, c8, c9, c10, c11, c12, c13, c14, c15, c16, c17, c18].drop 18).take (Tryz.prog.cellsOf 3)) = some y15 := (hf 15 _ rfl).trans e15
    rw [Tryz.cells3] at g15
    obtain ⟨x15, a15, _, b15⟩ := DataW.trod_int Tryz.underlying3 g15
    simp at a15
    clear e15 g15
    exact ⟨{ house := x0, num := x1, clock := x2, day := x3, kind := x4, stone := x5, heap := x6, turns := x7, hardLo := x8, hardHi := z8, diffLo := x9, diffHi := z9, a := x10, b := x11, ring := x12, strokes := l, refH := x14, refN := z14, fix := x15 }, sa, sc, by simp only [NoteV.cells]; rw [a0, a1, a2, a3, a4, a5, a6, a7, a8.1, a8.2, a9.1, a9.2, a10, a11, a12, a13, a14.1, a14.2, a15], r13, { house := i64_of_wf b0, num := i64_of_wf b1, clock := i64_of_wf b2, day := i64_of_wf b3, kind := i64_of_wf b4, stone := i64_of_wf b5, heap := i64_of_wf b6, turns := i64_of_wf b7, hardLo := b8, hardHi := d8, diffLo := b9, diffHi := d9, a := i64_of_wf b10, b := i64_of_wf b11, ring := i64_of_wf b12, strokes := b13, refH := b14, refN := d14, fix := i64_of_wf b15 }⟩
end
end Go.Proofs.YtlnhppgfhkkidaaGreat
namespace Go.Proofs.YtlnhppgfhkkidaaGreat
open Go.ChangeShapes Go.WideShapes Go.ChangeAt Go.RowKit

theorem Tryz.cells23 : Tryz.prog.cellsOf 23 = 3 := by kernel_rfl
section
variable {H : Type} {enc : TypeId × Value → H} {W : World}
set_option maxRecDepth 100000 in
theorem hopen_frame {base : Nat} {v : Value} {d : DataW H} {p : List MemPlace} (hval : Value.okWide Tryz.prog W .any base 23 v)
    (h : DataW.Trod enc Tryz.prog W 0 (fun _ => true) true 23 v d p) : ∃ f : FrV, v = f.val := by
  obtain ⟨cs, rfl, hsz⟩ := okWide_struct Tryz.underlying23 hval
  obtain ⟨fuel, hf⟩ := h
  obtain ⟨y0, y1, y2, n, _, hl, g0, g1, g2⟩ := Go.Deep.trod_struct3 Tryz.underlying23 hf
  rw [Tryz.cells23] at hsz
  obtain ⟨l⟩ := cs
  match l, hsz with
  | [c0, c1, c2], _ =>
    have g0' : DataW.trod enc Tryz.prog W 0 (fun _ => true) true n 3 (([c0, c1, c2].drop 0).take (Tryz.prog.cellsOf 3)) = some y0 := g0
    have g1' : DataW.trod enc Tryz.prog W 0 (fun _ => true) true n 3 (([c0, c1, c2].drop 1).take (Tryz.prog.cellsOf 3)) = some y1 := g1
    have g2' : DataW.trod enc Tryz.prog W 0 (fun _ => true) true n 3 (([c0, c1, c2].drop 2).take (Tryz.prog.cellsOf 3)) = some y2 := g2
    rw [Tryz.cells3] at g0' g1' g2'
    obtain ⟨x0, a0, _, _⟩ := DataW.trod_int Tryz.underlying3 g0'
    obtain ⟨x1, a1, _, _⟩ := DataW.trod_int Tryz.underlying3 g1'
    obtain ⟨x2, a2, _, _⟩ := DataW.trod_int Tryz.underlying3 g2'
    simp at a0 a1 a2
    exact ⟨⟨x0, x1, x2⟩, by rw [a0, a1, a2]; rfl⟩
theorem cells_spot {a : Addr} {n : Nat} {cs : List Value} (hn : 0 < n) (h : W.cells? 0 a n = some cs) : a.spot = none := by
  have h2 := World.cells?_some h
  have h3 := h2.2.2 0 (by have := h2.1; omega)
  rw [List.getElem?_eq_getElem (by have := h2.1; omega)] at h3
  simpa [Addr.add] using World.cell?_spot h3
theorem open_rows {fuel : Nat} {cs : List Value} {y : DataW H × List MemPlace} {t e : TypeId} {k : Nat} (ht : Tryz.prog.underlying t = some (.slice e)) (hc : Tryz.prog.cellsOf e = k) (hk : 0 < k)
    (h : DataW.trod enc Tryz.prog W 0 (fun _ => true) true fuel t cs = some y) :
    ∃ a n c, cs = [.slice a n c] ∧ n ≤ c ∧ c ≤ maxLen ∧ (c = 0 ∨ ∃ b off, a = some ⟨b, off, none⟩ ∧ ∀ i, i < n → ∃ es m z, DataW.trod enc Tryz.prog W 0 (fun _ => true) true m e es = some z ∧ W.rangeAt b (off + i * k) es) := by
  rcases DataW.trod_slice ht h with ⟨hcs, hx⟩ | ⟨a, len', cap', elems, rest, m, _, hcs, hx, hb, hl, hm, hlen, hel, hsp, hns⟩
  · exact ⟨none, 0, 0, hcs, Nat.le_refl _, Nat.zero_le _, .inl rfl⟩
  · rw [hc] at hel hsp
    refine ⟨some a, len', cap', hcs, hl, hm, ?_⟩
    rcases Nat.eq_zero_or_pos cap' with h0 | h0
    · exact .inl h0
    · have hspot : a.spot = none := by
        rcases Nat.eq_zero_or_pos len' with h1 | h1
        · obtain ⟨h2, h3⟩ := hsp rfl
          have h4 := h3 0 (by omega)
          rw [List.getElem?_eq_getElem (by omega)] at h4
          cases hq : W.cells? 0 (a.add ((len' + 0) * k)) k with
          | none => rw [hq] at h4; cases h4
          | some cs => rw [show (len' + 0) * k = 0 by rw [h1]; simp] at hq; have := cells_spot hk hq; simpa [Addr.add] using this
        · have h4 := hel 0 h1
          rw [List.getElem?_eq_getElem (by omega)] at h4
          cases hq : W.cells? 0 (a.add (0 * k)) k with
          | none => rw [hq] at h4; cases h4
          | some cs => rw [Nat.zero_mul] at hq; have := cells_spot hk hq; simpa [Addr.add] using this
      obtain ⟨ab, ao, spot⟩ := a
      simp only at hspot
      subst hspot
      refine .inr ⟨ab, ao, rfl, fun i hi => ?_⟩
      have h1 := hel i hi
      rw [List.getElem?_eq_getElem (by omega)] at h1
      cases hcs : W.cells? 0 ((⟨ab, ao, none⟩ : Addr).add (i * k)) k with
      | none => rw [hcs] at h1; cases h1
      | some es =>
        rw [hcs] at h1
        have h2 := World.cells?_some hcs
        refine ⟨es, m, _, h1, fun j v hv => ?_⟩
        have hj : j < es.length := (List.getElem?_eq_some_iff.1 hv).1
        have h3 := h2.2.2 j (by have := h2.1; omega)
        rw [hv] at h3
        simpa [Addr.add_lit] using h3
theorem choose_list {α : Type} {n : Nat} {P : Nat → α → Prop} (h : ∀ i, i < n → ∃ x, P i x) : ∃ l : List α, l.length = n ∧ ∀ i x, l[i]? = some x → P i x := by
  induction n with
  | zero => exact ⟨[], rfl, by simp⟩
  | succ n ih =>
    obtain ⟨l, h1, h2⟩ := ih (fun i hi => h i (by omega))
    obtain ⟨x, hx⟩ := h n (by omega)
    refine ⟨l ++ [x], by simp [h1], fun i y hy => ?_⟩
    rcases Nat.lt_or_ge i l.length with hi | hi
    · rw [List.getElem?_append_left hi] at hy; exact h2 i y hy
    · rw [List.getElem?_append_right hi] at hy
      have : i - l.length = 0 := by
        rcases Nat.eq_zero_or_pos (i - l.length) with h0 | h0
        · exact h0
        · rw [List.getElem?_eq_none (by simp; omega)] at hy; cases hy
      rw [this] at hy
      simp at hy
      subst hy
      have : i = n := by omega
      rw [this]; exact hx
set_option maxRecDepth 100000 in
theorem open_notes1 {fuel : Nat} {cs : List Value} {y : DataW H × List MemPlace} (h : DataW.trod enc Tryz.prog W 0 (fun _ => true) true fuel 24 cs = some y) : ∃ a n c l, cs = [.slice a n c] ∧ RdNs W a n c l ∧ ∀ x ∈ l, x.Ok := by
  obtain ⟨a, n, c, rfl, h1, h2, h3⟩ := open_rows Tryz.underlying24 Tryz.cells47 (by decide) h
  rcases h3 with h3 | ⟨b, off, rfl, h3⟩
  · exact ⟨a, n, c, [], rfl, ⟨by simp; omega, h1, h2, .inl h3⟩, fun x hx => by cases hx⟩
  · obtain ⟨l, h4, h5⟩ := choose_list (P := fun i (x : NoteV) => ∃ es, W.rangeAt b (off + i * 19) es ∧ RdNote W es x) (fun i hi => by
      obtain ⟨es, m, z, h6, h7⟩ := h3 i hi
      obtain ⟨x, hx⟩ := open_note1 h6
      exact ⟨x, es, h7, hx⟩)
    refine ⟨_, n, c, l, rfl, ⟨h4, h1, h2, .inr ⟨b, off, rfl, fun i x hx => ?_⟩⟩, fun x hx => ?_⟩
    · obtain ⟨es, h6, sa, sc, rfl, h7, _⟩ := h5 i x hx
      exact ⟨sa, sc, h6, h7⟩
    · obtain ⟨i, hi⟩ := List.getElem?_of_mem hx
      obtain ⟨es, h6, sa, sc, rfl, _, h7⟩ := h5 i x hi
      exact h7
set_option maxRecDepth 100000 in
theorem open_notes {base : Nat} {v : Value} {d : DataW H} {p : List MemPlace} (hval : Value.okWide Tryz.prog W .any base 24 v)
    (h : DataW.Trod enc Tryz.prog W 0 (fun _ => true) true 24 v d p) : ∃ a n c l, v = .slice a n c ∧ RdNs W a n c l ∧ ∀ x ∈ l, x.Ok := by
  obtain ⟨a1, n1, c1, rfl⟩ := okWide_slice Tryz.underlying24 hval
  obtain ⟨fuel, hf⟩ := h
  obtain ⟨a, n, c, l, h1, h2⟩ := open_notes1 hf
  simp [Value.cells] at h1
  obtain ⟨rfl, rfl, rfl⟩ := h1
  exact ⟨_, _, _, l, rfl, h2⟩
end
end Go.Proofs.YtlnhppgfhkkidaaGreat
namespace Go.Proofs.YtlnhppgfhkkidaaGreat
open Go.ChangeShapes Go.WideShapes Go.ChangeAt Go.RowKit

structure AskV where
  day : Int
  clock : Int
  stone : Int
  ring : Int
  heap : Int
  rh : Int
  rn : Int
def AskV.cells (x : AskV) : Array Value := #[.int .i64 x.day, .int .i64 x.clock, .int .i64 x.stone, .int .i64 x.ring, .int .i64 x.heap, .int .i64 x.rh, .int .i64 x.rn]
structure AskV.Ok (x : AskV) : Prop where
  day : I64 x.day
  clock : I64 x.clock
  ref : nmOk (x.rh, x.rn)
section
variable {H : Type} {enc : TypeId × Value → H} {W : World}
end
end Go.Proofs.YtlnhppgfhkkidaaGreat
namespace Go.Proofs.YtlnhppgfhkkidaaGreat
set_option linter.unusedSimpArgs false
open Go.RowKit

structure CnAt (w W : World) (p3 p4 p7 : Nat) (A M : Array Value) (ja : Option Addr) (jn jc : Nat) (S : List Value) : Prop where
  bel : Below w.heap.size w W
  e3 : W.heap[p3]? = some (.cells A 47 (0, 0))
  e4 : W.heap[p4]? = some (.cells (noteA zeroN none 0) 47 (0, 0))
  e7 : W.heap[p7]? = some (.cells M 47 (0, 0))
  own : W.ownsRow w.heap.size 3 1 (.slice ja jn jc) jn S
  lt : w.heap.size ≤ p4 ∧ p3 < p7 ∧ p4 < p7
theorem CnAt.put {w W : World} {p3 p4 p7 : Nat} {A M : Array Value} {ja : Option Addr} {jn jc : Nat} {S : List Value} (h : CnAt w W p3 p4 p7 A M ja jn jc S) (j : Nat) (v : Value) : CnAt w (W.setCell ⟨p7, j, none⟩ v) p3 p4 p7 A (M.setIfInBounds j v) ja jn jc S := by
  have g := setCell_grown W p7 j v
  have hl := h.lt
  exact ⟨h.bel.grown g h.bel.size (fun k e => by cases e; omega), grown_blk g h.e3 (fun e => by have := Option.some.inj e; omega), grown_blk g h.e4 (fun e => by have := Option.some.inj e; omega), setCell_at h.e7 j v,
    h.own.kept g (.inr (own_no h.own h.e7 (fun cur h => by simp at h)).symm), h.lt⟩
end Go.Proofs.YtlnhppgfhkkidaaGreat
namespace Go.Proofs.YtlnhppgfhkkidaaGreat
set_option linter.unusedSimpArgs false
open Go.RowKit

structure EvSt (w W : World) (a : Option Addr) (n c : Nat) (es : List EvV) (l : List NoteV) (k : Nat) : Prop where
  bel : Below w.heap.size w W
  own : W.ownsRow w.heap.size 210 21 (.slice a n c) n (evCells es)
  str : ∀ e ∈ es, W.ownsRow w.heap.size 3 1 (.slice e.x.sa e.x.n.strokes.length e.x.sc) e.x.n.strokes.length (e.x.n.strokes.map intV)
  ev : es.map (fun e => e.x.n) = evTo l k
  nm : ∀ e ∈ es, e.nm = nmOf e.x.n
theorem EvSt.below {w W W' : World} {a : Option Addr} {n c : Nat} {es : List EvV} {l : List NoteV} {k : Nat} (h : EvSt w W a n c es l k) (hb : Below W.heap.size W W') : EvSt w W' a n c es l k :=
  ⟨h.bel.trans (hb.mono h.bel.size), own_below h.own hb, fun e he => own_below (h.str e he) hb, h.ev, h.nm⟩
theorem EvSt.rd {w W : World} {a : Option Addr} {n c : Nat} {es : List EvV} {l : List NoteV} {k : Nat} (h : EvSt w W a n c es l k) : RdA W 21 a n c (evCells es) := RdA.of_own h.own
theorem EvSt.ok {w W : World} {a : Option Addr} {n c : Nat} {es : List EvV} {l : List NoteV} {k : Nat} (h : EvSt w W a n c es l k) : ∀ e ∈ es, e.x.ok W := fun e he => RdA.of_own (h.str e he)
theorem EvSt.start (w : World) (l : List NoteV) : EvSt w w none 0 0 [] l 0 := ⟨Below.refl _ _, World.ownsRow_nil _ _ _ _, fun e h => by simp at h, rfl, fun e h => by simp at h⟩
theorem EvSt.len {w W : World} {a : Option Addr} {n c : Nat} {es : List EvV} {l : List NoteV} {k : Nat} (h : EvSt w W a n c es l k) : es.length = n ∧ n ≤ k := by
  have h1 := h.rd.len
  rw [evCells_len] at h1
  have h2 := congrArg List.length h.ev
  rw [List.length_map] at h2
  have h3 := evTo_len l k
  omega
theorem EvSt.skip {w W : World} {a : Option Addr} {n c : Nat} {es : List EvV} {l : List NoteV} {k : Nat} {x : NoteV} (h : EvSt w W a n c es l k) (hx : l[k]? = some x) (hc : countP l x = none) : EvSt w W a n c es l (k + 1) :=
  ⟨h.bel, h.own, h.str, by rw [evTo_none hx hc]; exact h.ev, h.nm⟩
end Go.Proofs.YtlnhppgfhkkidaaGreat
namespace Go.Proofs.YtlnhppgfhkkidaaGreat
set_option linter.unusedSimpArgs false
open Go.RowKit

structure FdAt (V W : World) (p : Nat) (ha : Option Addr) (hc : Nat) (ea : Option Addr) (ec : Nat) (R : RegV) (ba : Option Addr) (bc : Nat) : Prop where
  reg : RegAt V.heap.size W p ha hc ea ec none 0 R.hs R.es []
  same : Same (fun k => k = p) V W
  bad : W.ownsRow V.heap.size 45 2 (.slice ba R.cs.length bc) R.cs.length (nmCells R.cs)
theorem FdAt.below {V W W' : World} {p : Nat} {ha : Option Addr} {hc : Nat} {ea : Option Addr} {ec : Nat} {R : RegV} {ba : Option Addr} {bc : Nat} (h : FdAt V W p ha hc ea ec R ba bc) (hb : Below W.heap.size W W') : FdAt V W' p ha hc ea ec R ba bc :=
  ⟨h.reg.below hb, h.same.trans (Same.of_below hb), own_below h.bad hb⟩
structure F2At (V W : World) (p : Nat) (h0 h1 : Value) (ca : Option Addr) (cn cc : Nat) (cs : List Nm) : Prop where
  blk : W.heap[p]? = some (.cells #[h0, h1, .slice ca cn cc] 77 (0, 0))
  same : Same (fun k => k = p) V W
  own : W.ownsRow V.heap.size 45 2 (.slice ca cn cc) cn (nmCells cs)
theorem F2At.below {V W W' : World} {p : Nat} {h0 h1 : Value} {ca : Option Addr} {cn cc : Nat} {cs : List Nm} (h : F2At V W p h0 h1 ca cn cc cs) (hb : Below W.heap.size W W') : F2At V W' p h0 h1 ca cn cc cs :=
  ⟨below_blk hb h.blk, h.same.trans (Same.of_below hb), own_below h.own hb⟩
theorem F2At.add {V W W' : World} {p : Nat} {h0 h1 : Value} {ca : Option Addr} {cn cc : Nat} {cs : List Nm} {a : Nm} {a' : Option Addr} {c' : Nat} (h : F2At V W p h0 h1 ca cn cc cs) (ho : W'.ownsRow V.heap.size 45 2 (.slice a' (cn + 1) c') (cn + 1) (nmCells cs ++ [.int .i64 a.1, .int .i64 a.2])) (hg : W.grownBy W' (Value.ownBlock (.slice ca cn cc))) :
    F2At V (W'.setCell ⟨p, 2, none⟩ (.slice a' (cn + 1) c')) p h0 h1 a' (cn + 1) c' (cs ++ [a]) := by
  have hb2 := grown_blk hg h.blk (own_no h.own h.blk (by intro cur; simp))
  have G := setCell_grown W' p 2 (.slice a' (cn + 1) c')
  exact ⟨by rw [setCell_at hb2 2 (.slice a' (cn + 1) c')]; rfl, h.same.reg ((Same.of_grown hg (fun k e => .inr (h.own.lt k e).1)).trans (Same.of_grown G (fun k e => by cases e; exact .inl rfl))), by
    rw [nmCells_snoc]; exact ho.kept G (.inr (own_no ho hb2 (by intro cur; simp)).symm)⟩
def RegOwn (base : Nat) (W : World) (v : Value) (T : RegT) : Prop :=
  ∃ (ha : Option Addr) (hn hc : Nat) (ea : Option Addr) (en ec : Nat) (ca : Option Addr) (cn cc : Nat) (hs es : List EvV), v = .agg #[.slice ha hn hc, .slice ea en ec, .slice ca cn cc] ∧
    W.ownsRow base 210 21 (.slice ha hn hc) hn (evCells hs) ∧ W.ownsRow base 210 21 (.slice ea en ec) en (evCells es) ∧ W.ownsRow base 45 2 (.slice ca cn cc) cn (nmCells T.2.2) ∧
    (∀ e ∈ hs ++ es, W.ownsRow base 3 1 (.slice e.x.sa e.x.n.strokes.length e.x.sc) e.x.n.strokes.length (e.x.n.strokes.map intV)) ∧ hs.map evC = T.1.map evP ∧ es.map evC = T.2.1.map evP
theorem RegOwn.out {base : Nat} {W : World} {v : Value} {T : RegT} (h : RegOwn base W v T) : RegOut W v T := by
  obtain ⟨ha, hn, hc, ea, en, ec, ca, cn, cc, hs, es, rfl, h1, h2, h3, h4, h5, h6⟩ := h
  exact ⟨ha, hn, hc, ea, en, ec, ca, cn, cc, hs, es, rfl, RdEs.of_rd (RdA.of_own h1), RdEs.of_rd (RdA.of_own h2), RdA.of_own h3, fun e he => RdA.of_own (h4 e he), h5, h6⟩
theorem RegOwn.kept {base : Nat} {W W' : World} {v : Value} {T : RegT} {p : Nat} {c : Array Value} (h : RegOwn base W v T) (hg : W.grownBy W' (some p)) (hp : W.heap[p]? = some (.cells c 77 (0, 0))) : RegOwn base W' v T := by
  obtain ⟨ha, hn, hc, ea, en, ec, ca, cn, cc, hs, es, rfl, h1, h2, h3, h4, h5, h6⟩ := h
  exact ⟨ha, hn, hc, ea, en, ec, ca, cn, cc, hs, es, rfl, h1.kept hg (.inr (own_no h1 hp (by intro cur; simp)).symm), h2.kept hg (.inr (own_no h2 hp (by intro cur; simp)).symm), h3.kept hg (.inr (own_no h3 hp (by intro cur; simp)).symm),
    fun e he => (h4 e he).kept hg (.inr (own_no (h4 e he) hp (by intro cur; simp)).symm), h5, h6⟩
end Go.Proofs.YtlnhppgfhkkidaaGreat
namespace Go.Proofs.YtlnhppgfhkkidaaGreat
set_option linter.unusedSimpArgs false
open Go.RowKit

structure HmAt (w W : World) (pF : Nat) (f : FrV) : Prop where
  bel : Below w.heap.size w W
  fr : W.heap[pF]? = some (.cells #[.int .i64 f.rings, .int .i64 f.sectors, .int .i64 f.wide] 23 (0, 0))
theorem HmAt.below {w W W' : World} {pF : Nat} {f : FrV} (h : HmAt w W pF f) (hb : Below W.heap.size W W') : HmAt w W' pF f :=
  ⟨h.bel.trans (hb.mono h.bel.size), below_blk hb h.fr⟩
end Go.Proofs.YtlnhppgfhkkidaaGreat
namespace Go.Proofs.YtlnhppgfhkkidaaGreat
set_option linter.unusedSimpArgs false
set_option linter.unusedVariables false

theorem mergeE_zero {f : FrV} {l m : List NoteV} (h : mergeE f l m = 0) : (checkSetP f l).1 = 0 ∧ (checkSetP f m).1 = 0 ∧ NoFork l m := by
  rcases forkV_cases f l m with ⟨_, _, he⟩ | ⟨h1, h2, ⟨a, _, _, he⟩ | ⟨h3, _, _⟩⟩
  · rw [he] at h; cases h
  · rw [he] at h; cases h
  · exact ⟨h1, h2, forkAt_none.1 h3⟩
end Go.Proofs.YtlnhppgfhkkidaaGreat
