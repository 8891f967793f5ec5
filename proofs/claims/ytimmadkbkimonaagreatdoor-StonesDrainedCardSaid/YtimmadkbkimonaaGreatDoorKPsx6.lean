/- Parts of the proof, in this order: furrows of law01; Draining step by step, plain; Set's result is the call's own; StonesDrained is true; What every row of this work shares: a law of the template 'true whatever the input' holds where its call gives true and leaves all old memory; []byte arguments opened; A note, a list of ints, out of a reading; A face out of a reading; what the library's variables hold. -/
import Derived.Test.YtimmadkbkimonaaGreatDoorRows
import Derived.ProofKit
import Derived.OpenShut
import Derived.Lib.SmallJoins
import Derived.Stop.LaidErr
import Derived.MakeChecks
import Derived.Shelf.Vars
import Derived.Test.YtimmadkbkimonaaGreatDoorKPsx5
set_option linter.unusedSimpArgs false
set_option linter.unusedVariables false
open List renaming getElem_toArray → lq0, getElem_cons_succ → lq1, getElem_cons_zero → lq2, setIfInBounds_toArray → lq3, set_cons_zero → lq4, set_cons_succ → lq5
namespace Go.Proofs.YtimmadkbkimonaaGreatDoor
set_option linter.unusedSimpArgs false
set_option linter.unusedVariables false
open Go.RowKit

theorem run_app_sl (w : World) (base : Nat) (sa : Option Addr) (sn sc : Nat) (xs : List Value) (hown : w.ownsRow base 26 1 (.slice sa sn sc) sn xs) (xa : Option Addr) (m xc : Nat) (ys : List Value) (hrd : RdA w 1 xa m xc ys) (h1 : ∀ u ∈ ys, u.oneCell' = true)
    (hbytes : (sn + m) * 24 ≤ 140737488355328) (hbase : base ≤ w.heap.size) :
    ∃ a' c' w', (Builtin.append_ #[47, 47] 47 #[.slice sa sn sc, .slice xa m xc]).run Tryz.prog w = .ok (.slice a' (sn + m) c') w' ∧ w'.ownsRow base 26 1 (.slice a' (sn + m) c') (sn + m) (xs ++ ys) ∧
      (∀ (p : Nat) (ob : Obj), w.heap[p]? = some ob → (∀ cur, ob ≠ .cells cur 26 (0, 0)) → w'.heap[p]? = some ob) ∧ (∀ W, Below base W w → Below base W w') := by
  obtain ⟨i, hi, hz0, hz1, hz2⟩ := info_parts qinfoS
  obtain ⟨a', c', w', h1, h2, h3⟩ := run_append_rd w base 47 47 26 i _ 1 24 Tryz.underlying47 hi hz0 hz1 hz2 rfl (by decide) sa sn sc _ hown xa m xc _ hrd h1 (by unfold maxLen; omega) hbytes hbase
  exact ⟨a', c', w', h1, h2, fun p o hp ho => qgrown h3 hp (qown_no hown hp ho), fun W hb => hb.grown h3 hbase (fun k e => (hown.lt k e).1)⟩
def AlL (W : World) (vs : List Value) (ls : List (List Int)) : Prop := vs.length = ls.length ∧ ∀ (j : Nat) l, ls[j]? = some l → ∃ aj cj, vs[j]? = some (.slice aj l.length cj) ∧ RdI W aj l.length cj l
theorem AlL.nil (W : World) : AlL W [] [] := ⟨rfl, fun j l h => by simp at h⟩
theorem AlL.snoc {W : World} {vs : List Value} {ls : List (List Int)} {l : List Int} {aj : Option Addr} {cj : Nat} (h : AlL W vs ls) (hr : RdI W aj l.length cj l) : AlL W (vs ++ [.slice aj l.length cj]) (ls ++ [l]) := by
  refine ⟨by rw [List.length_append, List.length_append, h.1]; rfl, fun j l' hj => ?_⟩
  rw [List.getElem?_append] at hj
  by_cases hlt : j < ls.length
  · rw [if_pos hlt] at hj
    obtain ⟨a', c', e1, e2⟩ := h.2 j l' hj
    exact ⟨a', c', by rw [List.getElem?_append_left (by rw [h.1]; exact hlt)]; exact e1, e2⟩
  · rw [if_neg hlt] at hj
    have hz : j - ls.length = 0 := by
      rcases Nat.eq_zero_or_pos (j - ls.length) with h0 | h0
      · exact h0
      · rw [List.getElem?_eq_none (by simp; omega)] at hj; cases hj
    rw [hz] at hj
    have e : l' = l := by simpa using hj.symm
    subst e
    have ej : j = ls.length := by omega
    exact ⟨aj, cj, by rw [List.getElem?_append_right (by rw [h.1]; omega), h.1, hz]; rfl, hr⟩
theorem furrowsF_snoc (f : FaceV) (ls : List (List Int)) {k : Nat} {cs : List Int} (h : ls[k]? = some cs) : furrowsF f (ls.take (k + 1)) = furrowsF f (ls.take k) ++ (if furrowB f cs = true then [cs] else []) := by
  unfold furrowsF
  rw [List.take_add_one, h, List.filter_append]
  congr 1
  by_cases hb : furrowB f cs = true
  · rw [if_pos hb]; simp [hb]
  · rw [if_neg hb]; simp [hb]
theorem furrows_len (f : FaceV) (ls : List (List Int)) (k : Nat) : (furrowsF f (ls.take k)).length ≤ k := Nat.le_trans (List.length_filter_le _ _) (by rw [List.length_take]; exact Nat.min_le_left _ _)
theorem RdLL.of_own {w W Wb : World} {oa : Option Addr} {oc : Nat} {vs : List Value} {ls : List (List Int)} (ho : W.ownsRow w.heap.size 26 1 (.slice oa vs.length oc) vs.length vs) (ha : AlL Wb vs ls) (hb : Below Wb.heap.size Wb W) : RdLL W oa vs.length oc ls := by
  have hr : RdA W 1 oa vs.length oc vs := RdA.of_own ho
  refine ⟨ha.1.symm, hr.2.1, hr.2.2.1, fun j l hj => ?_⟩
  obtain ⟨aj, cj, e1, e2⟩ := ha.2 j l hj
  have hlt : j < vs.length := (List.getElem?_eq_some_iff.1 e1).1
  obtain ⟨b, off, e3, h4⟩ := RdA.at hr (by omega)
  exact ⟨b, off, aj, cj, e3, h4 j _ e1, e2.below hb⟩
def OwnS (w W : World) (oa : Option Addr) (N oc : Nat) (vs : List Value) : Prop := W.ownsRow w.heap.size 26 1 (.slice oa N oc) N vs
theorem OwnS.below {w W W' : World} {oa : Option Addr} {N oc : Nat} {vs : List Value} (h : OwnS w W oa N oc vs) (hb : Below W.heap.size W W') : OwnS w W' oa N oc vs := own_below h hb
set_option maxHeartbeats 4000000 in
set_option maxRecDepth 100000 in
theorem furrows_any (f : FaceV) (a : Option Addr) (n : Nat) (la : Option Addr) (N m1 : Nat) (ls : List (List Int)) (w : World) (hn : N ≤ 100000) (hm : ∀ cs ∈ ls, cs ≠ [] ∧ ∀ x ∈ cs, 0 ≤ x ∧ x < f.kinds.length) (hr : RdI w a f.kinds.length n f.kinds) (hrl : RdLL w la N m1 ls) :
    Calls Tryz.prog 39 #[.agg (f.cells a n), .slice la N m1] w fun e w' => (∃ oa oc, e = .returned (.slice oa (furrowsF f ls).length oc) ∧ RdLL w' oa (furrowsF f ls).length oc (furrowsF f ls)) ∧ Below w.heap.size w w' := by
  have NB := Lib.hid hn
  have HN := Lib.hid hrl.len
  have HM := Lib.hid hm
  have HR := Lib.hid hr
  have RL := Lib.hid hrl
  clear hr hrl hm hn
  have AL := Lib.hid (al1 w (.cells (f.cells a n) 28))
  go_enter Tryz.func39, Tryz.ntmps39
  go_upto_region 1 with fail
  obtain ⟨p, hp⟩ : ∃ p, Hid (w.heap.size = p) := ⟨_, Lib.hid rfl⟩
  rw [hp.out] at AL ⊢
  generalize (w.alloc (.cells (f.cells a n) 28)) = W0 at *
  have BF : Hid (Below w.heap.size w W0) := Lib.hid (by rw [hp.out]; exact AL.out.1)
  have XF : Hid (W0.heap[p]? = some (.cells (f.cells a n) 28 (0, 0))) := Lib.hid AL.out.2
  clear AL
  have c0 := qcell XF.out 0 (.int .i64 f.eye) rfl
  have c1 := qcell XF.out 1 (.int .i64 f.rings) rfl
  have c2 := qcell XF.out 2 (.int .i64 f.sectors) rfl
  have c3 := qcell XF.out 3 (.slice a f.kinds.length n) rfl
  clear c0 c1 c2 c3
  replace HR := Lib.hid (HR.out.below BF.out)
  replace RL := Lib.hid (RL.out.below BF.out)
  have BF1 := BF
  have HRU := Lib.hid (fun W (hb : Below W0.heap.size W0 W) => HR.out.below hb)
  have RLU := Lib.hid (fun W (hb : Below W0.heap.size W0 W) => RL.out.below hb)
  have XFU := Lib.hid (fun W (hb : Below W0.heap.size W0 W) => qblk hb XF.out)
  have RL0 := Lib.hid RL.out
  have BU := Lib.hid (Below.refl W0.heap.size W0)
  clear BF HR RL XF
  go_wp2_with fail
  go_loopw [5, 6] (fun o v wr => ∃ (k : Nat) (oa : Option Addr) (oc : Nat) (vs : List Value), v = .int .i64 (k : Int) ∧ o = .slice oa vs.length oc ∧ k ≤ N ∧ Hid (AlL W0 vs (furrowsF f (ls.take k))) ∧ Hid (OwnS W0 wr oa vs.length oc vs) ∧ Hid (Below W0.heap.size W0 wr)) (fun _ v _ => N - (intOf v).toNat)
  case atStart => exact ⟨0, none, 0, [], rfl, rfl, Nat.zero_le _, Lib.hid (AlL.nil _), Lib.hid (World.ownsRow_nil _ _ _ _), BU⟩
  case round =>
    clear BU
    obtain ⟨k, oa, oc, vs, rfl, rfl, hk, AL, OW, BU⟩ := hrel
    have HR := Lib.hid (HRU.out wr BU.out)
    have XF := Lib.hid (XFU.out wr BU.out)
    by_cases hkn : k < N
    · have t0 : decide ((k : Int) < (N : Int)) = true := by simp; omega
      have HK64 : Hid ((k : Int) + 1 ≤ 9223372036854775807) := Lib.hid (by have := NB.out; omega)
      obtain ⟨cs, hcs⟩ : ∃ cs, ls[k]? = some cs := ⟨_, List.getElem?_eq_getElem (by rw [HN.out]; exact hkn)⟩
      obtain ⟨R, off, aj, cj, ha, hc, hrd⟩ := RL0.out.at_ k cs hcs
      subst ha
      obtain ⟨hne, hin⟩ := HM.out cs (List.mem_of_getElem? hcs)
      obtain ⟨x0, hx0⟩ : ∃ x, cs[0]? = some x := ⟨_, List.getElem?_eq_getElem (List.length_pos_iff.2 hne)⟩
      have X0 := Lib.hid (hin x0 (List.mem_of_getElem? hx0))
      obtain ⟨i0, hi0⟩ : ∃ i : Nat, Hid (x0 = (i : Int)) := ⟨x0.toNat, Lib.hid (by have := X0.out; omega)⟩
      rw [hi0.out] at hx0 X0
      have IL : Hid (i0 < f.kinds.length) := Lib.hid (by have := X0.out; omega)
      have H0 := Lib.hid hx0
      have CL : Hid (1 ≤ cs.length) := Lib.hid (List.length_pos_iff.2 hne)
      have FB : Hid (furrowB f cs = (!decide (f.kat i0 = 0))) := Lib.hid (by
        unfold furrowB
        rw [show cs.head?.getD 0 = (i0 : Int) by rw [List.head?_eq_getElem?, hx0]; rfl, Int.toNat_natCast])
      obtain ⟨gj, oj, haj, _⟩ := hrd.get hx0
      subst haj
      have RJ := Lib.hid hrd
      have LC := Lib.hid (show LsC wr R (off + k) (some ⟨gj, oj, none⟩) cj cs from ⟨(BU.out.cell (p := ⟨R, off + k, none⟩) (World.block_lt_of_cell? W0 _ hc)).trans hc, hrd.below BU.out⟩)
      obtain ⟨gf, of, haf, _⟩ := HR.out.get (FaceV.kat_at IL.out)
      subst haf
      have FS := Lib.hid (furrowsF_snoc f ls hcs)
      have FL := Lib.hid (furrows_len f ls k)
      clear hx0 hne hin hcs hc hrd
      go_upto_region 5 with fail
      clear t0
      have zi := IL.out
      have zc : 0 < cs.length := by have := CL.out; omega
      have zk : k < N := hkn
      have hd : Below wr.heap.size wr wr.drew := (Below.refl _ _).drew
      replace BU := Lib.hid (BU.out.trans (hd.mono BU.out.size))
      replace HR := Lib.hid (HR.out.below hd)
      replace LC := Lib.hid (LC.out.below hd)
      replace OW := Lib.hid (OW.out.below hd)
      replace XF := Lib.hid (qblk hd XF.out)
      clear hd
      refine zD (fun W => Below wr.drew.heap.size wr.drew W) (Below.refl _ _) (fun hHeld => ?_)
      have BV := Lib.hid hHeld
      generalize wr.drew = V1 at *
      refine zW 0 rfl (.slice (some ⟨R, off, none⟩) N m1) ?_
      refine zW 1 rfl (.int .i64 (k : Int)) ?_
      refine zW 2 rfl (.pointer (some ⟨R, off + k, none⟩)) ?_
      refine zS 3 rfl (.slice (some ⟨gj, oj, none⟩) cs.length cj) (fun W hW => by have c := (LC.out.below hW).cell; go_simp) ?_
      refine zW 4 rfl (.int .i64 (cs.length : Int)) ?_
      refine zW 5 rfl (.bool true) (hy := .inl ⟨by kernel_rfl, by intro W hW; go_simp; first | done | (have := CL.out; simp; omega)⟩) ?_
      refine zW 6 rfl (.bool true) ?_
      refine zW 7 rfl (.pointer (some ⟨p, 3, none⟩)) ?_
      refine zS 8 rfl (.slice (some ⟨gf, of, none⟩) f.kinds.length n) (fun W hW => by have c := qcell (qblk hW XF.out) 3 (.slice (some ⟨gf, of, none⟩) f.kinds.length n) rfl; go_simp) ?_
      refine zW 9 rfl (.slice (some ⟨R, off, none⟩) N m1) ?_
      refine zW 10 rfl (.int .i64 (k : Int)) ?_
      refine zW 11 rfl (.pointer (some ⟨R, off + k, none⟩)) ?_
      refine zS 12 rfl (.slice (some ⟨gj, oj, none⟩) cs.length cj) (fun W hW => by have c := (LC.out.below hW).cell; go_simp) ?_
      refine zW 13 rfl (.pointer (some ⟨gj, oj, none⟩)) ?_
      refine zS 14 rfl (.int .i64 (i0 : Int)) (fun W hW => by have c := (show W.cell? ⟨gj, oj, none⟩ = some (.int .i64 (i0 : Int)) from rdi_at (LC.out.below hW).rd H0.out); go_simp) ?_
      refine zW 15 rfl (.pointer (some ⟨gf, of + i0, none⟩)) ?_
      refine zS 16 rfl (.int .i64 (f.kat i0)) (fun W hW => by have c := rdi_at (HR.out.below hW) (FaceV.kat_at IL.out); go_simp) ?_
      cases hq : (!decide (f.kat i0 = 0))
      · refine zW 17 rfl (.bool false) (hy := .inl ⟨by kernel_rfl, by intro W hW; go_simp; simpa using hq⟩) ?_
        refine zW 18 rfl (.bool false) ?_
        refine zE ?_
        have bz := BV.out
        replace BU := Lib.hid (BU.out.trans (bz.mono BU.out.size))
        replace HR := Lib.hid (HR.out.below bz)
        replace LC := Lib.hid (LC.out.below bz)
        replace OW := Lib.hid (OW.out.below bz)
        replace XF := Lib.hid (qblk bz XF.out)
        clear bz
        clear BV
        have EF : Hid (furrowsF f (ls.take (k + 1)) = furrowsF f (ls.take k)) := Lib.hid (by rw [FS.out, FB.out, hq, if_neg (by decide), List.append_nil])
        go_upto_region 4 with fail
        clear zi zc zk
        have hk64 := HK64.out
        go_wp2_with fail
        go_roundw
        case rel => exact ⟨k + 1, oa, oc, vs, by simp, rfl, by omega, by rw [EF.out]; exact AL, OW, BU⟩
        case measure => simp [intOf]; omega
      · refine zW 17 rfl (.bool true) (hy := .inl ⟨by kernel_rfl, by intro W hW; go_simp; simpa using hq⟩) ?_
        refine zW 18 rfl (.bool true) ?_
        refine zE ?_
        have bz := BV.out
        replace BU := Lib.hid (BU.out.trans (bz.mono BU.out.size))
        replace HR := Lib.hid (HR.out.below bz)
        replace LC := Lib.hid (LC.out.below bz)
        replace OW := Lib.hid (OW.out.below bz)
        replace XF := Lib.hid (qblk bz XF.out)
        clear bz
        clear BV
        have EF : Hid (furrowsF f (ls.take (k + 1)) = furrowsF f (ls.take k) ++ [cs]) := Lib.hid (by rw [FS.out, FB.out, hq, if_pos rfl])
        clear HR
        go_upto_region 6 with fail
        refine yB ?_
        refine yM (.slice oa vs.length oc) ?_
        refine yM (.slice (some ⟨R, off, none⟩) N m1) ?_
        refine yM (.int .i64 (k : Int)) ?_
        refine yW (.pointer (some ⟨R, off + k, none⟩)) ?_
        refine yW (.slice (some ⟨gj, oj, none⟩) cs.length cj) ?_ (.inl ⟨by kernel_rfl, by intro W hW; rw [hW]; have c := LC.out.cell; go_simp⟩)
        refine yR (fun K hK => ?_)
        refine qbuild (w' := V1.alloc (.cells #[.slice (some ⟨gj, oj, none⟩) cs.length cj] 26)) (.slice (some ⟨V1.heap.size, 0, none⟩) 1 1) (by kernel_rfl) ?_
        have LI : Hid (RdA (V1.alloc (.cells #[.slice (some ⟨gj, oj, none⟩) cs.length cj] 26)) 1 (some ⟨V1.heap.size, 0, none⟩) 1 1 [.slice (some ⟨gj, oj, none⟩) cs.length cj]) := Lib.hid (RdA.of_own (World.ownsRow_lit (base := V1.heap.size) (e := 26) (size := 1) V1 #[.slice (some ⟨gj, oj, none⟩) cs.length cj] 1 (Nat.le_refl _) (by unfold maxLen; omega) rfl))
        have b := zB V1 (.cells #[.slice (some ⟨gj, oj, none⟩) cs.length cj] 26)
        obtain ⟨y9, hy9⟩ : ∃ x, Hid (V1.heap.size = x) := ⟨_, Lib.hid rfl⟩
        replace BU := Lib.hid (BU.out.trans (b.mono BU.out.size))
        replace OW := Lib.hid (OW.out.below b)
        clear b LC XF
        rw [hy9.out] at LI ⊢
        generalize hV9 : V1.alloc (.cells #[.slice (some ⟨gj, oj, none⟩) cs.length cj] 26) = X6 at *
        clear hV9
        refine yK hK ?_
        clear hK K
        refine yR (fun K hK => ?_)
        obtain ⟨oa2, oc2, X7, hrun, ho7, _, hb7⟩ := run_app_sl X6 W0.heap.size oa vs.length oc vs OW.out (some ⟨y9, 0, none⟩) 1 1 [.slice (some ⟨gj, oj, none⟩) cs.length cj] LI.out (by intro u hu; rw [List.mem_singleton.1 hu]; rfl) (by have h1 := AL.out.1; have h2 := FL.out; have h3 := NB.out; have h4 : k < N := hkn; omega) BU.out.size
        refine qappend _ _ _ rfl _ _ _ rfl rfl hrun ?_
        clear hrun
        replace OW := Lib.hid (show OwnS W0 X7 oa2 (vs.length + 1) oc2 (vs ++ [.slice (some ⟨gj, oj, none⟩) cs.length cj]) from ho7)
        replace BU := Lib.hid (hb7 _ BU.out)
        clear ho7 hb7 LI
        refine yK hK ?_
        clear hK K
        refine yM (.slice oa2 (vs.length + 1) oc2) ?_
        refine yE ?_
        go_upto_region 4 with fail
        clear zi zc zk
        have hk64 := HK64.out
        go_wp2_with fail
        go_roundw
        case rel =>
          have EL : (vs ++ [Value.slice (some ⟨gj, oj, none⟩) cs.length cj]).length = vs.length + 1 := by simp
          refine ⟨k + 1, oa2, oc2, vs ++ [.slice (some ⟨gj, oj, none⟩) cs.length cj], by simp, by rw [EL], by omega, ?_, ?_, BU⟩
          · rw [EF.out]; exact Lib.hid (AL.out.snoc RJ.out)
          · rw [EL]; exact OW
        case measure => simp [intOf]; omega
    · have t0 : decide ((k : Int) < (N : Int)) = false := by simp; omega
      have e : k = N := by omega
      subst e
      have ET : Hid (ls.take k = ls) := Lib.hid (by rw [← HN.out, List.take_length])
      rw [ET.out] at AL
      go_wp2_with fail
      go_ret
      have EL := AL.out.1
      refine ⟨⟨oa, oc, ?_, ?_⟩, BF1.out.trans (BU.out.mono BF1.out.size)⟩
      · rw [← EL]; rfl
      · rw [← EL]; exact RdLL.of_own OW.out AL.out BU.out
end Go.Proofs.YtimmadkbkimonaaGreatDoor
namespace Go.Proofs.YtimmadkbkimonaaGreatDoor
set_option linter.unusedSimpArgs false
set_option linter.unusedVariables false
open Go.RowKit

theorem cut_w2 {A1 A2 : Type} {P T : A1 → A2 → Prop} {G : Prop} (h1 : (∀ x1 x2, P x1 x2 → T x1 x2) → G) (h2 : ∀ x1 x2, P x1 x2 → T x1 x2) : G := h1 h2
def rowK (D : List Int) (ls : List (List Int)) (i : Nat) : List Int := ((D[i]?).map fun n => (ls[n.toNat]?).getD []).getD []
def goneK (D : List Int) (ls : List (List Int)) (i k : Nat) : List Int := (D.take i).flatMap (fun n => (ls[n.toNat]?).getD []) ++ (rowK D ls i).take k
theorem goneK_zero (D : List Int) (ls : List (List Int)) : goneK D ls 0 0 = [] := by unfold goneK; simp
theorem rowK_of {D : List Int} {ls : List (List Int)} {i dn : Nat} {cs : List Int} (h1 : D[i]? = some (dn : Int)) (h2 : ls[dn]? = some cs) : rowK D ls i = cs := by
  unfold rowK
  rw [h1]
  simp only [Option.map_some, Option.getD_some, Int.toNat_natCast]
  rw [h2]
  rfl
theorem goneK_snoc {D : List Int} {ls : List (List Int)} {i k : Nat} {cs : List Int} {x : Int} (h : rowK D ls i = cs) (hx : cs[k]? = some x) : goneK D ls i (k + 1) = goneK D ls i k ++ [x] := by
  unfold goneK
  rw [h, List.take_add_one, hx, ← List.append_assoc]
  rfl
theorem goneK_next {D : List Int} {ls : List (List Int)} {i k dn : Nat} {cs : List Int} (h1 : D[i]? = some (dn : Int)) (h2 : ls[dn]? = some cs) (hk : cs.length ≤ k) : goneK D ls i k = goneK D ls (i + 1) 0 := by
  unfold goneK
  rw [rowK_of h1 h2, List.take_of_length_le hk, List.take_zero, List.append_nil, List.take_add_one, h1, List.flatMap_append]
  congr 1
  simp only [Option.toList_some, List.flatMap_cons, List.flatMap_nil, List.append_nil, Int.toNat_natCast]
  rw [h2]
  rfl
theorem goneK_all (f : FaceV) : goneK (deadF f) (regListF f) (deadF f).length 0 = goneF f := by
  unfold goneK goneF
  rw [List.take_length, List.take_zero, List.append_nil]
theorem drain_snoc {f : FaceV} (hv : f.valid = true) (g : List Int) {x : Int} (hx : 0 ≤ x ∧ x < f.kinds.length) : setF (drainF f g) (cellF f x) 0 = (drainF f (g ++ [x]), 0) := by
  have hd := drain_valid hv g
  obtain ⟨k1, k2⟩ := cellF_has hv hx
  have k1' : hasF (drainF f g) (cellF f x) = true := k1
  have k2' : indexF (drainF f g) (cellF f x).1 (cellF f x).2 = x := k2
  unfold setF
  rw [if_pos (asked_zero.2 ⟨hd, k1'⟩), if_pos (by decide), k2']
  unfold drainF
  rw [List.foldl_append]
  rfl
theorem deadF_sorted (f : FaceV) : (deadF f).Pairwise (· < ·) := by
  unfold deadF
  rw [List.pairwise_filterMap]
  refine (List.pairwise_lt_range (n := (regListF f).length)).imp fun {a b} h => ?_
  intro x hx y hy
  split at hx
  · cases hx
    split at hy
    · cases hy; omega
    · cases hy
  · cases hx
theorem deadF_at {f : FaceV} {i : Nat} {d : Int} (h : (deadF f)[i]? = some d) : ∃ dn : Nat, d = dn ∧ dn < (regListF f).length := by
  obtain ⟨k, hk, e, _⟩ := deadF_mem.1 (List.mem_of_getElem? h)
  exact ⟨k, e, hk⟩
theorem pairwise_at {l : List Int} (h : l.Pairwise (· < ·)) {i j : Nat} {x y : Int} (hi : l[i]? = some x) (hj : l[j]? = some y) (hij : i < j) : x < y := by
  obtain ⟨h1, rfl⟩ := List.getElem?_eq_some_iff.1 hi
  obtain ⟨h2, rfl⟩ := List.getElem?_eq_some_iff.1 hj
  exact List.pairwise_iff_getElem.1 h i j h1 h2 hij
theorem drop_cons {α : Type} {l : List α} {k : Nat} {x : α} (h : l[k]? = some x) : l.drop k = x :: l.drop (k + 1) := by
  obtain ⟨h1, rfl⟩ := List.getElem?_eq_some_iff.1 h
  exact List.drop_eq_getElem_cons h1
theorem sub_skip {u v : List (List Int)} {k b : Nat} {x y : List Int} (h : (u.drop k).Sublist (v.drop b)) (hx : u[k]? = some x) (hy : v[b]? = some y) (hne : y ≠ x) : (u.drop k).Sublist (v.drop (b + 1)) := by
  rw [drop_cons hx] at h ⊢
  rw [drop_cons hy] at h
  cases h with
  | cons _ h => exact h
  | cons_cons _ h => exact absurd rfl hne
theorem sub_lt {u v : List (List Int)} {k b : Nat} {x : List Int} (h : (u.drop k).Sublist (v.drop b)) (hx : u[k]? = some x) : b < v.length := by
  rcases Nat.lt_or_ge b v.length with h1 | h1
  · exact h1
  · rw [drop_cons hx, List.drop_eq_nil_of_le h1] at h
    cases h
theorem sub_next {u v : List (List Int)} {k b : Nat} {x : List Int} (h : (u.drop k).Sublist (v.drop b)) (hx : u[k]? = some x) : (u.drop (k + 1)).Sublist (v.drop b) := by
  rw [drop_cons hx] at h
  exact (List.sublist_cons_self _ _).trans h
set_option maxHeartbeats 4000000 in
set_option maxRecDepth 100000 in
theorem setO_any (f : FaceV) (a : Option Addr) (n : Nat) (c : CellV) (k : Int) (w : World) (hr : RdI w a f.kinds.length n f.kinds) :
    Calls Tryz.prog 38 #[.agg (f.cells a n), .agg (cellA c), .int .i64 k] w fun e w' => ∃ a' n', e = .returned (.tuple #[.agg ((setF f c k).1.cells a' n'), .int .i64 (setF f c k).2]) ∧ FOwn w w' (setF f c k).1 a' n' ∧ Below w.heap.size w w' := by
  have HR := Lib.hid (fun W (hb : Below w.heap.size w W) => hr.below hb)
  have AK := Lib.hid (fun W (hb : Below w.heap.size w W) => asked_any f a n c W (hr.below hb))
  clear hr
  have AL := Lib.hid (al3 w (.cells (f.cells a n) 28) (.cells (cellA c) 41) (.cells #[.int .i64 0, .int .i64 0, .int .i64 0, .slice none 0 0] 28))
  go_enter Tryz.func38, Tryz.ntmps38
  go_upto_region 1 with fail
  obtain ⟨p, hp⟩ : ∃ p, Hid (w.heap.size = p) := ⟨_, Lib.hid rfl⟩
  obtain ⟨q, hq⟩ : ∃ q, Hid (w.heap.size + 1 = q) := ⟨_, Lib.hid rfl⟩
  obtain ⟨z, hz⟩ : ∃ z, Hid (w.heap.size + 2 = z) := ⟨_, Lib.hid rfl⟩
  rw [hz.out] at AL ⊢
  rw [hq.out] at AL ⊢
  rw [hp.out] at AL ⊢
  generalize (((w.alloc (.cells (f.cells a n) 28)).alloc (.cells (cellA c) 41)).alloc (.cells #[.int .i64 0, .int .i64 0, .int .i64 0, .slice none 0 0] 28)) = W0 at *
  have BF : Hid (Below w.heap.size w W0) := Lib.hid (by rw [hp.out]; exact AL.out.1)
  have XF : Hid (W0.heap[p]? = some (.cells (f.cells a n) 28 (0, 0))) := Lib.hid AL.out.2.1
  have XC : Hid (W0.heap[q]? = some (.cells (cellA c) 41 (0, 0))) := Lib.hid AL.out.2.2.1
  have XZ : Hid (W0.heap[z]? = some (.cells (zeroF.cells none 0) 28 (0, 0))) := Lib.hid AL.out.2.2.2
  clear AL
  have c0 := qcell XF.out 0 (.int .i64 f.eye) rfl
  have c1 := qcell XF.out 1 (.int .i64 f.rings) rfl
  have c2 := qcell XF.out 2 (.int .i64 f.sectors) rfl
  have c3 := qcell XF.out 3 (.slice a f.kinds.length n) rfl
  have d0 := qcell XC.out 0 (.int .i64 c.1) rfl
  have d1 := qcell XC.out 1 (.int .i64 c.2) rfl
  go_wp2_with (first
    | (refine wpList_load_row rfl 28 _ rfl p rfl 28 (f.cells a n) (0, 0) _ XF.out Tryz.underlying28 rfl (by exact (qJF f a n)) ?_)
    | (refine wpList_load_row rfl 41 _ rfl q rfl 41 (cellA c) (0, 0) _ XC.out Tryz.underlying41 rfl (by exact (qJC c)) ?_)
    | (refine wpList_load_row rfl 28 _ rfl z rfl 28 (zeroF.cells none 0) (0, 0) _ XZ.out Tryz.underlying28 rfl (by exact (qJF zeroF none 0)) ?_)
    | fail)
  refine (AK.out W0 BF.out).mono ?_
  rintro e V1 ⟨rfl, b⟩
  clear c0 c1 c2 c3 d0 d1
  replace BF := Lib.hid (BF.out.trans (b.mono BF.out.size))
  replace XF := Lib.hid (qblk b XF.out)
  replace XC := Lib.hid (qblk b XC.out)
  replace XZ := Lib.hid (qblk b XZ.out)
  clear b
  have c0 := qcell XF.out 0 (.int .i64 f.eye) rfl
  have c1 := qcell XF.out 1 (.int .i64 f.rings) rfl
  have c2 := qcell XF.out 2 (.int .i64 f.sectors) rfl
  have c3 := qcell XF.out 3 (.slice a f.kinds.length n) rfl
  have d0 := qcell XC.out 0 (.int .i64 c.1) rfl
  have d1 := qcell XC.out 1 (.int .i64 c.2) rfl
  cases hk : decide (askedF f c ≠ 0)
  · have HK : Hid (askedF f c = 0) := Lib.hid (by simpa using hk)
    have ZK := Lib.hid (asked_zero.1 HK.out)
    have IV := Lib.hid (FaceV.int ZK.out.1)
    have HC := Lib.hid (hasF_iff.1 ZK.out.2)
    have IL := Lib.hid (index_lt ZK.out.1 HC.out.1 c.2)
    have hk2 : (askedF f c != 0) = false := by simpa using hk
    clear hk
    go_wp2_with (first
      | (refine wpList_load_row rfl 28 _ rfl p rfl 28 (f.cells a n) (0, 0) _ XF.out Tryz.underlying28 rfl (by exact (qJF f a n)) ?_)
      | (refine wpList_load_row rfl 41 _ rfl q rfl 41 (cellA c) (0, 0) _ XC.out Tryz.underlying41 rfl (by exact (qJC c)) ?_)
      | (refine wpList_load_row rfl 28 _ rfl z rfl 28 (zeroF.cells none 0) (0, 0) _ XZ.out Tryz.underlying28 rfl (by exact (qJF zeroF none 0)) ?_)
      | fail)
    refine (kind_any k V1).mono ?_
    rintro e V2 ⟨rfl, rfl⟩
    cases hb : kindB k
    · go_wp2_with (first
        | (refine wpList_load_row rfl 28 _ rfl p rfl 28 (f.cells a n) (0, 0) _ XF.out Tryz.underlying28 rfl (by exact (qJF f a n)) ?_)
        | (refine wpList_load_row rfl 41 _ rfl q rfl 41 (cellA c) (0, 0) _ XC.out Tryz.underlying41 rfl (by exact (qJC c)) ?_)
        | (refine wpList_load_row rfl 28 _ rfl z rfl 28 (zeroF.cells none 0) (0, 0) _ XZ.out Tryz.underlying28 rfl (by exact (qJF zeroF none 0)) ?_)
        | (refine wpList_qstore rfl 28 _ _ rfl z (zeroF.cells none 0) (zeroF.cells none 0) 28 rfl rfl XZ.out (by exact (qJF zeroF none 0)) rfl (qone zeroF none 0) ?_; intro VZ hzz hgz; clear c0 c1 c2 c3 d0 d1; replace BF := Lib.hid (qstep BF.out hgz (by have h1 := hz.out; omega)); replace XF := Lib.hid (qgrown hgz XF.out (fun e => by have h1 := hp.out; have h2 := hz.out; have := Option.some.inj e; omega)); replace XC := Lib.hid (qgrown hgz XC.out (fun e => by have h1 := hq.out; have h2 := hz.out; have := Option.some.inj e; omega)); replace XZ := Lib.hid hzz; clear hzz hgz; have c0 := qcell XF.out 0 (.int .i64 f.eye) rfl; have c1 := qcell XF.out 1 (.int .i64 f.rings) rfl; have c2 := qcell XF.out 2 (.int .i64 f.sectors) rfl; have c3 := qcell XF.out 3 (.slice a f.kinds.length n) rfl; have d0 := qcell XC.out 0 (.int .i64 c.1) rfl; have d1 := qcell XC.out 1 (.int .i64 c.2) rfl)
        | fail)
      (try simp only [Exit.inBlock, Exit.then])
      refine bodyPost_ret (results_ct rfl _ VZ z 28 (zeroF.cells none 0) (0, 0) _ rfl XZ.out Tryz.underlying28 rfl (by exact (qJF zeroF none 0))) rfl ?_
      unfold setF
      rw [if_pos HK.out, if_neg (by rw [hb]; decide)]
      exact ⟨none, 0, rfl, FOwn.nil _ _, BF.out⟩
    · have HB := Lib.hid hb
      clear hb
      go_wp2_with (first
        | (refine wpList_load_row rfl 28 _ rfl p rfl 28 (f.cells a n) (0, 0) _ XF.out Tryz.underlying28 rfl (by exact (qJF f a n)) ?_)
        | (refine wpList_load_row rfl 41 _ rfl q rfl 41 (cellA c) (0, 0) _ XC.out Tryz.underlying41 rfl (by exact (qJC c)) ?_)
        | (refine wpList_load_row rfl 28 _ rfl z rfl 28 (zeroF.cells none 0) (0, 0) _ XZ.out Tryz.underlying28 rfl (by exact (qJF zeroF none 0)) ?_)
        | fail)
      refine (cloneZ_any a f.kinds.length n f.kinds V2 (by have h3 := IV.out; have h4 : f.rings * f.sectors ≤ 24 * 96 := Int.mul_le_mul (by omega) (by omega) (by omega) (by omega); omega) (HR.out V2 BF.out)).mono ?_
      rintro e V3 ⟨g, cg, rfl, own, b⟩
      have OW := Lib.hid (own_mono own BF.out.size)
      clear own
      clear c0 c1 c2 c3 d0 d1
      replace BF := Lib.hid (BF.out.trans (b.mono BF.out.size))
      replace XF := Lib.hid (qblk b XF.out)
      replace XC := Lib.hid (qblk b XC.out)
      replace XZ := Lib.hid (qblk b XZ.out)
      clear b
      have c0 := qcell XF.out 0 (.int .i64 f.eye) rfl
      have c1 := qcell XF.out 1 (.int .i64 f.rings) rfl
      have c2 := qcell XF.out 2 (.int .i64 f.sectors) rfl
      have c3 := qcell XF.out 3 (.slice a f.kinds.length n) rfl
      have d0 := qcell XC.out 0 (.int .i64 c.1) rfl
      have d1 := qcell XC.out 1 (.int .i64 c.2) rfl
      go_wp2_with (first
        | (refine wpList_load_row rfl 28 _ rfl p rfl 28 (f.cells a n) (0, 0) _ XF.out Tryz.underlying28 rfl (by exact (qJF f a n)) ?_)
        | (refine wpList_load_row rfl 41 _ rfl q rfl 41 (cellA c) (0, 0) _ XC.out Tryz.underlying41 rfl (by exact (qJC c)) ?_)
        | (refine wpList_load_row rfl 28 _ rfl z rfl 28 (zeroF.cells none 0) (0, 0) _ XZ.out Tryz.underlying28 rfl (by exact (qJF zeroF none 0)) ?_)
        | fail)
      refine (index_any f a n c.1 c.2 V3 (by have := IV.out; omega) (by have := IV.out; have := HC.out; omega)).mono ?_
      rintro e V4 ⟨rfl, b⟩
      replace OW := Lib.hid (own_below OW.out b)
      clear c0 c1 c2 c3 d0 d1
      replace BF := Lib.hid (BF.out.trans (b.mono BF.out.size))
      replace XF := Lib.hid (qblk b XF.out)
      replace XC := Lib.hid (qblk b XC.out)
      replace XZ := Lib.hid (qblk b XZ.out)
      clear b
      have c0 := qcell XF.out 0 (.int .i64 f.eye) rfl
      have c1 := qcell XF.out 1 (.int .i64 f.rings) rfl
      have c2 := qcell XF.out 2 (.int .i64 f.sectors) rfl
      have c3 := qcell XF.out 3 (.slice a f.kinds.length n) rfl
      have d0 := qcell XC.out 0 (.int .i64 c.1) rfl
      have d1 := qcell XC.out 1 (.int .i64 c.2) rfl
      obtain ⟨i, hi⟩ : ∃ i, Hid ((indexF f c.1 c.2).toNat = i) := ⟨_, Lib.hid rfl⟩
      have HI : Hid (indexF f c.1 c.2 = (i : Int)) := Lib.hid (by have := IL.out; have := hi.out; omega)
      have HL : Hid (i < f.kinds.length) := Lib.hid (by have := IL.out; have := hi.out; omega)
      rw [HI.out]
      obtain ⟨gb, hg⟩ : ∃ gb, g = some ⟨gb, 0, none⟩ := by
        rcases OW.out.2 with ⟨h1, h2⟩ | ⟨g', cap, cur, h1, _⟩
        · have := HL.out; omega
        · simp only [Value.slice.injEq] at h1; exact ⟨g', h1.1⟩
      subst hg
      obtain ⟨o1, o2, o3, o4⟩ := own_put OW.out HL.out k
      have hlt : i < f.kinds.length := HL.out
      have gz : gb ≠ p ∧ gb ≠ q ∧ gb ≠ z := by
        obtain ⟨g', cap, cur, h1, _, h2, _⟩ := (OW.out.2.resolve_left (fun h => by cases h.1))
        simp only [Value.slice.injEq, Option.some.injEq, Addr.mk.injEq] at h1
        obtain ⟨⟨rfl, _⟩, _⟩ := h1
        refine ⟨fun e => ?_, fun e => ?_, fun e => ?_⟩ <;> subst e
        · have := XF.out; rw [h2] at this; simp only [Option.some.injEq, Obj.cells.injEq] at this; exact absurd this.2.1 (by decide)
        · have := XC.out; rw [h2] at this; simp only [Option.some.injEq, Obj.cells.injEq] at this; exact absurd this.2.1 (by decide)
        · have := XZ.out; rw [h2] at this; simp only [Option.some.injEq, Obj.cells.injEq] at this; exact absurd this.2.1 (by decide)
      go_upto_region 8 with (first
        | (refine wpList_load_row rfl 28 _ rfl p rfl 28 (f.cells a n) (0, 0) _ XF.out Tryz.underlying28 rfl (by exact (qJF f a n)) ?_)
        | (refine wpList_load_row rfl 41 _ rfl q rfl 41 (cellA c) (0, 0) _ XC.out Tryz.underlying41 rfl (by exact (qJC c)) ?_)
        | (refine wpList_load_row rfl 28 _ rfl z rfl 28 (zeroF.cells none 0) (0, 0) _ XZ.out Tryz.underlying28 rfl (by exact (qJF zeroF none 0)) ?_)
        | fail)
      clear c0 c1 c2 c3 d0 d1
      have HG := qput_grown V4 gb i (.int .i64 k)
      replace BF := Lib.hid (qstep BF.out HG o4)
      replace XF := Lib.hid (qgrown HG XF.out (fun e => gz.1 (Option.some.inj e).symm))
      replace XC := Lib.hid (qgrown HG XC.out (fun e => gz.2.1 (Option.some.inj e).symm))
      replace XZ := Lib.hid (qgrown HG XZ.out (fun e => gz.2.2 (Option.some.inj e).symm))
      replace OW := Lib.hid o1
      clear HG o1 o2 o3 o4 gz hlt
      generalize V4.setCell ⟨gb, i, none⟩ (.int .i64 k) = V5 at *
      have c0 := qcell XF.out 0 (.int .i64 f.eye) rfl
      have c1 := qcell XF.out 1 (.int .i64 f.rings) rfl
      have c2 := qcell XF.out 2 (.int .i64 f.sectors) rfl
      have c3 := qcell XF.out 3 (.slice a f.kinds.length n) rfl
      have d0 := qcell XC.out 0 (.int .i64 c.1) rfl
      have d1 := qcell XC.out 1 (.int .i64 c.2) rfl
      go_wp2_with (first
        | (refine wpList_load_row rfl 28 _ rfl p rfl 28 (f.cells a n) (0, 0) _ XF.out Tryz.underlying28 rfl (by exact (qJF f a n)) ?_)
        | (refine wpList_load_row rfl 41 _ rfl q rfl 41 (cellA c) (0, 0) _ XC.out Tryz.underlying41 rfl (by exact (qJC c)) ?_)
        | (refine wpList_load_row rfl 28 _ rfl z rfl 28 (zeroF.cells none 0) (0, 0) _ XZ.out Tryz.underlying28 rfl (by exact (qJF zeroF none 0)) ?_)
        | fail)
      refine (with_any f a n (f.kinds.set i k) (some ⟨gb, 0, none⟩) f.kinds.length cg V5 (by rw [List.length_set])).mono ?_
      rintro e V6 ⟨rfl, b⟩
      replace OW := Lib.hid (own_below OW.out b)
      clear c0 c1 c2 c3 d0 d1
      replace BF := Lib.hid (BF.out.trans (b.mono BF.out.size))
      replace XF := Lib.hid (qblk b XF.out)
      replace XC := Lib.hid (qblk b XC.out)
      replace XZ := Lib.hid (qblk b XZ.out)
      clear b
      have c0 := qcell XF.out 0 (.int .i64 f.eye) rfl
      have c1 := qcell XF.out 1 (.int .i64 f.rings) rfl
      have c2 := qcell XF.out 2 (.int .i64 f.sectors) rfl
      have c3 := qcell XF.out 3 (.slice a f.kinds.length n) rfl
      have d0 := qcell XC.out 0 (.int .i64 c.1) rfl
      have d1 := qcell XC.out 1 (.int .i64 c.2) rfl
      go_wp2_with (first
        | (refine wpList_load_row rfl 28 _ rfl p rfl 28 (f.cells a n) (0, 0) _ XF.out Tryz.underlying28 rfl (by exact (qJF f a n)) ?_)
        | (refine wpList_load_row rfl 41 _ rfl q rfl 41 (cellA c) (0, 0) _ XC.out Tryz.underlying41 rfl (by exact (qJC c)) ?_)
        | (refine wpList_load_row rfl 28 _ rfl z rfl 28 (zeroF.cells none 0) (0, 0) _ XZ.out Tryz.underlying28 rfl (by exact (qJF zeroF none 0)) ?_)
        | (refine wpList_qstore rfl 28 _ _ rfl z (zeroF.cells none 0) ((withF f (f.kinds.set i k)).cells (some ⟨gb, 0, none⟩) cg) 28 rfl rfl XZ.out (by exact (qJF (withF f (f.kinds.set i k)) (some ⟨gb, 0, none⟩) cg)) rfl (qone (withF f (f.kinds.set i k)) (some ⟨gb, 0, none⟩) cg) ?_; intro VZ hzz hgz; clear c0 c1 c2 c3 d0 d1; replace BF := Lib.hid (qstep BF.out hgz (by have h1 := hz.out; omega)); replace XF := Lib.hid (qgrown hgz XF.out (fun e => by have h1 := hp.out; have h2 := hz.out; have := Option.some.inj e; omega)); replace XC := Lib.hid (qgrown hgz XC.out (fun e => by have h1 := hq.out; have h2 := hz.out; have := Option.some.inj e; omega)); have OW2 := Lib.hid (OW.out.kept hgz (.inr (qown_no OW.out XZ.out (by simp)).symm)); replace XZ := Lib.hid hzz; clear hzz hgz; have c0 := qcell XF.out 0 (.int .i64 f.eye) rfl; have c1 := qcell XF.out 1 (.int .i64 f.rings) rfl; have c2 := qcell XF.out 2 (.int .i64 f.sectors) rfl; have c3 := qcell XF.out 3 (.slice a f.kinds.length n) rfl; have d0 := qcell XC.out 0 (.int .i64 c.1) rfl; have d1 := qcell XC.out 1 (.int .i64 c.2) rfl)
        | fail)
      (try simp only [Exit.inBlock, Exit.then])
      refine bodyPost_ret (results_ct rfl _ VZ z 28 ((withF f (f.kinds.set i k)).cells (some ⟨gb, 0, none⟩) cg) (0, 0) _ rfl XZ.out Tryz.underlying28 rfl (by exact (qJF (withF f (f.kinds.set i k)) (some ⟨gb, 0, none⟩) cg))) rfl ?_
      unfold setF
      rw [if_pos HK.out, if_pos HB.out, hi.out]
      refine ⟨some ⟨gb, 0, none⟩, cg, rfl, ?_, BF.out⟩
      have := OW2.out
      show World.ownsRow VZ w.heap.size 3 1 (.slice _ (f.kinds.set i k).length cg) (f.kinds.set i k).length ((f.kinds.set i k).map intV)
      rw [List.length_set]
      exact this
  · have HK : Hid (askedF f c ≠ 0) := Lib.hid (by simpa using hk)
    have hk2 : (askedF f c != 0) = true := by simpa using hk
    clear hk
    go_wp2_with (first
      | (refine wpList_load_row rfl 28 _ rfl p rfl 28 (f.cells a n) (0, 0) _ XF.out Tryz.underlying28 rfl (by exact (qJF f a n)) ?_)
      | (refine wpList_load_row rfl 41 _ rfl q rfl 41 (cellA c) (0, 0) _ XC.out Tryz.underlying41 rfl (by exact (qJC c)) ?_)
      | (refine wpList_load_row rfl 28 _ rfl z rfl 28 (zeroF.cells none 0) (0, 0) _ XZ.out Tryz.underlying28 rfl (by exact (qJF zeroF none 0)) ?_)
      | (refine wpList_qstore rfl 28 _ _ rfl z (zeroF.cells none 0) (zeroF.cells none 0) 28 rfl rfl XZ.out (by exact (qJF zeroF none 0)) rfl (qone zeroF none 0) ?_; intro VZ hzz hgz; clear c0 c1 c2 c3 d0 d1; replace BF := Lib.hid (qstep BF.out hgz (by have h1 := hz.out; omega)); replace XF := Lib.hid (qgrown hgz XF.out (fun e => by have h1 := hp.out; have h2 := hz.out; have := Option.some.inj e; omega)); replace XC := Lib.hid (qgrown hgz XC.out (fun e => by have h1 := hq.out; have h2 := hz.out; have := Option.some.inj e; omega)); replace XZ := Lib.hid hzz; clear hzz hgz; have c0 := qcell XF.out 0 (.int .i64 f.eye) rfl; have c1 := qcell XF.out 1 (.int .i64 f.rings) rfl; have c2 := qcell XF.out 2 (.int .i64 f.sectors) rfl; have c3 := qcell XF.out 3 (.slice a f.kinds.length n) rfl; have d0 := qcell XC.out 0 (.int .i64 c.1) rfl; have d1 := qcell XC.out 1 (.int .i64 c.2) rfl)
      | fail)
    (try simp only [Exit.inBlock, Exit.then])
    refine bodyPost_ret (results_ct rfl _ VZ z 28 (zeroF.cells none 0) (0, 0) _ rfl XZ.out Tryz.underlying28 rfl (by exact (qJF zeroF none 0))) rfl ?_
    unfold setF
    rw [if_neg HK.out]
    exact ⟨none, 0, rfl, FOwn.nil _ _, BF.out⟩
end Go.Proofs.YtimmadkbkimonaaGreatDoor
namespace Go.Proofs.YtimmadkbkimonaaGreatDoor
set_option linter.unusedSimpArgs false
set_option linter.unusedVariables false
open Go.RowKit

set_option maxHeartbeats 4000000 in
set_option maxRecDepth 100000 in
theorem drained_any (f : FaceV) (a : Option Addr) (n : Nat) (w : World) (he : EnvW w) (hr : RdI w a f.kinds.length n f.kinds) :
    Calls Tryz.prog 7 #[.agg (f.cells a n)] w fun e w' => e = .returned (.bool true) ∧ Below w.heap.size w w' := by
  have EV := Lib.hid (fun W (hb : Below w.heap.size w W) => he.below hb)
  have HR := Lib.hid hr
  have HRW := Lib.hid hr
  clear he hr
  have AL := Lib.hid (al1 w (.cells (f.cells a n) 28))
  go_enter Tryz.func7, Tryz.ntmps7
  go_upto_region 1 with fail
  obtain ⟨p, hp⟩ : ∃ p, Hid (w.heap.size = p) := ⟨_, Lib.hid rfl⟩
  rw [hp.out] at AL ⊢
  generalize (w.alloc (.cells (f.cells a n) 28)) = W0 at *
  have BF : Hid (Below w.heap.size w W0) := Lib.hid (by rw [hp.out]; exact AL.out.1)
  have XF : Hid (W0.heap[p]? = some (.cells (f.cells a n) 28 (0, 0))) := Lib.hid AL.out.2
  clear AL
  have c0 := qcell XF.out 0 (.int .i64 f.eye) rfl
  have c1 := qcell XF.out 1 (.int .i64 f.rings) rfl
  have c2 := qcell XF.out 2 (.int .i64 f.sectors) rfl
  have c3 := qcell XF.out 3 (.slice a f.kinds.length n) rfl
  clear c0 c1 c2 c3
  replace HR := Lib.hid (HR.out.below BF.out)
  go_upto_region 1 with fail
  refine yB ?_
  refine yR (fun K hK => ?_)
  go_simp
  refine (awake_any _ (EV.out _ BF.out)).mono ?_
  rintro e U1 ⟨rfl, b⟩
  replace BF := Lib.hid (BF.out.trans (b.mono BF.out.size))
  replace HR := Lib.hid (HR.out.below b)
  replace XF := Lib.hid (qblk b XF.out)
  clear b
  try dsimp only
  refine yK hK ?_
  clear hK K
  refine yM (.bool true) ?_
  refine yE ?_
  go_upto_region 2 with fail
  refine yB ?_
  refine yW (.agg (f.cells a n)) ?_ (qyrow (by kernel_rfl) 28 _ rfl p rfl _ 28 (0, 0) _ (fun W hW => by rw [hW]; exact XF.out) Tryz.underlying28 rfl (by exact (qJF f a n)))
  refine yR (fun K hK => ?_)
  go_simp
  refine (few_any f a n _).mono ?_
  rintro e U2 ⟨rfl, b⟩
  replace BF := Lib.hid (BF.out.trans (b.mono BF.out.size))
  replace HR := Lib.hid (HR.out.below b)
  replace XF := Lib.hid (qblk b XF.out)
  clear b
  cases hf : decide (f.kinds.length ≤ 200)
  · try dsimp only
    refine yK hK ?_
    clear hK K
    refine yM (.bool true) ?_
    refine yE ?_
    go_wp2_with fail
    go_ret
    exact ⟨rfl, BF.out⟩
  · try dsimp only
    refine yK hK ?_
    clear hK K
    refine yM (.bool false) ?_
    refine yE ?_
    by_cases hv : f.valid = true
    · have HV := Lib.hid hv
      have IV := Lib.hid (FaceV.int HV.out)
      have LL := Lib.hid (FaceV.len_le HV.out)
      have PE : Hid (regionsP f = (regListF f, 0)) := Lib.hid (by unfold regionsP; rw [if_pos hv])
      have DE : Hid (deadP f = (deadF f, 0)) := Lib.hid (by unfold deadP; rw [if_pos hv])
      have DSO := Lib.hid (deadF_sorted f)
      have DAT := Lib.hid (fun (i : Nat) (d : Int) (h : (deadF f)[i]? = some d) => deadF_at h)
      have GAL := Lib.hid (goneK_all f)
      have RGM := Lib.hid (fun (k : Nat) (cs : List Int) (h : (regListF f)[k]? = some cs) => rg_mem HV.out h)
      have DRY := Lib.hid (drained_dry HV.out)
      have LEFT := Lib.hid (drained_left HV.out)
      have DLEN := Lib.hid (drained_len HV.out)
      have LSB : Hid ((regListF f).length ≤ 2304) := Lib.hid (by
        rw [regList_len]
        have h3 := (regionsN_le f f.kinds.length).2
        have h4 := LL.out
        have h5 : (regionsF f).2 = (regionsN f f.kinds.length).2 := rfl
        omega)
      have NDB : Hid ((deadF f).length ≤ 2304) := Lib.hid (Nat.le_trans (deadK_len f (regListF f).length) LSB.out)
      clear hv
      obtain ⟨ls, hls⟩ : ∃ z, Hid (regListF f = z) := ⟨_, Lib.hid rfl⟩
      obtain ⟨D, hD⟩ : ∃ z, Hid (deadF f = z) := ⟨_, Lib.hid rfl⟩
      rw [hls.out] at PE DAT GAL RGM LEFT DLEN LSB
      rw [hD.out] at DE DSO DAT GAL NDB DLEN
      obtain ⟨NS, hNS⟩ : ∃ z, Hid (ls.length = z) := ⟨_, Lib.hid rfl⟩
      obtain ⟨ND, hND⟩ : ∃ z, Hid (D.length = z) := ⟨_, Lib.hid rfl⟩
      rw [hNS.out] at DAT LSB
      rw [hND.out] at GAL NDB DLEN
      have KW : Hid (∀ b off, a = some ⟨b, off, none⟩ → b < w.heap.size) := Lib.hid (fun b off e => by
        obtain ⟨b0, off0, e2, h2⟩ := HRW.out.get (FaceV.kat_at (f := f) (k := 0) (by have h := FaceV.nat HV.out; rw [h.2.2.2.2.2.2]; exact Nat.mul_pos (by omega) (by omega)))
        rw [e2] at e
        cases e
        exact World.block_lt_of_cell? w _ h2)
      go_upto_region 4 with fail
      refine yB ?_
      refine yW (.agg (f.cells a n)) ?_ (qyrow (by kernel_rfl) 28 _ rfl p rfl _ 28 (0, 0) _ (fun W hW => by rw [hW]; exact XF.out) Tryz.underlying28 rfl (by exact (qJF f a n)))
      refine yR (fun K hK => ?_)
      go_simp
      refine (regionsP_any f a n _ HR.out).mono ?_
      rintro e U3 ⟨⟨la, lm, rfl, own⟩, b9⟩
      have b := b9
      clear b9
      rw [PE.out] at own ⊢
      try dsimp only at own ⊢
      rw [hNS.out] at own ⊢
      have RL := Lib.hid own
      clear own
      replace BF := Lib.hid (BF.out.trans (b.mono BF.out.size))
      replace HR := Lib.hid (HR.out.below b)
      replace XF := Lib.hid (qblk b XF.out)
      clear b
      try dsimp only
      refine yK hK ?_
      clear hK K
      refine yM (.tuple #[.slice la NS lm, .int .i64 0]) ?_
      refine yM (.slice la NS lm) ?_
      refine yM (.int .i64 0) ?_
      refine yM (.slice la NS lm) ?_
      refine yM (.int .i64 0) ?_
      refine yE ?_
      go_upto_region 5 with fail
      refine yB ?_
      refine yW (.agg (f.cells a n)) ?_ (qyrow (by kernel_rfl) 28 _ rfl p rfl _ 28 (0, 0) _ (fun W hW => by rw [hW]; exact XF.out) Tryz.underlying28 rfl (by exact (qJF f a n)))
      refine yR (fun K hK => ?_)
      go_simp
      refine (deadP_any f a n _ HR.out).mono ?_
      rintro e U4 ⟨⟨da, dm, rfl, own⟩, b9⟩
      have b := b9
      clear b9
      rw [DE.out] at own ⊢
      try dsimp only at own ⊢
      rw [hND.out] at own ⊢
      have RD : Hid (RdI U4 da ND dm D) := Lib.hid (RdA.of_own own)
      clear own
      replace BF := Lib.hid (BF.out.trans (b.mono BF.out.size))
      replace HR := Lib.hid (HR.out.below b)
      replace RL := Lib.hid (RL.out.below b)
      replace XF := Lib.hid (qblk b XF.out)
      clear b
      try dsimp only
      refine yK hK ?_
      clear hK K
      refine yM (.tuple #[.slice da ND dm, .int .i64 0]) ?_
      refine yM (.slice da ND dm) ?_
      refine yM (.int .i64 0) ?_
      refine yM (.slice da ND dm) ?_
      refine yM (.int .i64 0) ?_
      refine yE ?_
      go_upto_region 6 with fail
      refine yB ?_
      refine yM (.int .i64 0) ?_
      refine yW (.bool false) ?_ (.inl ⟨by kernel_rfl, by intro W hW; (try rw [hW]); go_simp; (try simp)⟩)
      refine yM (.bool false) ?_
      refine yM (.int .i64 0) ?_
      refine yW (.bool false) ?_ (.inl ⟨by kernel_rfl, by intro W hW; (try rw [hW]); go_simp; (try simp)⟩)
      refine yM (.bool false) ?_
      refine yE ?_
      have HR0 := HR
      have RL0 := RL
      have RD0 := RD
      have XF0 := XF
      have BF0 := BF
      clear HR RL RD BF
      generalize hUV : U4 = UV at *
      have BU := Lib.hid (Below.refl UV.heap.size UV)
      clear hUV
      go_upto_region 8 with fail
      refine yB ?_
      refine yW (.agg (f.cells a n)) ?_ (qyrow (by kernel_rfl) 28 _ rfl p rfl _ 28 (0, 0) _ (fun W hW => by rw [hW]; exact XF.out) Tryz.underlying28 rfl (by exact (qJF f a n)))
      refine yR (fun K hK => ?_)
      refine qbuild (w' := UV.alloc (.cells #[.int .i64 0, .int .i64 0, .int .i64 0, .slice none 0 0] 28)) (.pointer (some ⟨UV.heap.size, 0, none⟩)) (by kernel_rfl) ?_
      obtain ⟨x8, hx8⟩ : ∃ x, Hid (UV.heap.size = x) := ⟨_, Lib.hid rfl⟩
      have AL := Lib.hid (al1 UV (.cells #[.int .i64 0, .int .i64 0, .int .i64 0, .slice none 0 0] 28))
      rw [hx8.out] at AL ⊢
      refine yK hK ?_
      clear hK K
      refine yR (fun K hK => ?_)
      refine qstore 28 _ _ rfl x8 #[.int .i64 0, .int .i64 0, .int .i64 0, .slice none 0 0] (f.cells a n) 28 rfl rfl AL.out.2 (by exact qJF f a n) rfl (qone f a n) ?_
      intro U5 h8 hg8 hs8
      have b : Below UV.heap.size UV U5 := qstep (by have h1 := AL.out.1; rw [← hx8.out] at h1; exact h1) hg8 (Nat.le_of_eq hx8.out)
      replace BU := Lib.hid (BU.out.trans (b.mono BU.out.size))
      clear b
      have Xx8 := Lib.hid h8
      clear h8 hg8 hs8 AL
      refine yK hK ?_
      clear hK K
      refine yE ?_
      have OGE : Hid (UV.heap.size ≤ x8 ∧ w.heap.size ≤ x8) := Lib.hid (by have h1 := hx8.out; have h4 := BF0.out.size; omega)
      have KG : Hid (KOk U5 x8 a (drainF f (goneK D ls 0 0)).kinds.length n (drainF f (goneK D ls 0 0)).kinds) := Lib.hid (by rw [goneK_zero]; exact ⟨HR0.out.below BU.out, fun b off e e2 => by have h1 := KW.out b off e; have h2 := OGE.out; omega⟩)
      have XO : Hid (U5.heap[x8]? = some (.cells ((drainF f (goneK D ls 0 0)).cells a n) 28 (0, 0))) := Lib.hid (by rw [goneK_zero]; exact Xx8.out)
      clear Xx8 XF
      generalize x8 = o at *
      go_wp2_with fail
      generalize U5 = Y1 at *
      go_loopw [9] (fun v wr => ∃ (i : Nat) (ga : Option Addr) (gn : Nat), v = .int .i64 (i : Int) ∧ i ≤ ND ∧ Hid (Below UV.heap.size UV wr) ∧ Hid (KOk wr o ga (drainF f (goneK D ls i 0)).kinds.length gn (drainF f (goneK D ls i 0)).kinds) ∧ Hid (wr.heap[o]? = some (.cells ((drainF f (goneK D ls i 0)).cells ga gn) 28 (0, 0)))) (fun v _ => ND - (intOf v).toNat)
      case atStart => exact ⟨0, a, n, rfl, Nat.zero_le _, BU, KG, XO⟩
      case round =>
        clear BU KG XO
        obtain ⟨i, ga, gn, rfl, hi, BU, KG, XO⟩ := hrel
        have HR := Lib.hid (HR0.out.below BU.out)
        have RL := Lib.hid (RL0.out.below BU.out)
        have RD := Lib.hid (RD0.out.below BU.out)
        have XF := Lib.hid (qblk BU.out XF0.out)
        by_cases hin : i < ND
        · have t0 : decide ((i : Int) < (ND : Int)) = true := by simp; omega
          have HI64 : Hid ((i : Int) + 1 ≤ 9223372036854775807) := Lib.hid (by have := NDB.out; omega)
          have HIN : Hid (i < ND) := Lib.hid hin
          obtain ⟨d, hd⟩ : ∃ d, D[i]? = some d := ⟨_, List.getElem?_eq_getElem (by rw [hND.out]; exact hin)⟩
          obtain ⟨dn, hdn, hdl⟩ := DAT.out i d hd
          subst hdn
          obtain ⟨d2, hd2⟩ : ∃ d, D[i - 1]? = some d := ⟨_, List.getElem?_eq_getElem (by rw [hND.out]; omega)⟩
          obtain ⟨cs, hcs⟩ : ∃ cs, ls[dn]? = some cs := ⟨_, List.getElem?_eq_getElem (by rw [hNS.out]; exact hdl)⟩
          have HDI := Lib.hid hd
          have HD2 := Lib.hid hd2
          have HDL : Hid (dn < NS) := Lib.hid hdl
          have HCS := Lib.hid hcs
          have SRT : Hid (0 < i → d2 < (dn : Int)) := Lib.hid (fun h0 => pairwise_at DSO.out hd2 hd (by omega))
          have RK := Lib.hid (rowK_of hd hcs)
          have CSM := Lib.hid (RGM.out dn cs hcs)
          have CSB : Hid (cs.length ≤ 2304) := Lib.hid (by
            have h1 := HCS.out
            rw [← hls.out] at h1
            have h4 := (List.getElem?_eq_some_iff.1 h1).1
            rw [regList_len] at h4
            rw [regList_at h4] at h1
            have h3 := Option.some.inj h1
            rw [← h3]
            exact Nat.le_trans (regAt_len _ _ _ _) LL.out)
          obtain ⟨R, off, aj, cj, ha, hc, hrd⟩ := RL0.out.at_ dn cs hcs
          subst ha
          obtain ⟨gd, od, hgd, _⟩ := RD0.out.get hd
          subst hgd
          have LC0 := Lib.hid (show LsC UV R (off + dn) aj cj cs from ⟨hc, hrd⟩)
          have LC := Lib.hid (LC0.out.below BU.out)
          obtain ⟨CL, hCL⟩ : ∃ z, Hid (cs.length = z) := ⟨_, Lib.hid rfl⟩
          obtain ⟨i2, hi2⟩ : ∃ z : Nat, Hid (i - 1 = z) := ⟨_, Lib.hid rfl⟩
          have WSI : Hid (0 < i → wrap64 ((i : Int) - 1) = (i2 : Int)) := Lib.hid (fun h0 => by have h1 := hi2.out; have h2 := HIN.out; have h3 := NDB.out; unfold wrap64; omega)
          rw [hi2.out] at HD2
          have I2L : Hid (i2 < ND) := Lib.hid (by have := hi2.out; omega)
          obtain ⟨G, hG⟩ : ∃ z, Hid (drainF f (goneK D ls i 0) = z) := ⟨_, Lib.hid rfl⟩
          rw [hG.out] at KG XO
          clear hd hd2 hdl hcs hc hrd
          go_upto_region 12 with fail
          clear t0
          have zi : i < ND := HIN.out
          have zi2 : i2 < ND := I2L.out
          have zd : dn < NS := HDL.out
          have hd : Below wr.heap.size wr wr.drew := (Below.refl _ _).drew
          replace BU := Lib.hid (BU.out.trans (hd.mono BU.out.size))
          replace HR := Lib.hid (HR.out.below hd)
          replace RL := Lib.hid (RL.out.below hd)
          replace RD := Lib.hid (RD.out.below hd)
          replace KG := Lib.hid (KG.out.below hd)
          replace LC := Lib.hid (LC.out.below hd)
          replace XF := Lib.hid (qblk hd XF.out)
          replace XO := Lib.hid (qblk hd XO.out)
          clear hd
          refine zD (fun W => Below wr.drew.heap.size wr.drew W) (Below.refl _ _) (fun hHeld => ?_)
          have BV := Lib.hid hHeld
          generalize wr.drew = V1 at *
          refine zW 0 rfl (.slice (some ⟨gd, od, none⟩) ND dm) ?_
          refine zW 1 rfl (.int .i64 (i : Int)) ?_
          refine zW 2 rfl (.pointer (some ⟨gd, od + i, none⟩)) ?_
          refine zS 3 rfl (.int .i64 (dn : Int)) (fun W hW => by have c := rdi_at (RD.out.below hW) HDI.out; go_simp) ?_
          refine zW 4 rfl (.bool false) (hy := .inl ⟨by kernel_rfl, by intro W hW; go_simp; first | done | (simp; done) | (simp; omega)⟩) ?_
          refine zW 5 rfl (.bool false) ?_
          refine zW 6 rfl (.slice (some ⟨gd, od, none⟩) ND dm) ?_
          refine zW 7 rfl (.int .i64 (i : Int)) ?_
          refine zW 8 rfl (.pointer (some ⟨gd, od + i, none⟩)) ?_
          refine zS 9 rfl (.int .i64 (dn : Int)) (fun W hW => by have c := rdi_at (RD.out.below hW) HDI.out; go_simp) ?_
          refine zW 10 rfl (.slice (some ⟨R, off, none⟩) NS lm) ?_
          refine zW 11 rfl (.int .i64 (NS : Int)) ?_
          refine zW 12 rfl (.bool false) (hy := .inl ⟨by kernel_rfl, by intro W hW; go_simp; first | done | (simp; done) | (simp; omega)⟩) ?_
          refine zW 13 rfl (.bool false) ?_
          refine zW 14 rfl (.bool false) ?_
          refine zW 15 rfl (.int .i64 (i : Int)) ?_
          cases hi0 : decide ((0 : Int) < (i : Int))
          · refine zW 16 rfl (.bool false) (hy := .inl ⟨by kernel_rfl, by intro W hW; go_simp; first | done | (simpa using hi0) | (have h9 := of_decide_eq_true hi0; omega) | (have h9 := of_decide_eq_false hi0; omega)⟩) ?_
            refine zW 17 rfl (.bool false) ?_
            refine zW 18 rfl undef (hy := .inr ⟨by kernel_rfl, rfl⟩) ?_
            refine zW 19 rfl undef (hy := .inr ⟨by kernel_rfl, rfl⟩) ?_
            refine zW 20 rfl undef (hy := .inr ⟨by kernel_rfl, rfl⟩) ?_
            refine zW 21 rfl undef (hy := .inr ⟨by kernel_rfl, rfl⟩) ?_
            refine zW 22 rfl undef (hy := .inr ⟨by kernel_rfl, rfl⟩) ?_
            refine zW 23 rfl undef (hy := .inr ⟨by kernel_rfl, rfl⟩) ?_
            refine zW 24 rfl undef (hy := .inr ⟨by kernel_rfl, rfl⟩) ?_
            refine zW 25 rfl undef (hy := .inr ⟨by kernel_rfl, rfl⟩) ?_
            refine zW 26 rfl undef (hy := .inr ⟨by kernel_rfl, rfl⟩) ?_
            refine zW 27 rfl undef (hy := .inr ⟨by kernel_rfl, rfl⟩) ?_
            refine zW 28 rfl (.bool false) ?_
            refine zW 29 rfl (.bool false) ?_
            refine zE ?_
            have bz := BV.out
            replace BU := Lib.hid (BU.out.trans (bz.mono BU.out.size))
            replace HR := Lib.hid (HR.out.below bz)
            replace RL := Lib.hid (RL.out.below bz)
            replace RD := Lib.hid (RD.out.below bz)
            replace KG := Lib.hid (KG.out.below bz)
            replace LC := Lib.hid (LC.out.below bz)
            replace XF := Lib.hid (qblk bz XF.out)
            replace XO := Lib.hid (qblk bz XO.out)
            clear bz
            clear BV
            clear zi zi2 zd
            clear HR RL RD LC XF
            rw [← hG.out] at KG XO
            clear hG
            go_wp2_with fail
            generalize V1 = Y2 at *
            go_loopw [10] (fun v wr => ∃ (k : Nat) (ga : Option Addr) (gn : Nat), v = .int .i64 (k : Int) ∧ k ≤ CL ∧ Hid (Below UV.heap.size UV wr) ∧ Hid (KOk wr o ga (drainF f (goneK D ls i k)).kinds.length gn (drainF f (goneK D ls i k)).kinds) ∧ Hid (wr.heap[o]? = some (.cells ((drainF f (goneK D ls i k)).cells ga gn) 28 (0, 0)))) (fun v _ => CL - (intOf v).toNat)
            case atStart => exact ⟨0, ga, gn, rfl, Nat.zero_le _, BU, KG, XO⟩
            case round =>
              clear BU KG XO
              obtain ⟨k, ga, gn, rfl, hk, BU, KG, XO⟩ := hrel
              have HR := Lib.hid (HR0.out.below BU.out)
              have RL := Lib.hid (RL0.out.below BU.out)
              have RD := Lib.hid (RD0.out.below BU.out)
              have XF := Lib.hid (qblk BU.out XF0.out)
              have LC := Lib.hid (LC0.out.below BU.out)
              obtain ⟨G, hG⟩ : ∃ z, Hid (drainF f (goneK D ls i k) = z) := ⟨_, Lib.hid rfl⟩
              rw [hG.out] at KG XO
              by_cases hkc : k < CL
              · have HK64 : Hid ((k : Int) + 1 ≤ 9223372036854775807) := Lib.hid (by have := CSB.out; have := hCL.out; omega)
                have HKC : Hid (k < CL) := Lib.hid hkc
                obtain ⟨x, hx⟩ : ∃ x, cs[k]? = some x := ⟨_, List.getElem?_eq_getElem (by rw [hCL.out]; exact hkc)⟩
                have HXI := Lib.hid (CSM.out.2 x (List.mem_of_getElem? hx))
                have HXV := Lib.hid hx
                have GS := Lib.hid (goneK_snoc (k := k) RK.out hx)
                have DSN := Lib.hid (drain_snoc HV.out (goneK D ls i k) HXI.out)
                rw [hG.out, ← GS.out] at DSN
                have CPX := Lib.hid (cellP_of HV.out HXI.out)
                obtain ⟨gj, oj, haj, _⟩ := LC0.out.rd.get hx
                subst haj
                obtain ⟨G2, hG2⟩ : ∃ z, Hid (drainF f (goneK D ls i (k + 1)) = z) := ⟨_, Lib.hid rfl⟩
                rw [hG2.out] at DSN
                clear hx
                have tc : decide ((k : Int) < (CL : Int)) = true := by simp; omega
                go_upto_region 15 with fail
                have zi : i < ND := HIN.out
                have zd : dn < NS := HDL.out
                refine yB ?_
                refine yM (.int .i64 (k : Int)) ?_
                refine yM (.slice (some ⟨R, off, none⟩) NS lm) ?_
                refine yM (.slice (some ⟨gd, od, none⟩) ND dm) ?_
                refine yM (.int .i64 (i : Int)) ?_
                refine yW (.pointer (some ⟨gd, od + i, none⟩)) ?_
                refine yW (.int .i64 (dn : Int)) ?_ (.inl ⟨by kernel_rfl, by intro W hW; rw [hW]; have c := rdi_at (RD.out) HDI.out; go_simp⟩)
                refine yW (.pointer (some ⟨R, off + dn, none⟩)) ?_
                refine yW (.slice (some ⟨gj, oj, none⟩) CL cj) ?_ (.inl ⟨by kernel_rfl, by intro W hW; rw [hW]; have c := (LC.out).cell; rw [hCL.out] at c; go_simp⟩)
                refine yW (.int .i64 (CL : Int)) ?_
                refine yW (.bool true) ?_ (.inl ⟨by kernel_rfl, by intro W hW; rw [hW]; go_simp; first | done | exact tc | (simp; omega)⟩)
                refine yE ?_
                clear zi zd tc
                go_upto_region 17 with fail
                have zi : i < ND := HIN.out
                have zd : dn < NS := HDL.out
                have zk : k < CL := HKC.out
                apply cut_w2 (P := fun (W9 : World) (x11 : Nat) => Hid (Below UV.heap.size UV W9 ∧ RdI W9 a f.kinds.length n f.kinds ∧ RdLL W9 (some ⟨R, off, none⟩) NS lm ls ∧ RdI W9 (some ⟨gd, od, none⟩) ND dm D ∧ KOk W9 o ga G.kinds.length gn G.kinds ∧ LsC W9 R (off + dn) (some ⟨gj, oj, none⟩) cj cs ∧ W9.heap[p]? = some (.cells (f.cells a n) 28 (0, 0)) ∧ W9.heap[o]? = some (.cells (G.cells ga gn) 28 (0, 0)) ∧ W9.heap[x11]? = some (.cells (cellA (cellF f x)) 41 (0, 0))))
                · intro REST
                  have hd : Below wr.heap.size wr wr.drew := (Below.refl _ _).drew
                  replace BU := Lib.hid (BU.out.trans (hd.mono BU.out.size))
                  replace HR := Lib.hid (HR.out.below hd)
                  replace RL := Lib.hid (RL.out.below hd)
                  replace RD := Lib.hid (RD.out.below hd)
                  replace KG := Lib.hid (KG.out.below hd)
                  replace LC := Lib.hid (LC.out.below hd)
                  replace XF := Lib.hid (qblk hd XF.out)
                  replace XO := Lib.hid (qblk hd XO.out)
                  clear hd
                  refine zD (fun W => Below wr.drew.heap.size wr.drew W) (Below.refl _ _) (fun hHeld => ?_)
                  have BV := Lib.hid hHeld
                  generalize wr.drew = V3 at *
                  refine zT 0 rfl (.agg (f.cells a n)) (qyrow (by kernel_rfl) 28 _ rfl p rfl _ 28 (0, 0) _ (fun W hW => qblk hW XF.out) Tryz.underlying28 rfl (by exact (qJF f a n))) ?_
                  refine zW 1 rfl (.slice (some ⟨R, off, none⟩) NS lm) ?_
                  refine zW 2 rfl (.slice (some ⟨gd, od, none⟩) ND dm) ?_
                  refine zW 3 rfl (.int .i64 (i : Int)) ?_
                  refine zW 4 rfl (.pointer (some ⟨gd, od + i, none⟩)) ?_
                  refine zS 5 rfl (.int .i64 (dn : Int)) (fun W hW => by have c := rdi_at (RD.out.below hW) HDI.out; go_simp) ?_
                  refine zW 6 rfl (.pointer (some ⟨R, off + dn, none⟩)) ?_
                  refine zS 7 rfl (.slice (some ⟨gj, oj, none⟩) CL cj) (fun W hW => by have c := (LC.out.below hW).cell; rw [hCL.out] at c; go_simp; (try rfl)) ?_
                  refine zW 8 rfl (.int .i64 (k : Int)) ?_
                  refine zW 9 rfl (.pointer (some ⟨gj, oj + k, none⟩)) ?_
                  refine zS 10 rfl (.int .i64 x) (fun W hW => by have c := rdi_at (LC.out.below hW).rd HXV.out; go_simp) ?_
                  refine zM [11, 15] rfl (fun K hK => ?_) (zn (i := 15) (fun K hK => ?_))
                  · go_simp
                    refine (cellP_any f a n x _ (HR.out.below BV.out)).mono ?_
                    rintro e Z1 ⟨rfl, b⟩
                    rw [CPX.out]
                    have BV2 := Lib.hid (BV.out.trans (b.mono BV.out.size))
                    clear b BV
                    have BV := BV2
                    clear BV2
                    try dsimp only
                    refine zK hK BV.out (fun hHeld => ?_)
                    clear hK K
                    refine zW 12 rfl (.tuple #[.agg (cellA (cellF f x)), .int .i64 0]) ?_
                    refine zW 13 rfl (.agg (cellA (cellF f x))) ?_
                    refine zW 14 rfl (.int .i64 0) ?_
                    refine zR 15 rfl (fun K hK => ?_)
                    rw [if_pos (by kernel_rfl)]
                    refine qbuild (w' := Z1.alloc (.cells #[.int .i64 0, .int .i64 0] 41)) (.pointer (some ⟨Z1.heap.size, 0, none⟩)) (by kernel_rfl) ?_
                    have Ax11 := Lib.hid (al1 Z1 (.cells #[.int .i64 0, .int .i64 0] 41)).2
                    have b := zB Z1 (.cells #[.int .i64 0, .int .i64 0] 41)
                    obtain ⟨x11, hx11⟩ : ∃ x, Hid (Z1.heap.size = x) := ⟨_, Lib.hid rfl⟩
                    have Gx11 : Hid (V3.heap.size ≤ x11) := Lib.hid (by have h1 := hx11.out; have h2 := BV.out.size; omega)
                    have BV2 := Lib.hid (BV.out.trans (b.mono BV.out.size))
                    clear BV
                    have BV := BV2
                    clear BV2
                    rw [hx11.out] at Ax11 ⊢
                    clear b
                    generalize hV9 : Z1.alloc (.cells #[.int .i64 0, .int .i64 0] 41) = A2 at *
                    clear hV9
                    refine zK hK BV.out (fun hHeld => ?_)
                    clear hK K
                    refine zR 16 rfl (fun K hK => ?_)
                    rw [if_pos (by kernel_rfl)]
                    refine qstore 41 _ _ rfl x11 #[.int .i64 0, .int .i64 0] (cellA (cellF f x)) 41 rfl rfl Ax11.out (by exact (qJC (cellF f x))) rfl (qoneC (cellF f x)) ?_
                    intro S1 h8 hg8 hs8
                    have BX : Hid (Below V3.heap.size V3 S1) := Lib.hid (BV.out.grown hg8 BV.out.size (fun kk e => by cases e; exact Gx11.out))
                    clear BV
                    have BV := BX
                    clear BX
                    have Xx11 := Lib.hid h8
                    clear h8 hg8 hs8 Ax11
                    refine zK hK BV.out (fun hHeld => ?_)
                    clear hK K
                    refine zW 17 rfl (.int .i64 0) ?_
                    refine zE ?_
                    have bz := BV.out
                    exact REST S1 x11 (Lib.hid ⟨BU.out.trans (bz.mono BU.out.size), HR.out.below bz, RL.out.below bz, RD.out.below bz, KG.out.below bz, LC.out.below bz, qblk bz XF.out, qblk bz XO.out, Xx11.out⟩)
                  · rw [if_pos (by kernel_rfl)]
                    refine qbuild (w' := V3.alloc (.cells #[.int .i64 0, .int .i64 0] 41)) (.pointer (some ⟨V3.heap.size, 0, none⟩)) (by kernel_rfl) ?_
                    have Ax11 := Lib.hid (al1 V3 (.cells #[.int .i64 0, .int .i64 0] 41)).2
                    have b := zB V3 (.cells #[.int .i64 0, .int .i64 0] 41)
                    obtain ⟨x11, hx11⟩ : ∃ x, Hid (V3.heap.size = x) := ⟨_, Lib.hid rfl⟩
                    have Gx11 : Hid (V3.heap.size ≤ x11) := Lib.hid (by have h1 := hx11.out; have h2 := BV.out.size; omega)
                    have BV2 := Lib.hid (BV.out.trans (b.mono BV.out.size))
                    clear BV
                    have BV := BV2
                    clear BV2
                    rw [hx11.out] at Ax11 ⊢
                    clear b
                    generalize hV9 : V3.alloc (.cells #[.int .i64 0, .int .i64 0] 41) = A1 at *
                    clear hV9
                    refine zK hK BV.out (fun hHeld => ?_)
                    clear hK K
                    refine zR 11 rfl (fun K hK => ?_)
                    go_simp
                    refine (cellP_any f a n x _ (HR.out.below BV.out)).mono ?_
                    rintro e Z2 ⟨rfl, b⟩
                    rw [CPX.out]
                    replace Ax11 := Lib.hid (qblk b Ax11.out)
                    have BV2 := Lib.hid (BV.out.trans (b.mono BV.out.size))
                    clear b BV
                    have BV := BV2
                    clear BV2
                    try dsimp only
                    refine zK hK BV.out (fun hHeld => ?_)
                    clear hK K
                    refine zW 12 rfl (.tuple #[.agg (cellA (cellF f x)), .int .i64 0]) ?_
                    refine zW 13 rfl (.agg (cellA (cellF f x))) ?_
                    refine zW 14 rfl (.int .i64 0) ?_
                    refine zR 16 rfl (fun K hK => ?_)
                    rw [if_pos (by kernel_rfl)]
                    refine qstore 41 _ _ rfl x11 #[.int .i64 0, .int .i64 0] (cellA (cellF f x)) 41 rfl rfl Ax11.out (by exact (qJC (cellF f x))) rfl (qoneC (cellF f x)) ?_
                    intro S1 h8 hg8 hs8
                    have BX : Hid (Below V3.heap.size V3 S1) := Lib.hid (BV.out.grown hg8 BV.out.size (fun kk e => by cases e; exact Gx11.out))
                    clear BV
                    have BV := BX
                    clear BX
                    have Xx11 := Lib.hid h8
                    clear h8 hg8 hs8 Ax11
                    refine zK hK BV.out (fun hHeld => ?_)
                    clear hK K
                    refine zW 17 rfl (.int .i64 0) ?_
                    refine zE ?_
                    have bz := BV.out
                    exact REST S1 x11 (Lib.hid ⟨BU.out.trans (bz.mono BU.out.size), HR.out.below bz, RL.out.below bz, RD.out.below bz, KG.out.below bz, LC.out.below bz, qblk bz XF.out, qblk bz XO.out, Xx11.out⟩)
                · intro W9 x11 HX
                  clear BU HR RL RD KG LC XF XO
                  obtain ⟨BU, HR, RL, RD, KG, LC, XF, XO, Xx11⟩ := HX.out
                  replace BU := Lib.hid BU
                  replace HR := Lib.hid HR
                  replace RL := Lib.hid RL
                  replace RD := Lib.hid RD
                  replace KG := Lib.hid KG
                  replace LC := Lib.hid LC
                  replace XF := Lib.hid XF
                  replace XO := Lib.hid XO
                  replace Xx11 := Lib.hid Xx11
                  clear HX
                  clear zi zd zk
                  go_upto_region 18 with fail
                  refine yB ?_
                  refine yW (.agg (G.cells ga gn)) ?_ (qyrow (by kernel_rfl) 28 _ rfl o rfl _ 28 (0, 0) _ (fun W hW => by rw [hW]; exact XO.out) Tryz.underlying28 rfl (by exact (qJF G ga gn)))
                  refine yW (.agg (cellA (cellF f x))) ?_ (qyrow (by kernel_rfl) 41 _ rfl x11 rfl _ 41 (0, 0) _ (fun W hW => by rw [hW]; exact Xx11.out) Tryz.underlying41 rfl (by exact (qJC (cellF f x))))
                  refine yR (fun K hK => ?_)
                  go_simp
                  refine (setO_any G ga gn (cellF f x) 0 _ KG.out.1).mono ?_
                  rintro e U6 ⟨ga2, gn2, rfl, own, b⟩
                  rw [DSN.out] at own ⊢
                  try dsimp only at own ⊢
                  have OG := Lib.hid own
                  clear own
                  replace BU := Lib.hid (BU.out.trans (b.mono BU.out.size))
                  replace HR := Lib.hid (HR.out.below b)
                  replace RL := Lib.hid (RL.out.below b)
                  replace RD := Lib.hid (RD.out.below b)
                  replace KG := Lib.hid (KG.out.below b)
                  replace LC := Lib.hid (LC.out.below b)
                  replace XF := Lib.hid (qblk b XF.out)
                  replace XO := Lib.hid (qblk b XO.out)
                  replace Xx11 := Lib.hid (qblk b Xx11.out)
                  clear b
                  try dsimp only
                  refine yK hK ?_
                  clear hK K
                  refine yM (.tuple #[.agg (G2.cells ga2 gn2), .int .i64 0]) ?_
                  refine yM (.agg (G2.cells ga2 gn2)) ?_
                  refine yM (.int .i64 0) ?_
                  refine yR (fun K hK => ?_)
                  refine qbuild (w' := U6.alloc (.cells #[.int .i64 0, .int .i64 0, .int .i64 0, .slice none 0 0] 28)) (.pointer (some ⟨U6.heap.size, 0, none⟩)) (by kernel_rfl) ?_
                  obtain ⟨x13, hx13⟩ : ∃ x, Hid (U6.heap.size = x) := ⟨_, Lib.hid rfl⟩
                  have AL := Lib.hid (al1 U6 (.cells #[.int .i64 0, .int .i64 0, .int .i64 0, .slice none 0 0] 28))
                  rw [hx13.out] at AL ⊢
                  refine yK hK ?_
                  clear hK K
                  refine yR (fun K hK => ?_)
                  refine qstore 28 _ _ rfl x13 #[.int .i64 0, .int .i64 0, .int .i64 0, .slice none 0 0] (G2.cells ga2 gn2) 28 rfl rfl AL.out.2 (by exact qJF G2 ga2 gn2) rfl (qone G2 ga2 gn2) ?_
                  intro U7 h8 hg8 hs8
                  have b : Below U6.heap.size U6 U7 := qstep (by have h1 := AL.out.1; rw [← hx13.out] at h1; exact h1) hg8 (Nat.le_of_eq hx13.out)
                  replace BU := Lib.hid (BU.out.trans (b.mono BU.out.size))
                  replace HR := Lib.hid (HR.out.below b)
                  replace RL := Lib.hid (RL.out.below b)
                  replace RD := Lib.hid (RD.out.below b)
                  replace KG := Lib.hid (KG.out.below b)
                  replace LC := Lib.hid (LC.out.below b)
                  replace OG := Lib.hid (OG.out.below b)
                  replace XF := Lib.hid (qblk b XF.out)
                  replace XO := Lib.hid (qblk b XO.out)
                  replace Xx11 := Lib.hid (qblk b Xx11.out)
                  clear b
                  have Xx13 := Lib.hid h8
                  clear h8 hg8 hs8 AL
                  refine yK hK ?_
                  clear hK K
                  refine yM (.int .i64 0) ?_
                  refine yE ?_
                  go_upto_region 19 with fail
                  refine yB ?_
                  refine yM (.int .i64 0) ?_
                  refine yW (.bool false) ?_ (.inl ⟨by kernel_rfl, by intro W hW; (try rw [hW]); go_simp; (try simp)⟩)
                  refine yM (.bool false) ?_
                  refine yM (.int .i64 0) ?_
                  refine yW (.bool false) ?_ (.inl ⟨by kernel_rfl, by intro W hW; (try rw [hW]); go_simp; (try simp)⟩)
                  refine yM (.bool false) ?_
                  refine yE ?_
                  go_upto_region 21 with fail
                  refine yB ?_
                  refine yW (.agg (G2.cells ga2 gn2)) ?_ (qyrow (by kernel_rfl) 28 _ rfl x13 rfl _ 28 (0, 0) _ (fun W hW => by rw [hW]; exact Xx13.out) Tryz.underlying28 rfl (by exact (qJF G2 ga2 gn2)))
                  refine yR (fun K hK => ?_)
                  refine qstore 28 _ _ rfl o (G.cells ga gn) (G2.cells ga2 gn2) 28 rfl rfl XO.out (by exact qJF G2 ga2 gn2) rfl (qone G2 ga2 gn2) ?_
                  intro X9 h8 hg8 hs8
                  have KG2 := Lib.hid (KOk.own OG.out XO.out)
                  replace KG := Lib.hid (KG2.out.step hg8)
                  replace BU := Lib.hid (qstep BU.out hg8 OGE.out.1)
                  clear HR RL RD LC XF
                  replace XO := Lib.hid h8
                  clear h8 hg8 hs8 OG KG2
                  refine yK hK ?_
                  clear hK K
                  refine yE ?_
                  go_upto_region 16 with fail
                  have hk64 := HK64.out
                  go_wp2_with fail
                  go_roundw
                  case rel =>
                    refine ⟨k + 1, ga2, gn2, by simp, by omega, BU, ?_, ?_⟩
                    · rw [hG2.out]; exact KG
                    · rw [hG2.out]; exact XO
                  case measure => simp [intOf]; omega
              · have e : k = CL := by omega
                subst e
                have GN := Lib.hid (goneK_next (k := k) HDI.out HCS.out (by rw [hCL.out]; exact Nat.le_refl _))
                rw [GN.out] at hG
                rw [← hG.out] at KG XO
                have tc : decide ((k : Int) < (k : Int)) = false := by simp
                go_upto_region 15 with fail
                have zi : i < ND := HIN.out
                have zd : dn < NS := HDL.out
                refine yB ?_
                refine yM (.int .i64 (k : Int)) ?_
                refine yM (.slice (some ⟨R, off, none⟩) NS lm) ?_
                refine yM (.slice (some ⟨gd, od, none⟩) ND dm) ?_
                refine yM (.int .i64 (i : Int)) ?_
                refine yW (.pointer (some ⟨gd, od + i, none⟩)) ?_
                refine yW (.int .i64 (dn : Int)) ?_ (.inl ⟨by kernel_rfl, by intro W hW; rw [hW]; have c := rdi_at (RD.out) HDI.out; go_simp⟩)
                refine yW (.pointer (some ⟨R, off + dn, none⟩)) ?_
                refine yW (.slice aj k cj) ?_ (.inl ⟨by kernel_rfl, by intro W hW; rw [hW]; have c := (LC.out).cell; rw [hCL.out] at c; go_simp; (try rfl)⟩)
                refine yW (.int .i64 (k : Int)) ?_
                refine yW (.bool false) ?_ (.inl ⟨by kernel_rfl, by intro W hW; rw [hW]; go_simp; first | done | exact tc | (simp; omega)⟩)
                refine yE ?_
                clear zi zd tc
                go_upto_region 11 with fail
                have hi64 := HI64.out
                go_wp2_with fail
                go_roundw
                case rel => exact ⟨i + 1, ga, gn, by simp, by omega, BU, KG, XO⟩
                case measure => simp [intOf]; omega
          · refine zW 16 rfl (.bool true) (hy := .inl ⟨by kernel_rfl, by intro W hW; go_simp; first | done | (simpa using hi0) | (have h9 := of_decide_eq_true hi0; omega) | (have h9 := of_decide_eq_false hi0; omega)⟩) ?_
            refine zW 17 rfl (.bool true) ?_
            refine zW 18 rfl (.slice (some ⟨gd, od, none⟩) ND dm) ?_
            refine zW 19 rfl (.int .i64 (i : Int)) ?_
            refine zW 20 rfl (.pointer (some ⟨gd, od + i, none⟩)) ?_
            refine zS 21 rfl (.int .i64 (dn : Int)) (fun W hW => by have c := rdi_at (RD.out.below hW) HDI.out; go_simp) ?_
            refine zW 22 rfl (.slice (some ⟨gd, od, none⟩) ND dm) ?_
            refine zW 23 rfl (.int .i64 (i : Int)) ?_
            refine zW 24 rfl (.int .i64 (i2 : Int)) (hy := .inl ⟨by kernel_rfl, by intro W hW; go_simp; exact (IntWalk.i64_left _).trans (WSI.out (by have := of_decide_eq_true hi0; omega))⟩) ?_
            refine zW 25 rfl (.pointer (some ⟨gd, od + i2, none⟩)) ?_
            refine zS 26 rfl (.int .i64 d2) (fun W hW => by have c := rdi_at (RD.out.below hW) HD2.out; go_simp) ?_
            refine zW 27 rfl (.bool false) (hy := .inl ⟨by kernel_rfl, by intro W hW; go_simp; have h9 := SRT.out (by have := of_decide_eq_true hi0; omega); first | done | (simp; done) | (simp; omega)⟩) ?_
            refine zW 28 rfl (.bool false) ?_
            refine zW 29 rfl (.bool false) ?_
            refine zE ?_
            have bz := BV.out
            replace BU := Lib.hid (BU.out.trans (bz.mono BU.out.size))
            replace HR := Lib.hid (HR.out.below bz)
            replace RL := Lib.hid (RL.out.below bz)
            replace RD := Lib.hid (RD.out.below bz)
            replace KG := Lib.hid (KG.out.below bz)
            replace LC := Lib.hid (LC.out.below bz)
            replace XF := Lib.hid (qblk bz XF.out)
            replace XO := Lib.hid (qblk bz XO.out)
            clear bz
            clear BV
            clear zi zi2 zd
            clear HR RL RD LC XF
            rw [← hG.out] at KG XO
            clear hG
            go_wp2_with fail
            generalize V1 = Y2 at *
            go_loopw [10] (fun v wr => ∃ (k : Nat) (ga : Option Addr) (gn : Nat), v = .int .i64 (k : Int) ∧ k ≤ CL ∧ Hid (Below UV.heap.size UV wr) ∧ Hid (KOk wr o ga (drainF f (goneK D ls i k)).kinds.length gn (drainF f (goneK D ls i k)).kinds) ∧ Hid (wr.heap[o]? = some (.cells ((drainF f (goneK D ls i k)).cells ga gn) 28 (0, 0)))) (fun v _ => CL - (intOf v).toNat)
            case atStart => exact ⟨0, ga, gn, rfl, Nat.zero_le _, BU, KG, XO⟩
            case round =>
              clear BU KG XO
              obtain ⟨k, ga, gn, rfl, hk, BU, KG, XO⟩ := hrel
              have HR := Lib.hid (HR0.out.below BU.out)
              have RL := Lib.hid (RL0.out.below BU.out)
              have RD := Lib.hid (RD0.out.below BU.out)
              have XF := Lib.hid (qblk BU.out XF0.out)
              have LC := Lib.hid (LC0.out.below BU.out)
              obtain ⟨G, hG⟩ : ∃ z, Hid (drainF f (goneK D ls i k) = z) := ⟨_, Lib.hid rfl⟩
              rw [hG.out] at KG XO
              by_cases hkc : k < CL
              · have HK64 : Hid ((k : Int) + 1 ≤ 9223372036854775807) := Lib.hid (by have := CSB.out; have := hCL.out; omega)
                have HKC : Hid (k < CL) := Lib.hid hkc
                obtain ⟨x, hx⟩ : ∃ x, cs[k]? = some x := ⟨_, List.getElem?_eq_getElem (by rw [hCL.out]; exact hkc)⟩
                have HXI := Lib.hid (CSM.out.2 x (List.mem_of_getElem? hx))
                have HXV := Lib.hid hx
                have GS := Lib.hid (goneK_snoc (k := k) RK.out hx)
                have DSN := Lib.hid (drain_snoc HV.out (goneK D ls i k) HXI.out)
                rw [hG.out, ← GS.out] at DSN
                have CPX := Lib.hid (cellP_of HV.out HXI.out)
                obtain ⟨gj, oj, haj, _⟩ := LC0.out.rd.get hx
                subst haj
                obtain ⟨G2, hG2⟩ : ∃ z, Hid (drainF f (goneK D ls i (k + 1)) = z) := ⟨_, Lib.hid rfl⟩
                rw [hG2.out] at DSN
                clear hx
                have tc : decide ((k : Int) < (CL : Int)) = true := by simp; omega
                go_upto_region 15 with fail
                have zi : i < ND := HIN.out
                have zd : dn < NS := HDL.out
                refine yB ?_
                refine yM (.int .i64 (k : Int)) ?_
                refine yM (.slice (some ⟨R, off, none⟩) NS lm) ?_
                refine yM (.slice (some ⟨gd, od, none⟩) ND dm) ?_
                refine yM (.int .i64 (i : Int)) ?_
                refine yW (.pointer (some ⟨gd, od + i, none⟩)) ?_
                refine yW (.int .i64 (dn : Int)) ?_ (.inl ⟨by kernel_rfl, by intro W hW; rw [hW]; have c := rdi_at (RD.out) HDI.out; go_simp⟩)
                refine yW (.pointer (some ⟨R, off + dn, none⟩)) ?_
                refine yW (.slice (some ⟨gj, oj, none⟩) CL cj) ?_ (.inl ⟨by kernel_rfl, by intro W hW; rw [hW]; have c := (LC.out).cell; rw [hCL.out] at c; go_simp⟩)
                refine yW (.int .i64 (CL : Int)) ?_
                refine yW (.bool true) ?_ (.inl ⟨by kernel_rfl, by intro W hW; rw [hW]; go_simp; first | done | exact tc | (simp; omega)⟩)
                refine yE ?_
                clear zi zd tc
                go_upto_region 17 with fail
                have zi : i < ND := HIN.out
                have zd : dn < NS := HDL.out
                have zk : k < CL := HKC.out
                apply cut_w2 (P := fun (W9 : World) (x11 : Nat) => Hid (Below UV.heap.size UV W9 ∧ RdI W9 a f.kinds.length n f.kinds ∧ RdLL W9 (some ⟨R, off, none⟩) NS lm ls ∧ RdI W9 (some ⟨gd, od, none⟩) ND dm D ∧ KOk W9 o ga G.kinds.length gn G.kinds ∧ LsC W9 R (off + dn) (some ⟨gj, oj, none⟩) cj cs ∧ W9.heap[p]? = some (.cells (f.cells a n) 28 (0, 0)) ∧ W9.heap[o]? = some (.cells (G.cells ga gn) 28 (0, 0)) ∧ W9.heap[x11]? = some (.cells (cellA (cellF f x)) 41 (0, 0))))
                · intro REST
                  have hd : Below wr.heap.size wr wr.drew := (Below.refl _ _).drew
                  replace BU := Lib.hid (BU.out.trans (hd.mono BU.out.size))
                  replace HR := Lib.hid (HR.out.below hd)
                  replace RL := Lib.hid (RL.out.below hd)
                  replace RD := Lib.hid (RD.out.below hd)
                  replace KG := Lib.hid (KG.out.below hd)
                  replace LC := Lib.hid (LC.out.below hd)
                  replace XF := Lib.hid (qblk hd XF.out)
                  replace XO := Lib.hid (qblk hd XO.out)
                  clear hd
                  refine zD (fun W => Below wr.drew.heap.size wr.drew W) (Below.refl _ _) (fun hHeld => ?_)
                  have BV := Lib.hid hHeld
                  generalize wr.drew = V3 at *
                  refine zT 0 rfl (.agg (f.cells a n)) (qyrow (by kernel_rfl) 28 _ rfl p rfl _ 28 (0, 0) _ (fun W hW => qblk hW XF.out) Tryz.underlying28 rfl (by exact (qJF f a n))) ?_
                  refine zW 1 rfl (.slice (some ⟨R, off, none⟩) NS lm) ?_
                  refine zW 2 rfl (.slice (some ⟨gd, od, none⟩) ND dm) ?_
                  refine zW 3 rfl (.int .i64 (i : Int)) ?_
                  refine zW 4 rfl (.pointer (some ⟨gd, od + i, none⟩)) ?_
                  refine zS 5 rfl (.int .i64 (dn : Int)) (fun W hW => by have c := rdi_at (RD.out.below hW) HDI.out; go_simp) ?_
                  refine zW 6 rfl (.pointer (some ⟨R, off + dn, none⟩)) ?_
                  refine zS 7 rfl (.slice (some ⟨gj, oj, none⟩) CL cj) (fun W hW => by have c := (LC.out.below hW).cell; rw [hCL.out] at c; go_simp; (try rfl)) ?_
                  refine zW 8 rfl (.int .i64 (k : Int)) ?_
                  refine zW 9 rfl (.pointer (some ⟨gj, oj + k, none⟩)) ?_
                  refine zS 10 rfl (.int .i64 x) (fun W hW => by have c := rdi_at (LC.out.below hW).rd HXV.out; go_simp) ?_
                  refine zM [11, 15] rfl (fun K hK => ?_) (zn (i := 15) (fun K hK => ?_))
                  · go_simp
                    refine (cellP_any f a n x _ (HR.out.below BV.out)).mono ?_
                    rintro e Z1 ⟨rfl, b⟩
                    rw [CPX.out]
                    have BV2 := Lib.hid (BV.out.trans (b.mono BV.out.size))
                    clear b BV
                    have BV := BV2
                    clear BV2
                    try dsimp only
                    refine zK hK BV.out (fun hHeld => ?_)
                    clear hK K
                    refine zW 12 rfl (.tuple #[.agg (cellA (cellF f x)), .int .i64 0]) ?_
                    refine zW 13 rfl (.agg (cellA (cellF f x))) ?_
                    refine zW 14 rfl (.int .i64 0) ?_
                    refine zR 15 rfl (fun K hK => ?_)
                    rw [if_pos (by kernel_rfl)]
                    refine qbuild (w' := Z1.alloc (.cells #[.int .i64 0, .int .i64 0] 41)) (.pointer (some ⟨Z1.heap.size, 0, none⟩)) (by kernel_rfl) ?_
                    have Ax11 := Lib.hid (al1 Z1 (.cells #[.int .i64 0, .int .i64 0] 41)).2
                    have b := zB Z1 (.cells #[.int .i64 0, .int .i64 0] 41)
                    obtain ⟨x11, hx11⟩ : ∃ x, Hid (Z1.heap.size = x) := ⟨_, Lib.hid rfl⟩
                    have Gx11 : Hid (V3.heap.size ≤ x11) := Lib.hid (by have h1 := hx11.out; have h2 := BV.out.size; omega)
                    have BV2 := Lib.hid (BV.out.trans (b.mono BV.out.size))
                    clear BV
                    have BV := BV2
                    clear BV2
                    rw [hx11.out] at Ax11 ⊢
                    clear b
                    generalize hV9 : Z1.alloc (.cells #[.int .i64 0, .int .i64 0] 41) = A2 at *
                    clear hV9
                    refine zK hK BV.out (fun hHeld => ?_)
                    clear hK K
                    refine zR 16 rfl (fun K hK => ?_)
                    rw [if_pos (by kernel_rfl)]
                    refine qstore 41 _ _ rfl x11 #[.int .i64 0, .int .i64 0] (cellA (cellF f x)) 41 rfl rfl Ax11.out (by exact (qJC (cellF f x))) rfl (qoneC (cellF f x)) ?_
                    intro S1 h8 hg8 hs8
                    have BX : Hid (Below V3.heap.size V3 S1) := Lib.hid (BV.out.grown hg8 BV.out.size (fun kk e => by cases e; exact Gx11.out))
                    clear BV
                    have BV := BX
                    clear BX
                    have Xx11 := Lib.hid h8
                    clear h8 hg8 hs8 Ax11
                    refine zK hK BV.out (fun hHeld => ?_)
                    clear hK K
                    refine zW 17 rfl (.int .i64 0) ?_
                    refine zE ?_
                    have bz := BV.out
                    exact REST S1 x11 (Lib.hid ⟨BU.out.trans (bz.mono BU.out.size), HR.out.below bz, RL.out.below bz, RD.out.below bz, KG.out.below bz, LC.out.below bz, qblk bz XF.out, qblk bz XO.out, Xx11.out⟩)
                  · rw [if_pos (by kernel_rfl)]
                    refine qbuild (w' := V3.alloc (.cells #[.int .i64 0, .int .i64 0] 41)) (.pointer (some ⟨V3.heap.size, 0, none⟩)) (by kernel_rfl) ?_
                    have Ax11 := Lib.hid (al1 V3 (.cells #[.int .i64 0, .int .i64 0] 41)).2
                    have b := zB V3 (.cells #[.int .i64 0, .int .i64 0] 41)
                    obtain ⟨x11, hx11⟩ : ∃ x, Hid (V3.heap.size = x) := ⟨_, Lib.hid rfl⟩
                    have Gx11 : Hid (V3.heap.size ≤ x11) := Lib.hid (by have h1 := hx11.out; have h2 := BV.out.size; omega)
                    have BV2 := Lib.hid (BV.out.trans (b.mono BV.out.size))
                    clear BV
                    have BV := BV2
                    clear BV2
                    rw [hx11.out] at Ax11 ⊢
                    clear b
                    generalize hV9 : V3.alloc (.cells #[.int .i64 0, .int .i64 0] 41) = A1 at *
                    clear hV9
                    refine zK hK BV.out (fun hHeld => ?_)
                    clear hK K
                    refine zR 11 rfl (fun K hK => ?_)
                    go_simp
                    refine (cellP_any f a n x _ (HR.out.below BV.out)).mono ?_
                    rintro e Z2 ⟨rfl, b⟩
                    rw [CPX.out]
                    replace Ax11 := Lib.hid (qblk b Ax11.out)
                    have BV2 := Lib.hid (BV.out.trans (b.mono BV.out.size))
                    clear b BV
                    have BV := BV2
                    clear BV2
                    try dsimp only
                    refine zK hK BV.out (fun hHeld => ?_)
                    clear hK K
                    refine zW 12 rfl (.tuple #[.agg (cellA (cellF f x)), .int .i64 0]) ?_
                    refine zW 13 rfl (.agg (cellA (cellF f x))) ?_
                    refine zW 14 rfl (.int .i64 0) ?_
                    refine zR 16 rfl (fun K hK => ?_)
                    rw [if_pos (by kernel_rfl)]
                    refine qstore 41 _ _ rfl x11 #[.int .i64 0, .int .i64 0] (cellA (cellF f x)) 41 rfl rfl Ax11.out (by exact (qJC (cellF f x))) rfl (qoneC (cellF f x)) ?_
                    intro S1 h8 hg8 hs8
                    have BX : Hid (Below V3.heap.size V3 S1) := Lib.hid (BV.out.grown hg8 BV.out.size (fun kk e => by cases e; exact Gx11.out))
                    clear BV
                    have BV := BX
                    clear BX
                    have Xx11 := Lib.hid h8
                    clear h8 hg8 hs8 Ax11
                    refine zK hK BV.out (fun hHeld => ?_)
                    clear hK K
                    refine zW 17 rfl (.int .i64 0) ?_
                    refine zE ?_
                    have bz := BV.out
                    exact REST S1 x11 (Lib.hid ⟨BU.out.trans (bz.mono BU.out.size), HR.out.below bz, RL.out.below bz, RD.out.below bz, KG.out.below bz, LC.out.below bz, qblk bz XF.out, qblk bz XO.out, Xx11.out⟩)
                · intro W9 x11 HX
                  clear BU HR RL RD KG LC XF XO
                  obtain ⟨BU, HR, RL, RD, KG, LC, XF, XO, Xx11⟩ := HX.out
                  replace BU := Lib.hid BU
                  replace HR := Lib.hid HR
                  replace RL := Lib.hid RL
                  replace RD := Lib.hid RD
                  replace KG := Lib.hid KG
                  replace LC := Lib.hid LC
                  replace XF := Lib.hid XF
                  replace XO := Lib.hid XO
                  replace Xx11 := Lib.hid Xx11
                  clear HX
                  clear zi zd zk
                  go_upto_region 18 with fail
                  refine yB ?_
                  refine yW (.agg (G.cells ga gn)) ?_ (qyrow (by kernel_rfl) 28 _ rfl o rfl _ 28 (0, 0) _ (fun W hW => by rw [hW]; exact XO.out) Tryz.underlying28 rfl (by exact (qJF G ga gn)))
                  refine yW (.agg (cellA (cellF f x))) ?_ (qyrow (by kernel_rfl) 41 _ rfl x11 rfl _ 41 (0, 0) _ (fun W hW => by rw [hW]; exact Xx11.out) Tryz.underlying41 rfl (by exact (qJC (cellF f x))))
                  refine yR (fun K hK => ?_)
                  go_simp
                  refine (setO_any G ga gn (cellF f x) 0 _ KG.out.1).mono ?_
                  rintro e U6 ⟨ga2, gn2, rfl, own, b⟩
                  rw [DSN.out] at own ⊢
                  try dsimp only at own ⊢
                  have OG := Lib.hid own
                  clear own
                  replace BU := Lib.hid (BU.out.trans (b.mono BU.out.size))
                  replace HR := Lib.hid (HR.out.below b)
                  replace RL := Lib.hid (RL.out.below b)
                  replace RD := Lib.hid (RD.out.below b)
                  replace KG := Lib.hid (KG.out.below b)
                  replace LC := Lib.hid (LC.out.below b)
                  replace XF := Lib.hid (qblk b XF.out)
                  replace XO := Lib.hid (qblk b XO.out)
                  replace Xx11 := Lib.hid (qblk b Xx11.out)
                  clear b
                  try dsimp only
                  refine yK hK ?_
                  clear hK K
                  refine yM (.tuple #[.agg (G2.cells ga2 gn2), .int .i64 0]) ?_
                  refine yM (.agg (G2.cells ga2 gn2)) ?_
                  refine yM (.int .i64 0) ?_
                  refine yR (fun K hK => ?_)
                  refine qbuild (w' := U6.alloc (.cells #[.int .i64 0, .int .i64 0, .int .i64 0, .slice none 0 0] 28)) (.pointer (some ⟨U6.heap.size, 0, none⟩)) (by kernel_rfl) ?_
                  obtain ⟨x13, hx13⟩ : ∃ x, Hid (U6.heap.size = x) := ⟨_, Lib.hid rfl⟩
                  have AL := Lib.hid (al1 U6 (.cells #[.int .i64 0, .int .i64 0, .int .i64 0, .slice none 0 0] 28))
                  rw [hx13.out] at AL ⊢
                  refine yK hK ?_
                  clear hK K
                  refine yR (fun K hK => ?_)
                  refine qstore 28 _ _ rfl x13 #[.int .i64 0, .int .i64 0, .int .i64 0, .slice none 0 0] (G2.cells ga2 gn2) 28 rfl rfl AL.out.2 (by exact qJF G2 ga2 gn2) rfl (qone G2 ga2 gn2) ?_
                  intro U7 h8 hg8 hs8
                  have b : Below U6.heap.size U6 U7 := qstep (by have h1 := AL.out.1; rw [← hx13.out] at h1; exact h1) hg8 (Nat.le_of_eq hx13.out)
                  replace BU := Lib.hid (BU.out.trans (b.mono BU.out.size))
                  replace HR := Lib.hid (HR.out.below b)
                  replace RL := Lib.hid (RL.out.below b)
                  replace RD := Lib.hid (RD.out.below b)
                  replace KG := Lib.hid (KG.out.below b)
                  replace LC := Lib.hid (LC.out.below b)
                  replace OG := Lib.hid (OG.out.below b)
                  replace XF := Lib.hid (qblk b XF.out)
                  replace XO := Lib.hid (qblk b XO.out)
                  replace Xx11 := Lib.hid (qblk b Xx11.out)
                  clear b
                  have Xx13 := Lib.hid h8
                  clear h8 hg8 hs8 AL
                  refine yK hK ?_
                  clear hK K
                  refine yM (.int .i64 0) ?_
                  refine yE ?_
                  go_upto_region 19 with fail
                  refine yB ?_
                  refine yM (.int .i64 0) ?_
                  refine yW (.bool false) ?_ (.inl ⟨by kernel_rfl, by intro W hW; (try rw [hW]); go_simp; (try simp)⟩)
                  refine yM (.bool false) ?_
                  refine yM (.int .i64 0) ?_
                  refine yW (.bool false) ?_ (.inl ⟨by kernel_rfl, by intro W hW; (try rw [hW]); go_simp; (try simp)⟩)
                  refine yM (.bool false) ?_
                  refine yE ?_
                  go_upto_region 21 with fail
                  refine yB ?_
                  refine yW (.agg (G2.cells ga2 gn2)) ?_ (qyrow (by kernel_rfl) 28 _ rfl x13 rfl _ 28 (0, 0) _ (fun W hW => by rw [hW]; exact Xx13.out) Tryz.underlying28 rfl (by exact (qJF G2 ga2 gn2)))
                  refine yR (fun K hK => ?_)
                  refine qstore 28 _ _ rfl o (G.cells ga gn) (G2.cells ga2 gn2) 28 rfl rfl XO.out (by exact qJF G2 ga2 gn2) rfl (qone G2 ga2 gn2) ?_
                  intro X9 h8 hg8 hs8
                  have KG2 := Lib.hid (KOk.own OG.out XO.out)
                  replace KG := Lib.hid (KG2.out.step hg8)
                  replace BU := Lib.hid (qstep BU.out hg8 OGE.out.1)
                  clear HR RL RD LC XF
                  replace XO := Lib.hid h8
                  clear h8 hg8 hs8 OG KG2
                  refine yK hK ?_
                  clear hK K
                  refine yE ?_
                  go_upto_region 16 with fail
                  have hk64 := HK64.out
                  go_wp2_with fail
                  go_roundw
                  case rel =>
                    refine ⟨k + 1, ga2, gn2, by simp, by omega, BU, ?_, ?_⟩
                    · rw [hG2.out]; exact KG
                    · rw [hG2.out]; exact XO
                  case measure => simp [intOf]; omega
              · have e : k = CL := by omega
                subst e
                have GN := Lib.hid (goneK_next (k := k) HDI.out HCS.out (by rw [hCL.out]; exact Nat.le_refl _))
                rw [GN.out] at hG
                rw [← hG.out] at KG XO
                have tc : decide ((k : Int) < (k : Int)) = false := by simp
                go_upto_region 15 with fail
                have zi : i < ND := HIN.out
                have zd : dn < NS := HDL.out
                refine yB ?_
                refine yM (.int .i64 (k : Int)) ?_
                refine yM (.slice (some ⟨R, off, none⟩) NS lm) ?_
                refine yM (.slice (some ⟨gd, od, none⟩) ND dm) ?_
                refine yM (.int .i64 (i : Int)) ?_
                refine yW (.pointer (some ⟨gd, od + i, none⟩)) ?_
                refine yW (.int .i64 (dn : Int)) ?_ (.inl ⟨by kernel_rfl, by intro W hW; rw [hW]; have c := rdi_at (RD.out) HDI.out; go_simp⟩)
                refine yW (.pointer (some ⟨R, off + dn, none⟩)) ?_
                refine yW (.slice aj k cj) ?_ (.inl ⟨by kernel_rfl, by intro W hW; rw [hW]; have c := (LC.out).cell; rw [hCL.out] at c; go_simp; (try rfl)⟩)
                refine yW (.int .i64 (k : Int)) ?_
                refine yW (.bool false) ?_ (.inl ⟨by kernel_rfl, by intro W hW; rw [hW]; go_simp; first | done | exact tc | (simp; omega)⟩)
                refine yE ?_
                clear zi zd tc
                go_upto_region 11 with fail
                have hi64 := HI64.out
                go_wp2_with fail
                go_roundw
                case rel => exact ⟨i + 1, ga, gn, by simp, by omega, BU, KG, XO⟩
                case measure => simp [intOf]; omega
        · have t0 : decide ((i : Int) < (ND : Int)) = false := by simp; omega
          have e : i = ND := by omega
          subst e
          rw [GAL.out] at KG XO
          have GV := Lib.hid (drain_valid HV.out (goneF f))
          obtain ⟨G, hG⟩ : ∃ z, Hid (drainF f (goneF f) = z) := ⟨_, Lib.hid rfl⟩
          rw [hG.out] at KG XO GV DRY LEFT DLEN
          have RG := Lib.hid KG.out.1
          have DEG : Hid (deadP G = ([], 0)) := Lib.hid (by unfold deadP; rw [if_pos GV.out, DRY.out])
          have DBG : Hid (drainsB G = true) := Lib.hid (by unfold drainsB; rw [DEG.out]; rfl)
          have PEG : Hid (regionsP G = (regListF G, 0)) := Lib.hid (by unfold regionsP; rw [if_pos GV.out])
          have RGG := Lib.hid (fun (cs : List Int) (h : cs ∈ regListF G) => by
            obtain ⟨k, hk⟩ := List.mem_iff_getElem?.1 h
            exact rg_mem GV.out hk)
          have RGF := Lib.hid (fun (cs : List Int) (h : cs ∈ ls) => by
            obtain ⟨k, hk⟩ := List.mem_iff_getElem?.1 h
            exact RGM.out k cs hk)
          have LSG : Hid ((regListF G).length ≤ 2304) := Lib.hid (by
            rw [regList_len]
            have h3 := (regionsN_le G G.kinds.length).2
            have h4 := FaceV.len_le GV.out
            have h5 : (regionsF G).2 = (regionsN G G.kinds.length).2 := rfl
            omega)
          obtain ⟨ms, hms⟩ : ∃ z, Hid (regListF G = z) := ⟨_, Lib.hid rfl⟩
          rw [hms.out] at PEG RGG LSG LEFT DLEN
          obtain ⟨NM, hNM⟩ : ∃ z, Hid (ms.length = z) := ⟨_, Lib.hid rfl⟩
          rw [hNM.out] at LSG
          obtain ⟨was, hwas⟩ : ∃ z, Hid (furrowsF f ls = z) := ⟨_, Lib.hid rfl⟩
          obtain ⟨now, hnow⟩ : ∃ z, Hid (furrowsF G ms = z) := ⟨_, Lib.hid rfl⟩
          rw [hwas.out, hnow.out] at LEFT DLEN
          obtain ⟨NW, hNW⟩ : ∃ z, Hid (was.length = z) := ⟨_, Lib.hid rfl⟩
          obtain ⟨NX, hNX⟩ : ∃ z, Hid (now.length = z) := ⟨_, Lib.hid rfl⟩
          rw [hNW.out, hNX.out] at DLEN
          have NWB : Hid (NW ≤ 2304) := Lib.hid (by
            have h1 : was.length ≤ ls.length := by rw [← hwas.out]; exact List.length_filter_le _ _
            have h2 := LSB.out
            have h3 := hNS.out
            have h4 := hNW.out
            omega)
          clear KG
          go_upto_region 22 with fail
          clear t0
          refine yB ?_
          refine yW (.agg (G.cells ga gn)) ?_ (qyrow (by kernel_rfl) 28 _ rfl o rfl _ 28 (0, 0) _ (fun W hW => by rw [hW]; exact XO.out) Tryz.underlying28 rfl (by exact (qJF G ga gn)))
          refine yR (fun K hK => ?_)
          go_simp
          refine (drainsP_any G ga gn _ RG.out).mono ?_
          rintro e U6 ⟨rfl, b⟩
          rw [DBG.out, DEG.out]
          replace BU := Lib.hid (BU.out.trans (b.mono BU.out.size))
          replace HR := Lib.hid (HR.out.below b)
          replace RL := Lib.hid (RL.out.below b)
          replace RD := Lib.hid (RD.out.below b)
          replace RG := Lib.hid (RG.out.below b)
          replace XF := Lib.hid (qblk b XF.out)
          replace XO := Lib.hid (qblk b XO.out)
          clear b
          try dsimp only
          refine yK hK ?_
          clear hK K
          refine yM (.tuple #[.bool true, .int .i64 0]) ?_
          refine yM (.bool true) ?_
          refine yM (.int .i64 0) ?_
          refine yM (.bool true) ?_
          refine yM (.int .i64 0) ?_
          refine yE ?_
          go_upto_region 23 with fail
          refine yB ?_
          refine yW (.agg (G.cells ga gn)) ?_ (qyrow (by kernel_rfl) 28 _ rfl o rfl _ 28 (0, 0) _ (fun W hW => by rw [hW]; exact XO.out) Tryz.underlying28 rfl (by exact (qJF G ga gn)))
          refine yR (fun K hK => ?_)
          go_simp
          refine (regionsP_any G ga gn _ RG.out).mono ?_
          rintro e U7 ⟨⟨ma, mm, rfl, own⟩, b9⟩
          have b := b9
          clear b9
          rw [PEG.out] at own ⊢
          try dsimp only at own ⊢
          rw [hNM.out] at own ⊢
          have RM := Lib.hid own
          clear own
          replace BU := Lib.hid (BU.out.trans (b.mono BU.out.size))
          replace HR := Lib.hid (HR.out.below b)
          replace RL := Lib.hid (RL.out.below b)
          replace RD := Lib.hid (RD.out.below b)
          replace RG := Lib.hid (RG.out.below b)
          replace XF := Lib.hid (qblk b XF.out)
          replace XO := Lib.hid (qblk b XO.out)
          clear b
          try dsimp only
          refine yK hK ?_
          clear hK K
          refine yM (.tuple #[.slice ma NM mm, .int .i64 0]) ?_
          refine yM (.slice ma NM mm) ?_
          refine yM (.int .i64 0) ?_
          refine yM (.slice ma NM mm) ?_
          refine yM (.int .i64 0) ?_
          refine yE ?_
          go_upto_region 24 with fail
          refine yB ?_
          refine yM (.int .i64 0) ?_
          refine yW (.bool false) ?_ (.inl ⟨by kernel_rfl, by intro W hW; (try rw [hW]); go_simp; (try simp)⟩)
          refine yM (.bool false) ?_
          refine yM (.int .i64 0) ?_
          refine yW (.bool false) ?_ (.inl ⟨by kernel_rfl, by intro W hW; (try rw [hW]); go_simp; (try simp)⟩)
          refine yM (.bool false) ?_
          refine yM (.bool false) ?_
          refine yM (.bool true) ?_
          refine yM (.bool false) ?_
          refine yM (.bool false) ?_
          refine yE ?_
          go_upto_region 26 with fail
          refine yB ?_
          refine yW (.agg (f.cells a n)) ?_ (qyrow (by kernel_rfl) 28 _ rfl p rfl _ 28 (0, 0) _ (fun W hW => by rw [hW]; exact XF.out) Tryz.underlying28 rfl (by exact (qJF f a n)))
          refine yM (.slice la NS lm) ?_
          refine yR (fun K hK => ?_)
          go_simp
          refine (furrows_any f a n la NS lm ls _ (by have := LSB.out; omega) RGF.out HR.out RL.out).mono ?_
          rintro e U8 ⟨⟨wa, wm, rfl, own⟩, b9⟩
          have b := b9
          clear b9
          rw [hwas.out] at own ⊢
          rw [hNW.out] at own ⊢
          have RW := Lib.hid own
          clear own
          replace BU := Lib.hid (BU.out.trans (b.mono BU.out.size))
          replace HR := Lib.hid (HR.out.below b)
          replace RL := Lib.hid (RL.out.below b)
          replace RD := Lib.hid (RD.out.below b)
          replace RG := Lib.hid (RG.out.below b)
          replace RM := Lib.hid (RM.out.below b)
          replace XF := Lib.hid (qblk b XF.out)
          replace XO := Lib.hid (qblk b XO.out)
          clear b
          try dsimp only
          refine yK hK ?_
          clear hK K
          refine yM (.slice wa NW wm) ?_
          refine yE ?_
          go_upto_region 27 with fail
          refine yB ?_
          refine yW (.agg (G.cells ga gn)) ?_ (qyrow (by kernel_rfl) 28 _ rfl o rfl _ 28 (0, 0) _ (fun W hW => by rw [hW]; exact XO.out) Tryz.underlying28 rfl (by exact (qJF G ga gn)))
          refine yM (.slice ma NM mm) ?_
          refine yR (fun K hK => ?_)
          go_simp
          refine (furrows_any G ga gn ma NM mm ms _ (by have := LSG.out; omega) RGG.out RG.out RM.out).mono ?_
          rintro e U9 ⟨⟨na, nm, rfl, own⟩, b9⟩
          have b := b9
          clear b9
          rw [hnow.out] at own ⊢
          rw [hNX.out] at own ⊢
          have RX := Lib.hid own
          clear own
          replace BU := Lib.hid (BU.out.trans (b.mono BU.out.size))
          replace HR := Lib.hid (HR.out.below b)
          replace RL := Lib.hid (RL.out.below b)
          replace RD := Lib.hid (RD.out.below b)
          replace RG := Lib.hid (RG.out.below b)
          replace RM := Lib.hid (RM.out.below b)
          replace RW := Lib.hid (RW.out.below b)
          replace XF := Lib.hid (qblk b XF.out)
          replace XO := Lib.hid (qblk b XO.out)
          clear b
          try dsimp only
          refine yK hK ?_
          clear hK K
          refine yM (.slice na NX nm) ?_
          refine yE ?_
          have SUB : Hid ((now.drop 0).Sublist (was.drop 0)) := Lib.hid (by rw [LEFT.out]; exact List.filter_sublist)
          have BF := Lib.hid (BF0.out.trans (BU.out.mono BF0.out.size))
          clear HR RL RD RG RM XF XO BU
          clear HR0 RL0 RD0 XF0
          go_wp2_with fail
          generalize U9 = Y5 at *
          go_loopw [21, 22] (fun av kv wr => ∃ (b k : Nat), av = .int .i64 (b : Int) ∧ kv = .int .i64 (k : Int) ∧ k ≤ NX ∧ Hid ((now.drop k).Sublist (was.drop b)) ∧ Hid (RdLL wr wa NW wm was) ∧ Hid (RdLL wr na NX nm now) ∧ Hid (Below w.heap.size w wr)) (fun _ kv _ => NX - (intOf kv).toNat)
          case atStart => exact ⟨0, 0, rfl, rfl, Nat.zero_le _, SUB, RW, RX, BF⟩
          case round =>
            clear SUB RW RX BF
            obtain ⟨b, k, rfl, rfl, hk, SUB, RW, RX, BF⟩ := hrel
            by_cases hkx : k < NX
            · have t0 : decide ((k : Int) < (NX : Int)) = true := by simp; omega
              have HK64 : Hid ((k : Int) + 1 ≤ 9223372036854775807) := Lib.hid (by have h1 := DLEN.out; have h2 := NWB.out; omega)
              obtain ⟨x, hx⟩ : ∃ x, now[k]? = some x := ⟨_, List.getElem?_eq_getElem (by rw [hNX.out]; exact hkx)⟩
              have HX := Lib.hid hx
              have HKX : Hid (k < NX) := Lib.hid hkx
              clear hx
              go_wp2_with fail
              clear t0
              generalize wr = Y6 at *
              go_loopw [21] (fun av wr => ∃ b : Nat, av = .int .i64 (b : Int) ∧ b ≤ NW ∧ Hid ((now.drop k).Sublist (was.drop b)) ∧ Hid (RdLL wr wa NW wm was) ∧ Hid (RdLL wr na NX nm now) ∧ Hid (Below w.heap.size w wr)) (fun av _ => NW - (intOf av).toNat)
              case atStart => exact ⟨b, rfl, by have := sub_lt SUB.out HX.out; rw [hNW.out] at this; omega, SUB, RW, RX, BF⟩
              case round =>
                clear SUB RW RX BF
                obtain ⟨b, rfl, hb, SUB, RW, RX, BF⟩ := hrel
                have HBL : Hid (b < NW) := Lib.hid (by have := sub_lt SUB.out HX.out; rw [hNW.out] at this; exact this)
                have t1 : decide ((b : Int) < (NW : Int)) = true := by have := HBL.out; simp; omega
                have HB64 : Hid ((b : Int) + 1 ≤ 9223372036854775807) := Lib.hid (by have h2 := NWB.out; omega)
                obtain ⟨yv, hyv⟩ : ∃ x, was[b]? = some x := ⟨_, List.getElem?_eq_getElem (by rw [hNW.out]; exact HBL.out)⟩
                have HY := Lib.hid hyv
                obtain ⟨R1, o1, a1, c1, ha1, hc1, hr1⟩ := RW.out.at_ b yv hyv
                subst ha1
                obtain ⟨R2, o2, a2, c2, ha2, hc2, hr2⟩ := RX.out.at_ k x HX.out
                subst ha2
                have L1 := Lib.hid (show LsC wr R1 (o1 + b) a1 c1 yv from ⟨hc1, hr1⟩)
                have L2 := Lib.hid (show LsC wr R2 (o2 + k) a2 c2 x from ⟨hc2, hr2⟩)
                clear hyv hc1 hr1 hc2 hr2
                go_upto_region 32 with fail
                have zb : b < NW := HBL.out
                have zk : k < NX := HKX.out
                have hd : Below wr.heap.size wr wr.drew := (Below.refl _ _).drew
                replace BF := Lib.hid (BF.out.trans (hd.mono BF.out.size))
                replace RW := Lib.hid (RW.out.below hd)
                replace RX := Lib.hid (RX.out.below hd)
                replace L1 := Lib.hid (L1.out.below hd)
                replace L2 := Lib.hid (L2.out.below hd)
                clear hd
                refine zD (fun W => Below wr.drew.heap.size wr.drew W) (Below.refl _ _) (fun hHeld => ?_)
                have BV := Lib.hid hHeld
                generalize wr.drew = V1 at *
                refine zW 0 rfl (.int .i64 (b : Int)) ?_
                refine zW 1 rfl (.slice (some ⟨R1, o1, none⟩) NW wm) ?_
                refine zW 2 rfl (.int .i64 (NW : Int)) ?_
                refine zW 3 rfl (.bool true) (hy := .inl ⟨by kernel_rfl, by intro W hW; go_simp; first | done | exact t1 | (simp; omega)⟩) ?_
                refine zW 4 rfl (.bool true) ?_
                refine zW 5 rfl (.slice (some ⟨R1, o1, none⟩) NW wm) ?_
                refine zW 6 rfl (.int .i64 (b : Int)) ?_
                refine zW 7 rfl (.pointer (some ⟨R1, o1 + b, none⟩)) ?_
                refine zS 8 rfl (.slice a1 yv.length c1) (fun W hW => by have c := (L1.out.below hW).cell; go_simp) ?_
                refine zW 9 rfl (.slice (some ⟨R2, o2, none⟩) NX nm) ?_
                refine zW 10 rfl (.int .i64 (k : Int)) ?_
                refine zW 11 rfl (.pointer (some ⟨R2, o2 + k, none⟩)) ?_
                refine zS 12 rfl (.slice a2 x.length c2) (fun W hW => by have c := (L2.out.below hW).cell; go_simp) ?_
                refine zR 13 rfl (fun K hK => ?_)
                go_simp
                refine (sameInts2_any a1 yv.length c1 yv a2 x.length c2 x _ (L1.out.below BV.out).rd (L2.out.below BV.out).rd).mono ?_
                rintro e Z1 ⟨rfl, b⟩
                have BV2 := Lib.hid (BV.out.trans (b.mono BV.out.size))
                clear b BV
                have BV := BV2
                clear BV2
                cases he : decide (yv = x)
                · try dsimp only
                  refine zK hK BV.out (fun hHeld => ?_)
                  clear hK K
                  refine zW 14 rfl (.bool true) ?_
                  refine zW 15 rfl (.bool true) ?_
                  refine zE ?_
                  have bz := BV.out
                  replace BF := Lib.hid (BF.out.trans (bz.mono BF.out.size))
                  replace RW := Lib.hid (RW.out.below bz)
                  replace RX := Lib.hid (RX.out.below bz)
                  replace L1 := Lib.hid (L1.out.below bz)
                  replace L2 := Lib.hid (L2.out.below bz)
                  clear bz
                  clear BV
                  have SUB2 : Hid ((now.drop k).Sublist (was.drop (b + 1))) := Lib.hid (sub_skip SUB.out HX.out HY.out (of_decide_eq_false he))
                  clear t1 zb zk he
                  go_upto_region 33 with fail
                  have hb64 := HB64.out
                  go_wp2_with fail
                  go_roundw
                  case rel => exact ⟨b + 1, by simp, by have := HBL.out; omega, SUB2, RW, RX, BF⟩
                  case measure => have := HBL.out; simp [intOf]; omega
                · try dsimp only
                  refine zK hK BV.out (fun hHeld => ?_)
                  clear hK K
                  refine zW 14 rfl (.bool false) ?_
                  refine zW 15 rfl (.bool false) ?_
                  refine zE ?_
                  have bz := BV.out
                  replace BF := Lib.hid (BF.out.trans (bz.mono BF.out.size))
                  replace RW := Lib.hid (RW.out.below bz)
                  replace RX := Lib.hid (RX.out.below bz)
                  replace L1 := Lib.hid (L1.out.below bz)
                  replace L2 := Lib.hid (L2.out.below bz)
                  clear bz
                  clear BV
                  have SUB2 : Hid ((now.drop (k + 1)).Sublist (was.drop b)) := Lib.hid (sub_next SUB.out HX.out)
                  have t2 : ((b : Int) == (NW : Int)) = false := by simp; omega
                  clear t1 zk he
                  go_upto_region 31 with fail
                  clear t2 zb
                  have hk64 := HK64.out
                  go_wp2_with fail
                  go_roundw
                  case rel => exact ⟨b, k + 1, rfl, by simp, by omega, SUB2, RW, RX, BF⟩
                  case measure => simp [intOf]; omega
            · have t0 : decide ((k : Int) < (NX : Int)) = false := by simp; omega
              have DL2 : Hid (NX + i = NW) := Lib.hid DLEN.out
              have WSS := Lib.hid (show wrap64 ((NW : Int) - (i : Int)) = (NX : Int) by have := DL2.out; have := NWB.out; unfold wrap64; omega)
              go_upto_region 36 with fail
              clear t0
              refine yB ?_
              refine yM (.bool true) ?_
              refine yM (.bool true) ?_
              refine yM (.slice na NX nm) ?_
              refine yW (.int .i64 (NX : Int)) ?_
              refine yM (.slice wa NW wm) ?_
              refine yW (.int .i64 (NW : Int)) ?_
              refine yM (.slice da i dm) ?_
              refine yW (.int .i64 (i : Int)) ?_
              refine yW (.int .i64 (NX : Int)) ?_ (.inl ⟨by kernel_rfl, by intro W hW; rw [hW]; go_simp; exact (IntWalk.i64_left _).trans WSS.out⟩)
              refine yW (.bool true) ?_ (.inl ⟨by kernel_rfl, by intro W hW; (try rw [hW]); go_simp; (try simp)⟩)
              refine yM (.bool true) ?_
              refine yM (.bool true) ?_
              refine yE ?_
              go_wp2_with fail
              go_ret
              exact ⟨rfl, BF.out⟩
    · have hn : f.valid = false := by simpa using hv
      have PE : Hid (regionsP f = ([], 10)) := Lib.hid (by unfold regionsP; rw [if_neg (by rw [hn]; decide)])
      have DE : Hid (deadP f = ([], 10)) := Lib.hid (by unfold deadP; rw [if_neg (by rw [hn]; decide)])
      clear hv
      go_upto_region 4 with fail
      refine yB ?_
      refine yW (.agg (f.cells a n)) ?_ (qyrow (by kernel_rfl) 28 _ rfl p rfl _ 28 (0, 0) _ (fun W hW => by rw [hW]; exact XF.out) Tryz.underlying28 rfl (by exact (qJF f a n)))
      refine yR (fun K hK => ?_)
      go_simp
      refine (regionsP_any f a n _ HR.out).mono ?_
      rintro e U3 ⟨⟨a3, n3, rfl, own⟩, b9⟩
      have b := b9
      clear b9 own
      rw [PE.out]
      try dsimp only
      replace BF := Lib.hid (BF.out.trans (b.mono BF.out.size))
      replace HR := Lib.hid (HR.out.below b)
      replace XF := Lib.hid (qblk b XF.out)
      clear b
      try dsimp only
      refine yK hK ?_
      clear hK K
      refine yM (.tuple #[.slice a3 0 n3, .int .i64 10]) ?_
      refine yM (.slice a3 0 n3) ?_
      refine yM (.int .i64 10) ?_
      refine yM (.slice a3 0 n3) ?_
      refine yM (.int .i64 10) ?_
      refine yE ?_
      go_upto_region 5 with fail
      refine yB ?_
      refine yW (.agg (f.cells a n)) ?_ (qyrow (by kernel_rfl) 28 _ rfl p rfl _ 28 (0, 0) _ (fun W hW => by rw [hW]; exact XF.out) Tryz.underlying28 rfl (by exact (qJF f a n)))
      refine yR (fun K hK => ?_)
      go_simp
      refine (deadP_any f a n _ HR.out).mono ?_
      rintro e U4 ⟨⟨a4, n4, rfl, own⟩, b9⟩
      have b := b9
      clear b9 own
      rw [DE.out]
      try dsimp only
      replace BF := Lib.hid (BF.out.trans (b.mono BF.out.size))
      replace HR := Lib.hid (HR.out.below b)
      replace XF := Lib.hid (qblk b XF.out)
      clear b
      try dsimp only
      refine yK hK ?_
      clear hK K
      refine yM (.tuple #[.slice a4 0 n4, .int .i64 10]) ?_
      refine yM (.slice a4 0 n4) ?_
      refine yM (.int .i64 10) ?_
      refine yM (.slice a4 0 n4) ?_
      refine yM (.int .i64 10) ?_
      refine yE ?_
      go_upto_region 6 with fail
      refine yB ?_
      refine yM (.int .i64 10) ?_
      refine yW (.bool true) ?_
      refine yM (.bool true) ?_
      go_skip
      refine yM (.bool true) ?_
      refine yE ?_
      go_upto_region 7 with fail
      refine yB ?_
      refine yM (.bool true) ?_
      refine yM (.bool true) ?_
      refine yM (.int .i64 10) ?_
      refine yM (.int .i64 10) ?_
      refine yW (.bool true) ?_ (.inl ⟨by kernel_rfl, by intro W hW; (try rw [hW]); go_simp; (try simp)⟩)
      refine yM (.bool true) ?_
      refine yM (.bool true) ?_
      refine yE ?_
      go_wp2_with fail
      go_ret
      exact ⟨rfl, BF.out⟩
end Go.Proofs.YtimmadkbkimonaaGreatDoor
namespace Go.Proofs.YtimmadkbkimonaaGreatDoor
open Go.ChangeShapes Go.WideShapes Go.ChangeAt Go.RowKit

theorem Tryz.own : ownKnob Tryz.prog.godebug = none := by kernel_rfl
theorem Tryz.laidOut : laidOutB Tryz.prog = true := by kernel_rfl

theorem below_trodAll {H : Type} {enc : TypeId × Value → H} {P : Program} (hl : laidOutB P = true) {W W' : World} (hb : Below W.heap.size W W') :
    ∀ (ts : List TypeId) {vs : List Value} {ds : List (DataW H)} {ps : List MemPlace}, ts.all (fun t => P.readableRec t && decide (t < P.types.size)) = true → (∀ x ∈ ps, x.block < W.heap.size) →
      DataW.TrodAll enc P W 0 (fun _ => true) true ts vs ds ps → DataW.TrodAll enc P W' 0 (fun b => decide (b < W.heap.size)) true ts vs ds ps
  | [], [], [], _, _, _, h => h
  | [], _ :: _, _, _, _, _, h => h.elim
  | [], [], _ :: _, _, _, _, h => h.elim
  | _ :: _, [], _, _, _, _, h => h.elim
  | _ :: _, _ :: _, [], _, _, _, h => h.elim
  | t :: ts, v :: vs, d :: ds, ps, hr, hlt, h => by
    obtain ⟨p, q, h1, h2, rfl⟩ := h
    simp only [List.all_cons, Bool.and_eq_true, decide_eq_true_eq] at hr
    exact ⟨p, q, Below.trod hl hr.1.1 hr.1.2 h1 hb (fun x hx => hlt x (List.mem_append_left _ hx)), below_trodAll hl hb ts hr.2 (fun x hx => hlt x (List.mem_append_right _ hx)) h2, rfl⟩

theorem post_of_law {H : Type} {enc : TypeId × Value → H} {P : Program} (hl : laidOutB P = true) {t : TypeId} (ht : P.underlying t = some .bool) {f : Func} {s : ChangeSpec} {W W' : World} {args : Array Value} {ds : List (DataW H)} {ps : List MemPlace}
    (hv : s.vars = []) (hf : f.resultTypes = #[t]) (hr : f.params.toList.all (fun t => P.readableRec t && decide (t < P.types.size)) = true)
    (hW : DataW.Whole enc P f.params.toList s.vars false W args.toList ds [] ps) (hA : DataW.TrodAll enc P W 0 (fun _ => true) true f.params.toList args.toList ds ps)
    (hs : s.fn H (ds ++ []) = { results := [.lit (.bool true)], args := ds }) (hb : Below W.heap.size W W') : s.post enc P f false true false false W args (.bool true) W' := by
  refine ⟨ds, [], ps, [], ps, [], hW, ?_, ?_, ?_, hb.frame _, fun h => by cases h⟩
  · rw [hs, hf]
    exact trodAll_mk1 (shut_bool ht _)
  · rw [hs]
    exact below_trodAll hl hb _ hr hW.lt hA
  · rw [hs, hv]
    rfl

end Go.Proofs.YtimmadkbkimonaaGreatDoor
namespace Go.Proofs.YtimmadkbkimonaaGreatDoor
open Go.ChangeShapes Go.WideShapes Go.ChangeAt Go.RowKit

theorem i64_of_wf {x : Int} (h : (Lit.int .i64 x).wf = true) : I64 x := by
  simp [Lit.wf, IntKind.min, IntKind.max, IntKind.signed, IntKind.bits] at h
  unfold I64
  omega
theorem Tryz.cells3 : Tryz.prog.cellsOf 3 = 1 := by kernel_rfl
theorem Tryz.cells26 : Tryz.prog.cellsOf 26 = 1 := by kernel_rfl
section
variable {H : Type} {enc : TypeId × Value → H} {W : World} {fuel : Nat}

theorem open_ri1 {cs : List Value} {y : DataW H × List MemPlace} (h : DataW.trod enc Tryz.prog W 0 (fun _ => true) true fuel 26 cs = some y) : ∃ a c l, cs = [.slice a l.length c] ∧ RdI W a l.length c l ∧ ∀ z ∈ l, I64 z := by
  rcases open_ints Tryz.underlying26 Tryz.underlying3 Tryz.cells3 h with ⟨hcs, hx⟩ | ⟨a, n, c, zs, hcs, _, hl, hm, hz, hx, hcell, hwz⟩
  · exact ⟨none, 0, [], hcs, RdA.nil _ _, fun z hz => by cases hz⟩
  · simp only [if_true] at hz
    have hlen : (zs.take n).length = n := by rw [List.length_take]; omega
    refine ⟨some a, c, zs.take n, by rw [hlen]; exact hcs, ⟨by simp, by omega, hm, ?_⟩, fun z hz => i64_of_wf (hwz z (List.mem_of_mem_take hz))⟩
    by_cases hc0 : c = 0
    · exact .inl hc0
    · obtain ⟨ab, ao, spot⟩ := a
      have hspot : spot = none := by simpa [Addr.add] using World.cell?_spot (hcell 0 (by omega))
      subst hspot
      refine .inr ⟨ab, ao, rfl, fun i x hx => ?_⟩
      rw [List.getElem?_map, List.getElem?_take] at hx
      split at hx
      · rename_i hi
        have hiz : i < zs.length := by omega
        rw [List.getElem?_eq_getElem hiz, Option.map_some] at hx
        simp only [Option.some.injEq] at hx
        subst hx
        have hc := hcell i hiz
        rw [Addr.add_lit] at hc
        rw [hc, List.getD_eq_getElem?_getD, List.getElem?_eq_getElem hiz]
        rfl
      · cases hx
end
end Go.Proofs.YtimmadkbkimonaaGreatDoor
namespace Go.Proofs.YtimmadkbkimonaaGreatDoor
set_option linter.constructorNameAsVariable false
open Go.ChangeShapes Go.WideShapes Go.ChangeAt Go.RowKit

theorem Tryz.cells28 : Tryz.prog.cellsOf 28 = 4 := by kernel_rfl
section
variable {H : Type} {enc : TypeId × Value → H} {W : World}
set_option maxRecDepth 100000 in
theorem open_face {base : Nat} {v : Value} {d : DataW H} {p : List MemPlace} (hval : Value.okWide Tryz.prog W .any base 28 v)
    (h : DataW.Trod enc Tryz.prog W 0 (fun _ => true) true 28 v d p) : ∃ (f : FaceV) (a : Option Addr) (n : Nat), v = .agg (f.cells a n) ∧ RdI W a f.kinds.length n f.kinds := by
  obtain ⟨cs, rfl, hsz⟩ := okWide_struct Tryz.underlying28 hval
  obtain ⟨fuel, hf⟩ := h
  obtain ⟨y0, y1, y2, y3, n, _, hl, g0, g1, g2, g3⟩ := Go.Joins.trod_struct4 Tryz.underlying28 hf
  rw [Tryz.cells28] at hsz
  obtain ⟨l⟩ := cs
  match l, hsz with
  | [c0, c1, c2, c3], _ =>
    have g0' : DataW.trod enc Tryz.prog W 0 (fun _ => true) true n 3 (([c0, c1, c2, c3].drop 0).take (Tryz.prog.cellsOf 3)) = some y0 := g0
    have g1' : DataW.trod enc Tryz.prog W 0 (fun _ => true) true n 3 (([c0, c1, c2, c3].drop 1).take (Tryz.prog.cellsOf 3)) = some y1 := g1
    have g2' : DataW.trod enc Tryz.prog W 0 (fun _ => true) true n 3 (([c0, c1, c2, c3].drop 2).take (Tryz.prog.cellsOf 3)) = some y2 := g2
    have g3' : DataW.trod enc Tryz.prog W 0 (fun _ => true) true n 26 (([c0, c1, c2, c3].drop 3).take (Tryz.prog.cellsOf 26)) = some y3 := g3
    rw [Tryz.cells3] at g0' g1' g2'
    rw [Tryz.cells26] at g3'
    obtain ⟨x0, a0, _, _⟩ := DataW.trod_int Tryz.underlying3 g0'
    obtain ⟨x1, a1, _, _⟩ := DataW.trod_int Tryz.underlying3 g1'
    obtain ⟨x2, a2, _, _⟩ := DataW.trod_int Tryz.underlying3 g2'
    obtain ⟨a, c, l, a3, hr, _⟩ := open_ri1 g3'
    simp at a0 a1 a2 a3
    exact ⟨⟨x0, x1, x2, l⟩, a, c, by rw [a0, a1, a2, a3]; rfl, hr⟩
end
theorem gE3 : Tryz.prog.globalNamed "strconv.ErrSyntax" = some 3 := by kernel_rfl
theorem gE4 : Tryz.prog.globalNamed "strconv.ErrRange" = some 4 := by kernel_rfl
theorem gE3t : (Tryz.prog.globals[3]?).map (·.type) = some 89 := by kernel_rfl
theorem gE4t : (Tryz.prog.globals[4]?).map (·.type) = some 89 := by kernel_rfl
theorem gstar : "*" ++ "errors.errorString" = "*errors.errorString" := by decide
theorem rowE (u : TypeId) (h : Tryz.prog.typeName? 3 u = some "*errors.errorString") : u = 212 :=
  typeName_ptr_named (nm := "errors.errorString") (by rw [gstar]; kernel_rfl) (by kernel_rfl) (by decide) u (by rw [gstar]; exact h)
theorem Tryz.cells214 : Tryz.prog.cellsOf 214 = 1 := by kernel_rfl
theorem Tryz.cells9 : Tryz.prog.cellsOf 9 = 1 := by kernel_rfl
theorem env_of {W : World} (hL : laidMetH Tryz.prog Rows.stonesCellsRow.laid W) (hs : W.ShapedOpen Tryz.prog) : EnvW W := by
  rw [MakeChecks.laidMetH_plain _ _ _ (by kernel_rfl)] at hL
  obtain ⟨a0, s0, hv0, _⟩ := laid_sentinel hL.tail.tail.tail.tail gE4 gE4t Tryz.underlying89 rowE Tryz.underlying212 Tryz.underlying214 rfl rfl Tryz.underlying9 Tryz.cells214 Tryz.cells9
  obtain ⟨a1, s1, hv1, _⟩ := laid_sentinel hL.tail.tail.tail.tail.tail gE3 gE3t Tryz.underlying89 rowE Tryz.underlying212 Tryz.underlying214 rfl rfl Tryz.underlying9 Tryz.cells214 Tryz.cells9
  refine ⟨Go.Proofs.cell_of_shapedOpen_int (zero := #[.int .i64 0]) (t := 3) hs (of_decide_eq_true (by kernel_rfl)) (by kernel_rfl) rfl (by kernel_rfl) (by kernel_rfl) Tryz.underlying3, ⟨.iface 212 (.pointer (some a1)), ?_, .inr ⟨_, _, rfl⟩⟩, ⟨.iface 212 (.pointer (some a0)), ?_, .inr ⟨_, _, rfl⟩⟩⟩
  · have h0 := World.var?_cell gE3 hv1 0
    simpa using h0
  · have h0 := World.var?_cell gE4 hv0 0
    simpa using h0
end Go.Proofs.YtimmadkbkimonaaGreatDoor
