/- The reference's reader: Count, Numbers. -/
import Derived.Test.YtpjiakgfegnmcaaRd1
namespace Go.Proofs.Ytpjiakgfegnmcaa
open Go.RowKit

set_option maxHeartbeats 4000000 in
set_option maxRecDepth 20000 in
theorem count_any (rp : Nat) (l : List UInt8) (a : Option Addr) (n c at0 : Nat) (bad : Bool) (w : World) (h : RdQ w rp l a n c at0 bad) :
    Calls Try.prog 118 #[.pointer (some ⟨rp, 0, none⟩)] w fun e w' => ∃ (k at' : Nat) (bad' : Bool), e = .returned (.int .i64 k) ∧ RdQ w' rp l a n c at' bad' ∧ Same (fun k => k = rp) w w' ∧ k ≤ l.length ∧
      ((lenF numR (l.drop at0) = some (k, l.drop at') ∧ bad' = bad) ∨ (lenF numR (l.drop at0) = none ∧ bad' = true)) := by
  have hn63 := h.r.maxn
  have HL := Lib.hid h.len
  go_enter Try.func118, Try.ntmps118
  go_wp2_with fail
  refine (rnumber9_any rp l a n c at0 bad w h).mono ?_
  rintro e w1 ⟨z, at', bad', rfl, h2, h3, h4⟩
  have c0 := h2.c0
  have c1 := h2.c1
  have c2 := h2.c2
  have f2 := h2.f 2
  have hle := h2.le
  have HR := Lib.hid h2; clear h2
  have HS := Lib.hid h3; clear h3
  have H4 := Lib.hid h4; clear h4
  rw [HL.out] at hle
  by_cases hz : z < 0
  · have hz1 : decide (z < 0) = true := by simp [hz]
    have HF := Lib.hid (show lenF numR (l.drop at0) = none by
      rcases H4.out with ⟨e, _⟩ | ⟨e, _⟩
      · unfold lenF; rw [e]; simp only; rw [if_neg (by omega)]
      · unfold lenF; rw [e])
    go_wp2_with fail
    go_quiet (fail)
    go_wp2_with fail
    go_ret
    have hb := below_drewN (Below.refl w1.heap.size w1) nq
    have hR := HR.out.same (S := fun _ => False) (Same.of_below hb) id (fun _ _ _ _ => id)
    exact ⟨0, at', true, rfl, hR.setBad, (HS.out.trans (Same.of_below hb)).trans (same_at _ rp 2 _), Nat.zero_le _, .inr ⟨HF.out, rfl⟩⟩
  · have hz1 : decide (z < 0) = false := by simp; omega
    have hsub : (n : Int) - (at' : Int) = ((n - at' : Nat) : Int) := by omega
    by_cases hc : ((n - at' : Nat) : Int) < z
    · have hc1 : decide ((n : Int) - (at' : Int) < z) = true := by simp; omega
      have HF := Lib.hid (show lenF numR (l.drop at0) = none by
        rcases H4.out with ⟨e, _⟩ | ⟨e, _, e2⟩
        · unfold lenF; rw [e]; simp only; rw [if_neg (by rw [List.length_drop, HL.out]; omega)]
        · omega)
      clear hsub
      go_wp2_with fail
      go_quiet (fail)
      go_wp2_with fail
      go_ret
      have hb := below_drewN (Below.refl w1.heap.size w1) nq
      have hR := HR.out.same (S := fun _ => False) (Same.of_below hb) id (fun _ _ _ _ => id)
      exact ⟨0, at', true, rfl, hR.setBad, (HS.out.trans (Same.of_below hb)).trans (same_at _ rp 2 _), Nat.zero_le _, .inr ⟨HF.out, rfl⟩⟩
    · have hc1 : decide ((n : Int) - (at' : Int) < z) = false := by simp; omega
      obtain ⟨k, rfl⟩ : ∃ k : Nat, z = (k : Int) := ⟨z.toNat, by omega⟩
      have HF : Hid ((lenF numR (l.drop at0) = some (k, l.drop at') ∧ bad' = bad) ∨ (lenF numR (l.drop at0) = none ∧ bad' = true)) := Lib.hid (by
        rcases H4.out with ⟨e, e2⟩ | ⟨e, e1, e2⟩
        · left; refine ⟨?_, e2⟩; unfold lenF; rw [e]; simp only; rw [if_pos (by rw [List.length_drop, HL.out]; omega), Int.toNat_natCast]
        · right; refine ⟨?_, e1⟩; unfold lenF; rw [e])
      have hk : k ≤ n := by omega
      clear hsub
      go_wp2_with fail
      go_quiet (fail)
      go_wp2_with fail
      go_ret
      have hb := below_drewN (Below.refl w1.heap.size w1) nq
      have hR := HR.out.same (S := fun _ => False) (Same.of_below hb) id (fun _ _ _ _ => id)
      exact ⟨k, at', bad', rfl, hR, HS.out.trans (Same.of_below hb), by rw [HL.out]; exact hk, HF.out⟩
/-- append of ints to ints of the call's own. -/
theorem app_ints (w : World) {ops : Array Oper} {rest : List Oper} {o : Oper} {a : Act} {Q : Exit → Act → World → Prop} (hgd : o.guard = none) (s x : Operand)
    (ho : o.op = .call { callee := .builtin .append, args := #[s, x], argTypes := #[33, 33] }) (base : Nat)
    (sa : Option Addr) (sn sc : Nat) (xs : List Int) (hs : a.eval s = .slice sa sn sc) (hown : w.ownsRow base 3 1 (.slice sa sn sc) sn (xs.map intV))
    (xa : Option Addr) (m xc : Nat) (ys : List Int) (hx : a.eval x = .slice xa m xc) (hrd : RdI w xa m xc ys) (hbytes : (sn + m) * 8 ≤ 140737488355328) (hbase : base ≤ w.heap.size)
    (h : ∀ a' c' w', w'.ownsRow base 3 1 (.slice a' (sn + m) c') (sn + m) ((xs ++ ys).map intV) → w.grownBy w' (Value.ownBlock (.slice sa sn sc)) → wpList Try.prog ops Q rest (a.put o.dst (.slice a' (sn + m) c')) w') :
    wpList Try.prog ops Q (o :: rest) a w := by
  obtain ⟨i, hi, hz0, hz1, hz2⟩ := info_parts infoInt
  exact wpList_append_rd w hgd s x 33 ho base 3 i (.int .i64 0) 1 8 Try.underlying33 hi hz0 hz1 hz2 rfl (by decide) sa sn sc _ hs hown xa m xc _ hx hrd (intV_one _) (by unfold maxLen; omega) hbytes hbase
    (fun a' c' w' h1 h2 => h a' c' w' (by rw [List.map_append]; exact h1) h2)
/-- What Numbers has read, or that something was wrong. -/
def NumsRel (l : List UInt8) (at0 : Nat) (bad : Bool) (ys : List Int) (at' : Nat) (bad' : Bool) : Prop :=
  ((bad' = false ∧ bad = false ∧ ∃ k t1, lenF numR (l.drop at0) = some (k, t1) ∧ many numR k t1 = some (ys, l.drop at')) ∨ (bad' = true ∧ (bad = true ∨ lenF numR (l.drop at0) = none ∨ ∃ k t1, lenF numR (l.drop at0) = some (k, t1) ∧ many numR k t1 = none)))
def NumsEnd (rp : Nat) (l : List UInt8) (a : Option Addr) (n c at0 : Nat) (bad : Bool) (ys : List Int) (w w' : World) : Prop := ∃ at' bad', RdQ w' rp l a n c at' bad' ∧ Same (fun k => k = rp) w w' ∧ NumsRel l at0 bad ys at' bad'
set_option maxHeartbeats 4000000 in
set_option maxRecDepth 20000 in
theorem rnumbers9_any (rp : Nat) (l : List UInt8) (a : Option Addr) (n c at0 : Nat) (bad : Bool) (w : World) (h : RdQ w rp l a n c at0 bad) (hl : l.length ≤ 1000000) :
    Calls Try.prog 91 #[.pointer (some ⟨rp, 0, none⟩)] w fun e w' => ∃ (ys : List Int) (sa : Option Addr) (sc : Nat), e = .returned (.slice sa ys.length sc) ∧ w'.ownsRow w.heap.size 3 1 (.slice sa ys.length sc) ys.length (ys.map intV) ∧ NumsEnd rp l a n c at0 bad ys w w' := by
  have hn63 := h.r.maxn
  have HL := Lib.hid h.len
  have hrp : rp < w.heap.size := (Array.getElem?_eq_some_iff.1 h.e).1
  have RL := Lib.hid (show 0 < n → ∀ b off, a = some ⟨b, off, none⟩ → b < w.heap.size from fun h0 b off e => rd_lt h.r h0 (by omega) b off e)
  obtain ⟨base, hbase⟩ : ∃ base, Hid (w.heap.size = base) := ⟨_, Lib.hid rfl⟩
  rw [hbase.out] at hrp RL
  rw [hbase.out]
  have HRP := Lib.hid hrp; clear hrp
  go_enter Try.func91, Try.ntmps91
  go_wp2_with fail
  refine (count_any rp l a n c at0 bad w h).mono ?_
  rintro e w1 ⟨cnt, at', bad', rfl, h2, h3, hcnt, h4⟩
  have hc6 : cnt ≤ 1000000 := Nat.le_trans hcnt hl
  have HR := Lib.hid h2; clear h2
  have HB1 : Hid (base ≤ w1.heap.size) := Lib.hid (by rw [← hbase.out]; exact h3.size)
  have HS : Hid (Same (fun k => k = rp ∨ base ≤ k) w w1) := Lib.hid (same_imp h3 fun k e => .inl e); clear h3
  obtain ⟨F, hF⟩ : ∃ F : Prop, Hid (F = (bad = true ∨ lenF numR (l.drop at0) = none ∨ ∃ k t1, lenF numR (l.drop at0) = some (k, t1) ∧ many numR k t1 = none)) := ⟨_, Lib.hid rfl⟩
  obtain ⟨t1, ht1⟩ : ∃ t1, Hid (t1 = l.drop at') := ⟨_, Lib.hid rfl⟩
  have H4 : Hid ((bad' = false ∧ bad = false ∧ lenF numR (l.drop at0) = some (cnt, t1)) ∨ (bad' = true ∧ F)) := Lib.hid (by
    rw [ht1.out, hF.out]
    rcases h4 with ⟨e, rfl⟩ | ⟨e, rfl⟩
    · cases bad'
      · exact .inl ⟨rfl, rfl, e⟩
      · exact .inr ⟨rfl, .inl rfl⟩
    · exact .inr ⟨rfl, .inr (.inl e)⟩)
  clear h4 h
  go_wp2_with fail
  go_loopw [4, 5] (fun o i wr => ∃ (k : Nat) (ys : List Int) (a' : Option Addr) (c' at2 : Nat) (bad2 : Bool), o = .slice a' k c' ∧ i = .int .i64 k ∧ k ≤ cnt ∧ Hid (wr.ownsRow base 3 1 (.slice a' k c') k (ys.map intV)) ∧ Hid (RdQ wr rp l a n c at2 bad2) ∧ Hid (Same (fun k => k = rp ∨ base ≤ k) w wr) ∧
      Hid ((bad2 = false ∧ bad = false ∧ lenF numR (l.drop at0) = some (cnt, t1) ∧ many numR k t1 = some (ys, l.drop at2)) ∨ (bad2 = true ∧ F))) (fun _ i _ => cnt - (intOf i).toNat)
  case atStart => exact ⟨0, [], none, 0, at', bad', rfl, rfl, Nat.zero_le _, Lib.hid (World.ownsRow_nil _ _ _ _), HR, HS, Lib.hid (H4.out.imp (fun h => ⟨h.1, h.2.1, h.2.2, by rw [ht1.out]; rfl⟩) id)⟩
  case round =>
    obtain ⟨k, ys, a', c', at2, bad2, rfl, rfl, hk, HO, HR2, HS2, HX⟩ := hrel
    have c2 := HR2.out.c2
    have hbs : base ≤ wr.heap.size := by rw [← hbase.out]; exact HS2.out.size
    have HYL := Lib.hid (show ys.length = k by have := HO.out.1; simpa using this)
    have FIN : Hid (∀ W, Same (fun k => k = rp ∨ base ≤ k) w W → Same (fun k => k = rp) w W) := Lib.hid fun W hS => ⟨hS.os, hS.tape, hS.output, hS.size, fun k hk hr => hS.block k hk (by have := hbase.out; have h1 : ¬ k = rp := hr; omega)⟩
    by_cases hlt : k < cnt
    · cases bad2 with
      | true =>
        go_wp2_with fail
        go_ret
        refine ⟨ys, a', c', by rw [HYL.out]; rfl, by rw [HYL.out]; exact HO.out, at2, true, HR2.out, FIN.out _ HS2.out, .inr ⟨rfl, ?_⟩⟩
        rw [← hF.out]
        rcases HX.out with ⟨e, _⟩ | ⟨_, e⟩
        · cases e
        · exact e
      | false =>
        go_wp2_with fail
        refine (rnumber9_any rp l a n c at2 false _ HR2.out).mono ?_
        rintro e w2 ⟨z, at3, bad3, rfl, g2, g3, g4⟩
        have O2 := Lib.hid (own_below (own_same HO.out g3 (fun b cur fr hb => .inr (by rw [show b = rp from hb]; exact HRP.out))) ((Below.refl w2.heap.size w2).alloc (Nat.le_refl _) (.cells #[.int .i64 z] 3)))
        have hbs2 : base ≤ (w2.alloc (.cells #[.int .i64 z] 3)).heap.size := Nat.le_trans hbs (Nat.le_trans g3.size (by simp))
        have HR3 := Lib.hid (g2.same (S := fun _ => False) (Same.of_below ((Below.refl w2.heap.size w2).alloc (Nat.le_refl _) (.cells #[.int .i64 z] 3))) id (fun _ _ _ _ => id))
        have HS3 := Lib.hid ((HS2.out.trans (same_imp g3 fun k e => .inl e)).trans (Same.of_below (S := fun k => k = rp ∨ base ≤ k) ((Below.refl w2.heap.size w2).alloc (Nat.le_refl _) (.cells #[.int .i64 z] 3))))
        have HX3 : Hid ((bad3 = false ∧ bad = false ∧ lenF numR (l.drop at0) = some (cnt, t1) ∧ many numR (k + 1) t1 = some (ys ++ [z], l.drop at3)) ∨ (bad3 = true ∧ F)) := Lib.hid (by
          rcases HX.out with ⟨_, e1, e2, e3⟩ | ⟨e, _⟩
          · rcases g4 with ⟨e4, e5⟩ | ⟨e4, e5, _⟩
            · exact .inl ⟨e5, e1, e2, many_succ e3 e4⟩
            · exact .inr ⟨e5, by rw [hF.out]; exact .inr (.inr ⟨cnt, t1, e2, many_fail e3 e4 cnt hlt⟩)⟩
          · cases e)
        clear g2 g3 g4
        go_wp2_with (at_builtin; refine app_ints _ rfl _ _ rfl base _ _ _ ys rfl O2.out _ _ _ [z] rfl (one_rd w2 z) (by omega) hbs2 ?_)
        intro a3 c3 w3 h5 h6
        have hlt3 := fun b hb => (O2.out.lt b hb).1
        have HR4 := Lib.hid (HR3.out.same (S := fun j => base ≤ j) (Same.of_grown h6 (fun j e => hlt3 j e)) (by have := HRP.out; omega) (fun h0 b off e => by have := RL.out h0 b off e; omega))
        have HS4 := Lib.hid (HS3.out.trans (Same.of_grown h6 (fun j e => .inr (hlt3 j e))))
        have H5 := Lib.hid (show w3.ownsRow base 3 1 (.slice a3 (k + 1) c3) (k + 1) ((ys ++ [z]).map intV) by simpa using h5); clear h5 h6 hlt3
        go_wp2_with fail
        go_roundw
        case rel => exact ⟨k + 1, ys ++ [z], a3, c3, at3, bad3, rfl, by go_num, by omega, H5, HR4, HS4, HX3⟩
        case measure => simp [intOf]; omega
    · have hkn : k = cnt := by omega
      subst hkn
      go_wp2_with fail
      go_ret
      refine ⟨ys, a', c', by rw [HYL.out]; rfl, by rw [HYL.out]; exact HO.out, at2, bad2, HR2.out, FIN.out _ HS2.out, ?_⟩
      unfold NumsRel
      rw [← hF.out]
      exact HX.out.imp (fun h => ⟨h.1, h.2.1, k, t1, h.2.2.1, h.2.2.2⟩) id
end Go.Proofs.Ytpjiakgfegnmcaa
