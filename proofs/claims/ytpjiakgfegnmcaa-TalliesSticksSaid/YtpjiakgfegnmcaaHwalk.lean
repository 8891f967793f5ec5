/- The statement TalliesHalves: its helpers. -/
import Derived.Test.YtpjiakgfegnmcaaAwake
import Derived.Test.YtpjiakgfegnmcaaHplain
namespace Go.Proofs.Ytpjiakgfegnmcaa
open Go.RowKit

theorem notch_own (a : Option Addr) (n c : Nat) (l : List UInt8) (w : World) (hr : RdB w a n c l) (hn : n ≤ 8192) :
    Calls Try.prog 9 #[.slice a n c] w fun e w' => ∃ a1 c1 a2 c2, e = .returned (.tuple #[.slice a1 (stockOf l).length c1, .slice a2 (foilOf l).length c2, .int .i64 0]) ∧
      w'.ownsRow w.heap.size 5 1 (.slice a1 (stockOf l).length c1) (stockOf l).length ((stockOf l).map byteV) ∧ w'.ownsRow w.heap.size 5 1 (.slice a2 (foilOf l).length c2) (foilOf l).length ((foilOf l).map byteV) ∧ Below w.heap.size w w' := by
  go_enter Try.func9, Try.ntmps9
  go_wp2_with fail
  refine (halves_any _ _ _ l _ hr (by omega)).mono ?_
  rintro e w1 ⟨a1, c1, a2, c2, rfl, h1, h2, hb⟩
  go_wp2_with fail
  go_ret3
  exact ⟨a1, c1, a2, c2, rfl, h1, h2, hb⟩

theorem results_tmp4 {fn : Func} {t u v x : Tmp} (h : fn.results = #[.tmp t, .tmp u, .tmp v, .tmp x]) (tmps : Array Value) (P : Program) (w : World) :
    (results fn tmps).run P w = .ok (.tuple #[tmps.getD t undef, tmps.getD u undef, tmps.getD v undef, tmps.getD x undef]) w := by
  simp [results, h]

/-- A list is longer than 300. -/
theorem long_any (a : Option Addr) (n c : Nat) (ls : List (List UInt8)) (w : World) (hr : RdBB w a n c ls) :
    Calls Try.prog 14 #[.slice a n c] w fun e w' => ∃ b : Bool, e = .returned (.bool b) ∧ (b = false → ∀ x ∈ ls, x.length ≤ 300) ∧ w' = w := by
  have hm := hr.maxn
  have hl := Lib.hid hr.len
  go_enter Try.func14, Try.ntmps14
  go_wp2
  go_loop [3] (fun i => ∃ k : Nat, k ≤ n ∧ i = .int .i64 k ∧ Hid (∀ j, j < k → (ls[j]?.getD []).length ≤ 300)) (fun i => n - (intOf i).toNat)
  case atStart => exact ⟨0, Nat.zero_le _, rfl, Lib.hid (fun j hj => by omega)⟩
  case round =>
    obtain ⟨k, hk, rfl, HR⟩ := hrel
    by_cases hlt : k < n
    · obtain ⟨b, off, rfl, hc⟩ := hr.at (by omega)
      obtain ⟨ai, ci, hcell, hrd⟩ := hc k hlt
      have hb := hrd.maxn
      have HC := Lib.hid hc
      clear hc hr
      by_cases h3 : (ls[k]?.getD []).length ≤ 300
      · have t : decide ((300 : Int) < ((ls[k]?.getD []).length : Int)) = false := by simp; omega
        have H3 := Lib.hid h3; clear h3
        go_wp2
        go_round
        case rel => exact ⟨k + 1, by omega, by go_num, Lib.hid fun j hj => by
          rcases Nat.lt_succ_iff_lt_or_eq.1 hj with h | h
          · exact HR.out j h
          · rw [h]; exact H3.out⟩
        case measure => simp [intOf]; omega
      · have t : decide ((300 : Int) < ((ls[k]?.getD []).length : Int)) = true := by simp; omega
        go_wp2
        go_ret
        exact .inr ⟨rfl, rfl⟩
    · go_wp2
      go_ret
      refine .inl ⟨rfl, fun x hx => ?_, rfl⟩
      obtain ⟨i, hi, rfl⟩ := List.mem_iff_getElem.1 hx
      have := HR.out i (by rw [hl.out] at hi; omega)
      simpa [List.getElem?_eq_getElem hi] using this

theorem infoInt : (Try.prog.info? 3).map (fun i => (i.zero, i.size, i.bytes)) = some (some (.int .i64 0), 1, 8) := by kernel_rfl
/-- The value of a count. -/
def natV (n : Nat) : Value := .int .i64 n

theorem app_int1 (w : World) {ops : Array Oper} {rest : List Oper} {o : Oper} {a : Act} {Q : Exit → Act → World → Prop} (hgd : o.guard = none) (s x : Operand)
    (ho : o.op = .call { callee := .builtin .append, args := #[s, x], argTypes := #[33, 33] }) (base : Nat)
    (sa : Option Addr) (sn sc : Nat) (xs : List Nat) (hs : a.eval s = .slice sa sn sc) (hown : w.ownsRow base 3 1 (.slice sa sn sc) sn (xs.map natV))
    (g m : Nat) (hx : a.eval x = .slice (some ⟨g, 0, none⟩) 1 1) (hc : w.cell? ⟨g, 0, none⟩ = some (natV m)) (hbytes : sn + 1 ≤ 16777216) (hbase : base ≤ w.heap.size)
    (h : ∀ a' c' w', w'.ownsRow base 3 1 (.slice a' (sn + 1) c') (sn + 1) ((xs ++ [m]).map natV) → w.grownBy w' (Value.ownBlock (.slice sa sn sc)) → wpList Try.prog ops Q rest (a.put o.dst (.slice a' (sn + 1) c')) w') :
    wpList Try.prog ops Q (o :: rest) a w := by
  obtain ⟨i, hi, hz0, hz1, hz2⟩ := info_parts infoInt
  have hrd : RdA w 1 (some ⟨g, 0, none⟩) 1 1 [natV m] := by
    refine ⟨rfl, Nat.le_refl _, by unfold maxLen; omega, .inr ⟨g, 0, rfl, fun i x hx => ?_⟩⟩
    match i, hx with
    | 0, hx => simp at hx; subst hx; exact hc
  exact wpList_append_rd w hgd s x 33 ho base 3 i (.int .i64 0) 1 8 Try.underlying33 hi hz0 hz1 hz2 rfl (by decide) sa sn sc _ hs hown _ 1 1 _ hx hrd (by intro u hu; simp at hu; subst hu; rfl) (by unfold maxLen; omega) (by omega) hbase
    (fun a' c' w' h1 h2 => h a' c' w' (by rw [List.map_append]; exact h1) h2)

/-- Two rows of bytes of the call's own, in two blocks. -/
structure Two (w : World) (base : Nat) (sa : Option Addr) (sn sc : Nat) (sb : List UInt8) (fa : Option Addr) (fn fc : Nat) (fb : List UInt8) : Prop where
  s : w.ownsRow base 5 1 (.slice sa sn sc) sn (sb.map byteV)
  f : w.ownsRow base 5 1 (.slice fa fn fc) fn (fb.map byteV)
  apart : ∀ k, Value.ownBlock (.slice sa sn sc) = some k → Value.ownBlock (.slice fa fn fc) ≠ some k

theorem Two.below {w w' : World} {base : Nat} {sa : Option Addr} {sn sc : Nat} {sb : List UInt8} {fa : Option Addr} {fn fc : Nat} {fb : List UInt8} (h : Two w base sa sn sc sb fa fn fc fb) (hb : Below w.heap.size w w') : Two w' base sa sn sc sb fa fn fc fb :=
  ⟨own_below h.s hb, own_below h.f hb, h.apart⟩
/-- The first row grows. -/
theorem Two.growS {w w' : World} {base : Nat} {sa : Option Addr} {sn sc : Nat} {sb : List UInt8} {fa : Option Addr} {fn fc : Nat} {fb : List UInt8} (h : Two w base sa sn sc sb fa fn fc fb)
    {a' : Option Addr} {n' c' : Nat} {sb' : List UInt8} (hloc : a' = sa ∨ a' = some ⟨w.heap.size, 0, none⟩) (ho : w'.ownsRow base 5 1 (.slice a' n' c') n' (sb'.map byteV)) (hg : w.grownBy w' (Value.ownBlock (.slice sa sn sc))) :
    Two w' base a' n' c' sb' fa fn fc fb := by
  refine ⟨ho, h.f.kept hg ?_, ?_⟩
  · cases hv : Value.ownBlock (.slice fa fn fc) with
    | none => exact .inl rfl
    | some k => exact .inr (fun e => h.apart k e.symm hv)
  · intro k hk hk'
    rcases ownBlock_loc (n := sn) (c := sc) hloc hk with h1 | h1
    · exact h.apart k h1 hk'
    · have := (h.f.lt k hk').2; omega
theorem Two.growF {w w' : World} {base : Nat} {sa : Option Addr} {sn sc : Nat} {sb : List UInt8} {fa : Option Addr} {fn fc : Nat} {fb : List UInt8} (h : Two w base sa sn sc sb fa fn fc fb)
    {a' : Option Addr} {n' c' : Nat} {fb' : List UInt8} (hloc : a' = fa ∨ a' = some ⟨w.heap.size, 0, none⟩) (ho : w'.ownsRow base 5 1 (.slice a' n' c') n' (fb'.map byteV)) (hg : w.grownBy w' (Value.ownBlock (.slice fa fn fc))) :
    Two w' base sa sn sc sb a' n' c' fb' := by
  refine ⟨h.s.kept hg ?_, ho, ?_⟩
  · cases hv : Value.ownBlock (.slice sa sn sc) with
    | none => exact .inl rfl
    | some k => exact .inr (fun e => h.apart k hv e.symm)
  · intro k hk hk'
    rcases ownBlock_loc (n := fn) (c := fc) hloc hk' with h1 | h1
    · exact h.apart k hk h1
    · have := (h.s.lt k hk).2; omega

/-- How long the stock's bytes are behind each list. -/
def endsOf (ls : List (List UInt8)) (k : Nat) : List Nat := (List.range (k + 1)).map fun j => (csOf (ls.take j)).length
theorem endsOf_succ (ls : List (List UInt8)) (k : Nat) : endsOf ls (k + 1) = endsOf ls k ++ [(csOf (ls.take (k + 1))).length] := by
  rw [endsOf, List.range_succ, List.map_append]; rfl
theorem endsOf_len (ls : List (List UInt8)) (k : Nat) : (endsOf ls k).length = k + 1 := by simp [endsOf]
theorem csOf_bd (ls : List (List UInt8)) (h : ∀ x ∈ ls, x.length ≤ 300) : (csOf ls).length ≤ 302 * ls.length := by
  induction ls with
  | nil => simp [csOf]
  | cons x ls ih =>
    have h1 := ih (fun y hy => h y (List.mem_cons_of_mem _ hy))
    have h2 := h x (List.mem_cons_self ..)
    rw [csOf_cons, List.length_append, stockOf_len, List.length_cons]; omega
theorem csOf_step (ls : List (List UInt8)) (k : Nat) (hk : k < ls.length) : csOf (ls.take (k + 1)) = csOf (ls.take k) ++ stockOf (ls[k]?.getD []) := by
  rw [List.take_add_one, List.getElem?_eq_getElem hk, csOf_append]; simp [csOf]
theorem cfOf_step (ls : List (List UInt8)) (k : Nat) (hk : k < ls.length) : cfOf (ls.take (k + 1)) = cfOf (ls.take k) ++ foilOf (ls[k]?.getD []) := by
  rw [List.take_add_one, List.getElem?_eq_getElem hk, cfOf_append]; simp [cfOf]

set_option maxHeartbeats 1000000 in
theorem lhalves_any (a : Option Addr) (n c : Nat) (ls : List (List UInt8)) (w : World) (hr : RdBB w a n c ls) (hn : n ≤ 30) (h300 : ∀ x ∈ ls, x.length ≤ 300) :
    Calls Try.prog 15 #[.slice a n c] w fun e w' => ∃ sa sc fa fc ea ec, e = .returned (.tuple #[.slice sa (csOf ls).length sc, .slice fa (cfOf ls).length fc, .slice ea (n + 1) ec, .bool true]) ∧
      Two w' w.heap.size sa (csOf ls).length sc (csOf ls) fa (cfOf ls).length fc (cfOf ls) ∧ w'.ownsRow w.heap.size 3 1 (.slice ea (n + 1) ec) (n + 1) ((endsOf ls n).map natV) ∧ Below w.heap.size w w' := by
  have hl := Lib.hid hr.len
  have H3 := Lib.hid h300; clear h300
  have hE0 := World.ownsRow_lit (base := w.heap.size) (e := 3) (size := 1) w #[.int .i64 0] 1 (Nat.le_refl _) (by unfold maxLen; omega) rfl
  have hB0 := (Below.refl w.heap.size w).alloc (Nat.le_refl _) (.cells #[.int .i64 0] 3)
  go_enter Try.func15, Try.ntmps15
  go_wp2_with fail
  go_loopw [6, 7, 8, 9, 10, 11, 12] (fun st fo en i _ _ _ wr => ∃ (k S F : Nat) (sb fb : List UInt8) (es : List Nat) (sa fa ea : Option Addr) (sc fc ec : Nat), k ≤ n ∧ i = .int .i64 k ∧ st = .slice sa S sc ∧ fo = .slice fa F fc ∧ en = .slice ea (k + 1) ec ∧
    S ≤ 302 * k ∧ F ≤ 4 * k ∧ Hid (S = sb.length) ∧ Hid (F = fb.length) ∧ Hid (sb = csOf (ls.take k)) ∧ Hid (fb = cfOf (ls.take k)) ∧ Hid (es = endsOf ls k) ∧
    Hid (Two wr w.heap.size sa S sc sb fa F fc fb) ∧ Hid (wr.ownsRow w.heap.size 3 1 (.slice ea (k + 1) ec) (k + 1) (es.map natV)) ∧ Below w.heap.size w wr) (fun _ _ _ i _ _ _ _ => n - (intOf i).toNat)
  case atStart => exact ⟨0, 0, 0, [], [], [0], none, none, _, 0, 0, _, Nat.zero_le _, rfl, rfl, rfl, rfl, Nat.le_refl _, Nat.le_refl _, Lib.hid rfl, Lib.hid rfl, Lib.hid rfl, Lib.hid rfl, Lib.hid rfl,
    Lib.hid ⟨World.ownsRow_nil _ _ _ _, World.ownsRow_nil _ _ _ _, fun k h => by simp [Value.ownBlock] at h⟩, Lib.hid hE0, hB0⟩
  case round =>
    obtain ⟨k, S, F, sb, fb, es, sa, fa, ea, sc, fc, ec, hk, rfl, rfl, rfl, rfl, hS, hF, E1, E2, E3, E4, E5, T, O, hb⟩ := hrel
    clear hE0 hB0
    by_cases hlt : k < n
    · obtain ⟨b, off, rfl, hc⟩ := (hr.below hb).at (by omega)
      obtain ⟨ai, ci, hcell, hrd⟩ := hc k hlt
      have hx3 : (ls[k]?.getD []).length ≤ 300 := by
        have h1 : k < ls.length := by rw [hl.out]; exact hlt
        rw [List.getElem?_eq_getElem h1]; exact H3.out _ (List.getElem_mem h1)
      have HR := Lib.hid hr; clear hr
      clear hc
      have HB := Lib.hid hb; clear hb
      go_wp2_with fail
      refine (notch_own _ _ _ _ _ hrd (by omega)).mono ?_
      rintro e w1 ⟨a1, c1, a2, c2, rfl, h1, h2, hb1⟩
      have hSlt : Hid (∀ q, Value.ownBlock (.slice sa S sc) = some q → q < wr.heap.size) := fun q hq => (T.out.s.lt q hq).2
      have T1 := T.out.below hb1
      have O1 := own_below O.out hb1
      have hbb := HB.out.trans (hb1.mono HB.out.size)
      have hsz := HB.out.size
      have hsz1 := hbb.size
      have HB1 := Lib.hid hbb; clear hbb hrd hcell T O
      have HW1 := Lib.hid hb1; clear hb1
      have hl1 := stockOf_len (ls[k]?.getD [])
      have hl2 := foilOf_len (ls[k]?.getD [])
      generalize hX : stockOf (ls[k]?.getD []) = X at *
      generalize hY : foilOf (ls[k]?.getD []) = Y at *
      have r1 := RdB.of_own h1
      have s1 := T1.s
      have HX := Lib.hid hX; clear hX
      have HY := Lib.hid hY; clear hY
      have HL1 := Lib.hid hl1; clear hl1
      have HL2 := Lib.hid hl2; clear hl2
      go_wp2_with (at_builtin; refine app_bytes_at _ rfl _ _ rfl w.heap.size _ _ _ sb rfl s1 _ _ _ X rfl r1 (by rw [HL1.out]; omega) hsz1 ?_; intro sa' sc' w2 hloc2 ho2 hg2; refine Hid.out ?_)
      refine Lib.hid ?_
      have T2 := T1.growS hloc2 ho2 hg2
      have O2 := own_other (by decide) O1 s1 hg2
      have h2' := RdB.of_own (h2.kept hg2 (by
        cases hv : Value.ownBlock (.slice a2 Y.length c2) with
        | none => exact .inl rfl
        | some q => exact .inr (fun e => by
            have := (h2.lt q hv).1
            have := hSlt.out q e.symm
            omega)))
      have HB2 := Lib.hid (HB1.out.grown hg2 hsz1 (fun q hq => (s1.lt q hq).1))
      have hsz2 := HB2.out.size
      have f2 := T2.f
      clear T1 O1 h1 h2 r1 s1 hloc2 ho2 hg2 HB1 HW1 hSlt
      have hS' : S + X.length ≤ 302 * (k + 1) := by rw [HL1.out]; omega
      generalize hS2 : S + X.length = S' at T2 hS' ⊢
      have HS' := Lib.hid hS2; clear hS2
      go_wp2_with (at_builtin; refine app_bytes_at _ rfl _ _ rfl w.heap.size _ _ _ fb rfl f2 _ _ _ Y rfl h2' (by rw [HL2.out]; omega) hsz2 ?_; intro fa' fc' w3 hloc3 ho3 hg3; refine Hid.out ?_)
      refine Lib.hid ?_
      have T3 := T2.growF hloc3 ho3 hg3
      have O3 := own_other (by decide) O2 f2 hg3
      have HB3 := Lib.hid (HB2.out.grown hg3 hsz2 (fun q hq => (f2.lt q hq).1))
      have hsz3 := HB3.out.size
      clear T2 O2 h2' f2 hloc3 ho3 hg3 HB2
      have hF' : F + Y.length ≤ 4 * (k + 1) := by rw [HL2.out]; omega
      generalize hF2 : F + Y.length = F' at T3 hF' ⊢
      have HF' := Lib.hid hF2; clear hF2
      have ba := (Below.refl w3.heap.size w3).alloc (Nat.le_refl _) (.cells #[.int .i64 S'] 3)
      have T4 := T3.below ba
      have O4 := own_below O3 ba
      have HB4 := Lib.hid (HB3.out.trans (ba.mono hsz3))
      have hsz4 := HB4.out.size
      have hc4 : (w3.alloc (.cells #[.int .i64 S'] 3)).cell? ⟨w3.heap.size, 0, none⟩ = some (natV S') := by
        have hh := heap_alloc_new w3 (.cells #[.int .i64 S'] 3)
        simp only [World.cell?, hh]
        rfl
      clear T3 O3 ba
      go_wp2_with (at_builtin; refine app_int1 _ rfl _ _ rfl w.heap.size _ _ _ es rfl O4 w3.heap.size S' rfl hc4 (by omega) hsz4 ?_; intro ea' ec' w5 ho5 hg5; refine Hid.out ?_)
      refine Lib.hid ?_
      have T5 : Two w5 w.heap.size sa' S' sc' (sb ++ X) fa' F' fc' (fb ++ Y) := ⟨own_other (by decide) T4.s O4 hg5, own_other (by decide) T4.f O4 hg5, T4.apart⟩
      have hb5 := HB4.out.grown hg5 hsz4 (fun q hq => (O4.lt q hq).1)
      have e1 : es ++ [S'] = endsOf ls (k + 1) := by rw [endsOf_succ, ← E5.out, csOf_step ls k (by rw [hl.out]; exact hlt), List.length_append, ← E3.out, HX.out, ← E1.out, HS'.out]
      have X1 : Hid (S' = (sb ++ X).length) := show S' = _ by rw [List.length_append, ← HS'.out, E1.out]
      have X2 : Hid (F' = (fb ++ Y).length) := show F' = _ by rw [List.length_append, ← HF'.out, E2.out]
      have X3 : Hid (sb ++ X = csOf (ls.take (k + 1))) := show _ = _ by rw [csOf_step ls k (by rw [hl.out]; exact hlt), ← E3.out, HX.out]
      have X4 : Hid (fb ++ Y = cfOf (ls.take (k + 1))) := show _ = _ by rw [cfOf_step ls k (by rw [hl.out]; exact hlt), ← E4.out, HY.out]
      have X5 := Lib.hid e1; clear e1 T4 O4 hg5 hc4
      go_wp2_with fail
      go_roundw
      case rel => exact ⟨k + 1, S', F', sb ++ X, fb ++ Y, es ++ [S'], sa', fa', ea', sc', fc', ec', by omega, by go_num, rfl, rfl, rfl, hS', hF', X1, X2, X3, X4, X5, Lib.hid T5, Lib.hid ho5, hb5⟩
      case measure => simp [intOf]; omega
    · have hr1 := hr
      clear hr
      have hkn : k = n := by omega
      subst hkn
      have et : ls.take k = ls := by rw [← hl.out, List.take_length]
      rw [et] at E3 E4
      have HE := Lib.hid et; clear et
      go_wp2_with fail
      (try simp only [Exit.inBlock, Exit.then])
      refine bodyPost_ret (results_tmp4 rfl _ _ _) rfl ?_
      have F1 := E1.out
      have F2 := E2.out
      have F3 := E3.out
      have F4 := E4.out
      have F5 := E5.out
      subst F3 F4 F5 F1 F2
      exact ⟨sa, sc, fa, fc, ea, ec, rfl, T.out, O.out, hb⟩
end Go.Proofs.Ytpjiakgfegnmcaa
