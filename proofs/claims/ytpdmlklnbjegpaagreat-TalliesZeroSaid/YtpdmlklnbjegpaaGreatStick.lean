/- Sticks: a journal's methods, and a stick's. -/
import Derived.Test.YtpdmlklnbjegpaaGreatPjoin
import Derived.Deep.RegionHeld3
import Derived.Deep.RegionWith
import Derived.StillTailTactics
namespace Go.Proofs.YtpdmlklnbjegpaaGreat
open Go.RowKit

/-- Where the slice lies behind an append: where it lay, or at the heap's end. -/
theorem run_append_loc {P : Program} (w : World) (base : Nat) (t ty e : TypeId) (i : TypeInfo) (z : Value) (size bytes : Nat) (ht : P.underlying t = some (.slice e)) (hi : P.info? e = some i) (hz : i.zero = some z)
    (hsize : i.size = size) (hby : i.bytes = bytes)
    (sa : Option Addr) (sn sc : Nat) (xs : List Value) (hown : w.ownsRow base e size (.slice sa sn sc) sn xs)
    (xa : Option Addr) (m xc : Nat) (ys : List Value) (hrd : RdA w size xa m xc ys) (h1 : ∀ u ∈ ys, u.oneCell' = true)
    (h63 : sn + m ≤ maxLen) (hbytes : (sn + m) * bytes ≤ 140737488355328) (v : Value) (w' : World) (hr : (Builtin.append_ #[t, t] ty #[.slice sa sn sc, .slice xa m xc]).run P w = .ok v w') :
    (∃ n' c', v = .slice sa n' c') ∨ ∃ n' c', v = .slice (some ⟨w.heap.size, 0, none⟩) n' c' := by
  subst hsize
  subst hby
  have hsmall : ((sn + m : Nat) : Int) ≤ 9223372036854775807 := by simp only [maxLen] at h63; omega
  have hkind : (xa = none ∧ m = 0 ∧ xc = 0) ∨ ∃ ad, xa = some ad ∧ ∀ j u, ys[j]? = some u → w.cell? (ad.add j) = some u := by
    rcases hrd.2.2.2 with rfl | ⟨b, off, rfl, h4⟩
    · have hm : m = 0 := by have := hrd.2.1; omega
      subst hm
      have hy : ys = [] := List.eq_nil_of_length_eq_zero (by simpa using hrd.1)
      cases xa with
      | none => exact .inl ⟨rfl, rfl, rfl⟩
      | some ad => exact .inr ⟨ad, rfl, fun j u hu => by rw [hy] at hu; simp at hu⟩
    · exact .inr ⟨_, rfl, fun j u hu => by rw [Addr.add_lit]; exact h4 j u hu⟩
  rcases hkind with ⟨rfl, rfl, rfl⟩ | ⟨ad, rfl, hnews⟩
  · rw [run_append_owned_none (P := P) (w := w) base t ty e i i.size ht hi _ sn xs hown] at hr
    cases hr
    exact .inl ⟨_, _, rfl⟩
  · rcases hown.2 with ⟨h2, rfl⟩ | ⟨g, cap, cur, h2, hbg, hg, hnc, hcm, hcs, htake⟩
    · simp only [Value.slice.injEq] at h2
      obtain ⟨rfl, _, rfl⟩ := h2
      by_cases hm : m = 0
      · subst hm
        have hy : ys = [] := List.eq_nil_of_length_eq_zero (by simpa using hrd.1)
        have hr' : (Builtin.append_ #[t, t] ty #[.slice none 0 0, .slice (some ad) 0 xc]).run P w = .ok (.slice none 0 0) w := by
          simp [Builtin.append_, run_underlying ht, sizeOf, typeInfo, hi, Builtin.lenOf, Builtin.firstCells, loadCells, loadCellsFrom]
        rw [hr'] at hr
        cases hr
        exact .inl ⟨_, _, rfl⟩
      · rw [run_append_nil (P := P) w t ty e i z ht hi hz ad m xc ys hrd.1 hnews (by omega) (by omega) (by have hb := hbytes; simp only [Nat.zero_add] at hb; omega)] at hr
        cases hr
        exact .inr ⟨_, _, rfl⟩
    · simp only [Value.slice.injEq] at h2
      obtain ⟨rfl, _, rfl⟩ := h2
      by_cases hroom : sn + m ≤ sc
      · have hfit : sn * i.size + ys.length ≤ cur.size := by rw [hrd.1, hcs, ← Nat.add_mul]; exact Nat.mul_le_mul_right _ hroom
        rw [run_append_room (P := P) w t ty e i ht hi g sn sc cur hg ad m xc ys hrd.1 hnews h1 hroom hfit] at hr
        cases hr
        exact .inl ⟨_, _, rfl⟩
      · have holds : ∀ j u, xs[j]? = some u → w.cell? ((⟨g, 0, none⟩ : Addr).add j) = some u := hown.cells (g := g) rfl
        rw [run_append_grow (P := P) w t ty e i z ht hi hz ⟨g, 0, none⟩ sn sc xs hown.1 holds ad m xc ys hrd.1 hnews (by omega) hsmall (growslice_fits (by omega) hbytes)] at hr
        cases hr
        exact .inr ⟨_, _, rfl⟩

/-- append of bytes to bytes of the call's own, and where they lie behind it. -/
theorem app_bytes_at (w : World) {ops : Array Oper} {rest : List Oper} {o : Oper} {a : Act} {Q : Exit → Act → World → Prop} (hgd : o.guard = none) (s x : Operand)
    (ho : o.op = .call { callee := .builtin .append, args := #[s, x], argTypes := #[41, 41] }) (base : Nat)
    (sa : Option Addr) (sn sc : Nat) (xs : List UInt8) (hs : a.eval s = .slice sa sn sc) (hown : w.ownsRow base 5 1 (.slice sa sn sc) sn (xs.map byteV))
    (xa : Option Addr) (m xc : Nat) (ys : List UInt8) (hx : a.eval x = .slice xa m xc) (hrd : RdB w xa m xc ys) (hbytes : sn + m ≤ 140737488355328) (hbase : base ≤ w.heap.size)
    (h : ∀ a' c' w', (a' = sa ∨ a' = some ⟨w.heap.size, 0, none⟩) → w'.ownsRow base 5 1 (.slice a' (sn + m) c') (sn + m) ((xs ++ ys).map byteV) → w.grownBy w' (Value.ownBlock (.slice sa sn sc)) → wpList Tryz.prog ops Q rest (a.put o.dst (.slice a' (sn + m) c')) w') :
    wpList Tryz.prog ops Q (o :: rest) a w := by
  obtain ⟨i, hi, hz0, hz1, hz2⟩ := info_parts infoByte
  refine wpList_plain hgd fun K hK => ?_
  obtain ⟨a', c', w', hr, h2, h3⟩ := run_append_rd (P := Tryz.prog) w base 41 o.type 5 i (.int .u8 0) 1 1 Tryz.underlying41 hi hz0 hz1 hz2 rfl (by decide) sa sn sc _ hown xa m xc _ hrd (byteV_one _) (by unfold maxLen; omega) (by omega) hbase
  have hloc := run_append_loc (P := Tryz.prog) w base 41 o.type 5 i (.int .u8 0) 1 1 Tryz.underlying41 hi hz0 hz1 hz2 sa sn sc _ hown xa m xc _ hrd (byteV_one _) (by unfold maxLen; omega) (by omega) _ _ hr
  have hloc' : a' = sa ∨ a' = some ⟨w.heap.size, 0, none⟩ := by
    rcases hloc with ⟨n', c'', h⟩ | ⟨n', c'', h⟩
    · simp only [Value.slice.injEq] at h; exact .inl h.1
    · simp only [Value.slice.injEq] at h; exact .inr h.1
  unfold Oper.wp
  simp [execOp, ho, resolve, invoke, builtin, hs, hx, hr, Result.andThen]
  exact hK _ _ (h a' c' w' hloc' (by rw [List.map_append]; exact h2) h3)

/-- The journal at p, o: its bytes' slice, and how many are durable. -/
structure JAt (w : World) (p o : Nat) (a : Option Addr) (n c : Nat) (d : Nat) : Prop where
  c0 : w.cell? ⟨p, o, none⟩ = some (.slice a n c)
  c1 : w.cell? ⟨p, o + 1, none⟩ = some (.int .i64 d)
  f0 : w.frozen? ⟨p, o, none⟩ = false
  f1 : w.frozen? ⟨p, o + 1, none⟩ = false

theorem jsync_any (w : World) (p o : Nat) (a : Option Addr) (n c d : Nat) (h : JAt w p o a n c d) :
    Calls Tryz.prog 80 #[.pointer (some ⟨p, o, none⟩)] w fun e w' => e = .returned (.tuple #[]) ∧ w.setCell ⟨p, o + 1, none⟩ (.int .i64 n) = w' := by
  obtain ⟨c0, c1, f0, f1⟩ := h
  go_enter Tryz.func80, Tryz.ntmps80
  go_wp2
  go_end0
  exact ⟨rfl, rfl⟩

theorem jpending_any (w : World) (p o : Nat) (a : Option Addr) (n c d : Nat) (h : JAt w p o a n c d) (hd : d ≤ n) (hn : n ≤ 9223372036854775807) :
    Calls Tryz.prog 61 #[.pointer (some ⟨p, o, none⟩)] w fun e w' => e = .returned (.int .i64 ((n : Int) - d)) ∧ ∃ q, w' = w.drewN q := by
  obtain ⟨c0, c1, f0, f1⟩ := h
  go_enter Tryz.func61, Tryz.ntmps61
  go_wp2
  go_quiet (fail)
  go_wp2
  go_ret
  exact ⟨rfl, _, rfl⟩

theorem jkeep_any (w : World) (p o : Nat) (a : Option Addr) (n c d : Nat) (l : List UInt8) (h : JAt w p o a n c d) (hr : RdB w a n c l) (m : Nat) (hm : d + m ≤ n) (hn : n ≤ 16777216) :
    Calls Tryz.prog 62 #[.pointer (some ⟨p, o, none⟩), .int .i64 m] w fun e w' => e = .returned (.tuple #[]) ∧ ∃ a' c' w1, w1.ownsRow w.heap.size 5 1 (.slice a' (d + m) c') (d + m) ((l.take (d + m)).map byteV) ∧ Below w.heap.size w w1 ∧ w' = w1.setCell ⟨p, o, none⟩ (.slice a' (d + m) c') := by
  obtain ⟨c0, c1, f0, f1⟩ := h
  obtain ⟨ka, hcut, hrk⟩ := cut_eq hr 0 (d + m) none (some (.int .i64 ((d : Int) + m))) (.inl ⟨rfl, rfl⟩) (.inr ⟨_, by go_num⟩) (Nat.zero_le _) hm
  rw [Nat.sub_zero, Nat.sub_zero, List.drop_zero] at hrk
  have hw : IntKind.i64.wrap ((d : Int) + m) = (d : Int) + m := by rw [IntKind.wrap_i64]; omega
  go_enter Tryz.func62, Tryz.ntmps62
  go_wp2
  have hlt : p < w.heap.size := World.block_lt_of_cell? w ⟨p, o, none⟩ c0
  go_region_with (go_at_call 95; refine (clone_any ka (d + m) c (l.take (d + m)) _ (by omega) (hrk.below (Below.refl _ _).drew)).mono ?_; rintro e w1 ⟨a', c', rfl, ho, hb⟩; have d0 := (hb.cell (p := ⟨p, o, none⟩) hlt).trans c0; have e0 := (hb.frozen (p := ⟨p, o, none⟩) hlt).trans f0)
  all_goals
    go_end0
    exact ⟨rfl, a', c', w1, ho, (Below.refl _ _).drew.trans hb, rfl⟩

/-- The stick at p: its journals' bytes, and how many are durable; F: the blocks that it may write. -/
def Stk (w : World) (p : Nat) (F : Nat → Prop) (sb fb : List UInt8) (sd fd : Nat) : Prop :=
  ∃ sa sc fa fc, w.heap[p]? = some (.cells #[.slice sa sb.length sc, .int .i64 sd, .slice fa fb.length fc, .int .i64 fd] 115 (0, 0)) ∧
    w.ownsRow 0 5 1 (.slice sa sb.length sc) sb.length (sb.map byteV) ∧ w.ownsRow 0 5 1 (.slice fa fb.length fc) fb.length (fb.map byteV) ∧
    (∀ k, Value.ownBlock (.slice sa sb.length sc) = some k → Value.ownBlock (.slice fa fb.length fc) ≠ some k) ∧
    (∀ k, F k ↔ (k = p ∨ Value.ownBlock (.slice sa sb.length sc) = some k ∨ Value.ownBlock (.slice fa fb.length fc) = some k)) ∧
    sd ≤ sb.length ∧ fd ≤ fb.length ∧ sb.length ≤ 16777216 ∧ fb.length ≤ 16777216

theorem Stk.lt {w : World} {p : Nat} {F : Nat → Prop} {sb fb : List UInt8} {sd fd : Nat} (h : Stk w p F sb fb sd fd) : ∀ k, F k → k < w.heap.size := by
  obtain ⟨sa, sc, fa, fc, h1, h2, h3, h4, h5, h6⟩ := h
  intro k hk
  rcases (h5 k).1 hk with rfl | h | h
  · exact (Array.getElem?_eq_some_iff.1 h1).1
  · exact (h2.lt k h).2
  · exact (h3.lt k h).2

theorem own_keep {S : Nat → Prop} {W W' : World} {base : Nat} {e : TypeId} {k : Nat} {v : Value} {n : Nat} {xs : List Value} (h : W.ownsRow base e k v n xs) (hs : Same S W W')
    (hd : ∀ b, v.ownBlock = some b → ¬ S b) : W'.ownsRow base e k v n xs := by
  refine ⟨h.1, ?_⟩
  rcases h.2 with h | ⟨g, cap, cur, rfl, hg, hgg, hr⟩
  · exact .inl h
  · exact .inr ⟨g, cap, cur, rfl, hg, (hs.block g (Array.getElem?_eq_some_iff.1 hgg).1 (hd g rfl)).trans hgg, hr⟩

theorem Stk.same {w w' : World} {p : Nat} {F S : Nat → Prop} {sb fb : List UInt8} {sd fd : Nat} (h : Stk w p F sb fb sd fd) (hs : Same S w w') (hd : ∀ k, S k → ¬ F k) : Stk w' p F sb fb sd fd := by
  obtain ⟨sa, sc, fa, fc, h1, h2, h3, h4, h5, h6⟩ := h
  refine ⟨sa, sc, fa, fc, ?_, own_keep h2 hs (fun b hb hS => hd b hS ((h5 b).2 (.inr (.inl hb)))), own_keep h3 hs (fun b hb hS => hd b hS ((h5 b).2 (.inr (.inr hb)))), h4, h5, h6⟩
  exact (hs.block p (Array.getElem?_eq_some_iff.1 h1).1 (fun hS => hd p hS ((h5 p).2 (.inl rfl)))).trans h1

theorem newStick_any (w : World) : Calls Tryz.prog 23 #[] w fun e w' => e = .returned (.pointer (some ⟨w.heap.size, 0, none⟩)) ∧ Stk w' w.heap.size (fun k => k = w.heap.size) [] [] 0 0 ∧ Below w.heap.size w w' := by
  go_enter Tryz.func23, Tryz.ntmps23
  go_wp2
  go_ret
  exact ⟨rfl, ⟨none, 0, none, 0, heap_alloc_new w _, World.ownsRow_nil _ _ _ _, World.ownsRow_nil _ _ _ _, fun k h => by simp [Value.ownBlock] at h, fun k => by simp [Value.ownBlock], Nat.le_refl _, Nat.le_refl _, Nat.zero_le _, Nat.zero_le _⟩, (Below.refl _ _).alloc (Nat.le_refl _) _⟩

theorem own_ne {w : World} {base : Nat} {e e' : TypeId} {k : Nat} {v : Value} {n : Nat} {xs : List Value} (h : w.ownsRow base e k v n xs) {p : Nat} {cur : Array Value} {fr : Nat × Nat} (hp : w.heap[p]? = some (.cells cur e' fr)) (hne : e ≠ e') : Value.ownBlock v ≠ some p := by
  intro hk
  rcases h.2 with ⟨rfl, _⟩ | ⟨g, cap, cu, rfl, _, hg, _⟩
  · simp [Value.ownBlock] at hk
  · simp only [Value.ownBlock, Option.some.injEq] at hk
    subst hk
    rw [hg] at hp
    simp only [Option.some.injEq, Obj.cells.injEq] at hp
    exact hne hp.2.1

/-- Where a slice of bytes lies behind an append at w, as a block. -/
theorem ownBlock_loc {sa a' : Option Addr} {w : World} {n c n' c' : Nat} (h : a' = sa ∨ a' = some ⟨w.heap.size, 0, none⟩) {k : Nat} (hk : Value.ownBlock (.slice a' n' c') = some k) : Value.ownBlock (.slice sa n c) = some k ∨ k = w.heap.size := by
  rcases h with rfl | rfl
  · left
    cases a' <;> simp_all [Value.ownBlock]
  · right
    simp [Value.ownBlock] at hk
    exact hk.symm

set_option maxHeartbeats 400000 in
theorem put_any (w : World) (p : Nat) (F : Nat → Prop) (sb fb : List UInt8) (sd fd : Nat) (a : Option Addr) (n c : Nat) (l : List UInt8) (h : Stk w p F sb fb sd fd) (hr : RdB w a n c l) (hn : n < 65536)
    (hs : sb.length + n + 2 ≤ 16777216) (hf : fb.length + 4 ≤ 16777216) :
    Calls Tryz.prog 60 #[.pointer (some ⟨p, 0, none⟩), .slice a n c] w fun e w' => e = .returned (.tuple #[]) ∧ ∃ F', Stk w' p F' (sb ++ stockOf l) (fb ++ foilOf l) sd fd ∧ Same F w w' ∧ (∀ k, F' k → F k ∨ w.heap.size ≤ k) := by
  have hFlt := h.lt
  go_enter Tryz.func60, Tryz.ntmps60
  go_wp2_with fail
  refine (halves_any _ _ _ l _ hr hn).mono ?_
  rintro e w1 ⟨a1, c1, a2, c2, rfl, hw1, hw2, hb1⟩
  have h1 := h.same (S := fun _ => False) (Same.of_below hb1) (fun _ e => e.elim)
  obtain ⟨sa, sc, fa, fc, g1, g2, g3, g4, g5, g6, g7, g8, g9⟩ := h1
  have e1 : w1.cell? ⟨p, 0, none⟩ = some (.slice sa sb.length sc) := by simp [World.cell?, g1]
  have hlen := (stockOf_len l)
  have hll := hr.len
  have HLS := Lib.hid hlen; clear hlen
  have HLL := Lib.hid hll; clear hll
  have HLF := Lib.hid (foilOf_len l)
  have G4 := Lib.hid g4; clear g4
  have G5 := Lib.hid g5; clear g5
  have hFlt' := Lib.hid hFlt; clear hFlt
  have hws := RdB.of_own hw1
  go_wp2_with (at_builtin; refine app_bytes_at _ rfl _ _ rfl 0 _ _ _ sb rfl g2 _ _ _ (stockOf l) rfl hws (by rw [HLS.out, HLL.out]; omega) (Nat.zero_le _) ?_; intro sa' sc' w2 hloc ho2 hg2; refine Hid.out ?_)
  refine Lib.hid ?_
  have n1 := own_ne g2 g1 (by decide)
  have n2 := own_ne g3 g1 (by decide)
  have hp1 : p < w1.heap.size := (Array.getElem?_eq_some_iff.1 g1).1
  have p2 : w2.heap[p]? = _ := (hg2.block p hp1 (fun e => n1 e.symm)).trans g1
  have g3' : w2.ownsRow 0 5 1 (.slice fa fb.length fc) fb.length (fb.map byteV) := g3.kept hg2 (by
    cases hv : Value.ownBlock (.slice fa fb.length fc) with
    | none => exact .inl rfl
    | some k => exact .inr (fun e => G4.out k e.symm hv))
  have hw2' := hw2.kept hg2 (by
    cases hv : Value.ownBlock (.slice a2 (foilOf l).length c2) with
    | none => exact .inl rfl
    | some k => exact .inr (fun e => by
        have := (hw2.lt k hv).1
        have := hFlt'.out k ((G5.out k).2 (.inr (.inl e.symm)))
        omega))
  have hz2 := hg2.size
  have n3 := own_ne ho2 p2 (by decide)
  have e2 : w2.cell? ⟨p, 0, none⟩ = some (.slice sa sb.length sc) := by simp [World.cell?, p2]
  have e3 : w2.frozen? ⟨p, 0, none⟩ = false := by simp [World.frozen?, p2]
  have p3 := heap_setCell_same w2 p 0 _ 115 (.slice sa' (sb.length + (stockOf l).length) sc') p2
  simp only [List.setIfInBounds_toArray, List.set_cons_zero] at p3
  have s3 : Same (fun k => k = p) w2 (w2.setCell ⟨p, 0, none⟩ (.slice sa' (sb.length + (stockOf l).length) sc')) := Same.setCell _ rfl
  have ho3 := own_keep ho2 s3 (fun b hb e => n3 (by rw [hb, e]))
  have n2' := own_ne g3' p2 (by decide)
  have g33 := own_keep g3' s3 (fun b hb e => n2' (by rw [hb, e]))
  have n4 := own_ne hw2' p2 (by decide)
  have hw3 := RdB.of_own (own_keep hw2' s3 (fun b hb e => n4 (by rw [hb, e])))
  have hz3 := s3.size
  have e4 : w2.cell? ⟨p, 2, none⟩ = some (.slice fa fb.length fc) := by simp [World.cell?, p2]
  have G6 := Lib.hid p2; clear p2
  have G7 := Lib.hid p3; clear p3
  clear e1 g1 g2 g3 g3' hw1 hw2 hw2' hws
  go_wp2_with (at_builtin; refine app_bytes_at _ rfl _ _ rfl 0 _ _ _ fb rfl g33 _ _ _ (foilOf l) rfl hw3 (by rw [HLF.out]; omega) (Nat.zero_le _) ?_; intro fa' fc' w4 hloc4 ho4 hg4; refine Hid.out ?_)
  refine Lib.hid ?_
  generalize hw3e : w2.setCell ⟨p, 0, none⟩ (.slice sa' (sb.length + (stockOf l).length) sc') = w3 at *
  have HW3 := Lib.hid hw3e; clear hw3e e2 e3 e4
  have p3 := G7.out
  have m2 := own_ne g33 p3 (by decide)
  have hp3 : p < w3.heap.size := (Array.getElem?_eq_some_iff.1 p3).1
  have p4 : w4.heap[p]? = _ := (hg4.block p hp3 (fun e => m2 e.symm)).trans p3
  have e2 : w4.cell? ⟨p, 2, none⟩ = some (.slice fa fb.length fc) := by simp [World.cell?, p4]
  have e3 : w4.frozen? ⟨p, 2, none⟩ = false := by simp [World.frozen?, p4]
  have P4 := Lib.hid p4; clear p4 p3
  go_wp2_with fail
  have p5 := heap_setCell_same w4 p 2 _ 115 (.slice fa' (fb.length + (foilOf l).length) fc') P4.out
  have s5 : Same (fun k => k = p) w4 (w4.setCell ⟨p, 2, none⟩ (.slice fa' (fb.length + (foilOf l).length) fc')) :=
    Same.of_grown (row := some p) ⟨rfl, rfl, rfl, by simp [World.setCell], fun k _ hk => Below.heap_setCell w4 ⟨p, 2, none⟩ _ k (fun e => hk (by rw [e]))⟩ (fun k e => by cases e; rfl)
  generalize w4.setCell ⟨p, 2, none⟩ (.slice fa' (fb.length + (foilOf l).length) fc') = w5 at *
  have hz1 := hb1.size
  have hz4 := hg4.size
  have hfa : ∀ k, Value.ownBlock (.slice fa fb.length fc) = some k → k < w.heap.size := fun k hk => hFlt'.out k ((G5.out k).2 (.inr (.inr hk)))
  have hsa : ∀ k, Value.ownBlock (.slice sa sb.length sc) = some k → k < w.heap.size := fun k hk => hFlt'.out k ((G5.out k).2 (.inr (.inl hk)))
  have ho34 := ho3.kept hg4 (by
    cases hv : Value.ownBlock (.slice sa' (sb.length + (stockOf l).length) sc') with
    | none => exact .inl rfl
    | some k =>
      refine .inr (fun e => ?_)
      rcases ownBlock_loc (n := sb.length) (c := sc) hloc hv with h1 | h1
      · exact G4.out k h1 e.symm
      · have := hfa k e.symm
        omega)
  have ho35 := own_keep ho34 s5 (fun b hb e => n3 (by rw [hb, e]))
  have n5 := own_ne ho4 P4.out (by decide)
  have ho45 := own_keep ho4 s5 (fun b hb e => n5 (by rw [hb, e]))
  have hAll : Same F w w5 :=
    ((((Same.of_below hb1).trans (Same.of_grown hg2 (fun k hk => (G5.out k).2 (.inr (.inl hk))))).trans ⟨s3.os, s3.tape, s3.output, s3.size, fun k hk hF => s3.block k hk (fun e => hF ((G5.out k).2 (.inl e)))⟩).trans (Same.of_grown hg4 (fun k hk => (G5.out k).2 (.inr (.inr hk))))).trans ⟨s5.os, s5.tape, s5.output, s5.size, fun k hk hF => s5.block k hk (fun e => hF ((G5.out k).2 (.inl e)))⟩
  have e1 : (sb ++ stockOf l).length = sb.length + (stockOf l).length := List.length_append
  have e2 : (fb ++ foilOf l).length = fb.length + (foilOf l).length := List.length_append
  go_end0
  refine ⟨rfl, fun k => k = p ∨ Value.ownBlock (.slice sa' (sb ++ stockOf l).length sc') = some k ∨ Value.ownBlock (.slice fa' (fb ++ foilOf l).length fc') = some k, ⟨sa', sc', fa', fc', ?_, ?_, ?_, ?_, fun k => Iff.rfl, ?_, ?_, ?_, ?_⟩, hAll, ?_⟩
  · rw [e1, e2, p5]; rfl
  · rw [e1]; exact ho35
  · rw [e2]; exact ho45
  · intro k hk hk'
    rw [e1] at hk
    rw [e2] at hk'
    rcases ownBlock_loc (n := sb.length) (c := sc) hloc hk with h1 | h1 <;> rcases ownBlock_loc (n := fb.length) (c := fc) hloc4 hk' with h2 | h2
    · exact G4.out k h1 h2
    · have := hsa k h1; omega
    · have := hfa k h2; omega
    · have := (ho2.lt k hk).2; omega
  · rw [e1]; omega
  · rw [e2]; omega
  · rw [e1, HLS.out, HLL.out]; omega
  · rw [e2, HLF.out]; omega
  · rintro k (rfl | hk | hk)
    · exact .inl ((G5.out _).2 (.inl rfl))
    · rcases ownBlock_loc (n := sb.length) (c := sc) hloc hk with h1 | h1
      · exact .inl ((G5.out k).2 (.inr (.inl h1)))
      · exact .inr (by omega)
    · rcases ownBlock_loc (n := fb.length) (c := fc) hloc4 hk with h1 | h1
      · exact .inl ((G5.out k).2 (.inr (.inr h1)))
      · exact .inr (by omega)
end Go.Proofs.YtpdmlklnbjegpaaGreat
