/- The program's reader: number. -/
import Derived.Test.YtpdmlklnbjegpaaGreatEnc3
import Derived.Test.YtpdmlklnbjegpaaGreatPjoin
import Derived.WalkLawsBesides
namespace Go.Proofs.YtpdmlklnbjegpaaGreat
open Go.RowKit

theorem frozen_of {W : World} {p : Nat} {A : Array Value} {t : TypeId} (h : W.heap[p]? = some (.cells A t (0, 0))) (j : Nat) : W.frozen? ⟨p, j, none⟩ = false := by
  simp [World.frozen?, h]
theorem same_at (w : World) (p o : Nat) (v : Value) : Same (fun k => k = p) w (w.setCell ⟨p, o, none⟩ v) :=
  Same.of_grown (row := some p) ⟨rfl, rfl, rfl, by simp [World.setCell], fun k _ hk => Below.heap_setCell w ⟨p, o, none⟩ _ k (fun e => hk (by rw [e]))⟩ (fun k e => by cases e; rfl)
/-- The reader at rp holds the bytes l, in the slice a n c. -/
structure RdP (W : World) (rp : Nat) (l : List UInt8) (a : Option Addr) (n c : Nat) : Prop where
  e : W.heap[rp]? = some (.cells #[.slice a n c] 190 (0, 0))
  r : RdB W a n c l
theorem rd_not {W : World} {rp : Nat} {A : Array Value} {t : TypeId} {sp : Nat × Nat} {a : Option Addr} {n c : Nat} {l : List UInt8} (e : W.heap[rp]? = some (.cells A t sp)) (hA : ∀ v ∈ A, ∀ x, v ≠ byteV x) (hr : RdB W a n c l) (h0 : 0 < n) :
    ∀ b off, a = some ⟨b, off, none⟩ → b ≠ rp := by
  intro b off ha hb
  subst hb
  obtain ⟨b', off', e', hc⟩ := RdA.at hr h0
  rw [ha] at e'
  cases e'
  have hl := hr.1
  have h1 : (l.map byteV)[0]? = some ((l.map byteV)[0]'(by rw [hl]; omega)) := List.getElem?_eq_getElem _
  have h2 := hc 0 _ h1
  simp only [World.cell?, e] at h2
  have h3 := Array.mem_of_getElem? h2
  rw [List.getElem_map] at h3
  exact hA _ h3 _ rfl
theorem rd_same {W W' : World} {a : Option Addr} {n c : Nat} {l : List UInt8} {S : Nat → Prop} (hr : RdB W a n c l) (hs : Same S W W') (hn : 0 < n → ∀ b off, a = some ⟨b, off, none⟩ → ¬ S b) : RdB W' a n c l := by
  by_cases h0 : 0 < n
  · exact RdA.of_cells hr fun b ⟨off, hb⟩ hlt => hs.block b hlt (hn h0 b off hb)
  · have hz : n = 0 := by omega
    subst hz
    obtain ⟨h1, h2, h3, h4⟩ := hr
    have hl : l.map byteV = [] := List.eq_nil_of_length_eq_zero (by omega)
    refine ⟨h1, h2, h3, ?_⟩
    rcases h4 with h | ⟨b, off, h, _⟩
    · exact .inl h
    · exact .inr ⟨b, off, h, fun i x hx => by rw [hl] at hx; simp at hx⟩
theorem RdP.not {W : World} {rp : Nat} {l : List UInt8} {a : Option Addr} {n c : Nat} (h : RdP W rp l a n c) (h0 : 0 < n) : ∀ b off, a = some ⟨b, off, none⟩ → b ≠ rp :=
  rd_not h.e (by intro v hv x; simp at hv; subst hv; intro hh; cases hh) h.r h0
theorem RdP.same {W W' : World} {rp : Nat} {l : List UInt8} {a : Option Addr} {n c : Nat} {S : Nat → Prop} (h : RdP W rp l a n c) (hs : Same S W W') (h1 : ¬ S rp) (h2 : 0 < n → ∀ b off, a = some ⟨b, off, none⟩ → ¬ S b) : RdP W' rp l a n c :=
  ⟨(hs.block _ (Array.getElem?_eq_some_iff.1 h.e).1 h1).trans h.e, rd_same h.r hs h2⟩
theorem wpList_slice_rd' {P : Program} (w : World) {ops : Array Oper} {rest : List Oper} {o : Oper} {a : Act} {Q : Exit → Act → World → Prop} (hgd : o.guard = none) (x : Operand) (lo hi : Option Operand) (t : TypeId)
    (ho : o.op = .slice t x lo hi none) (e : TypeId) (i : TypeInfo) (size : Nat) (ht : P.underlying t = some (.slice e)) (hi' : P.info? e = some i) (hsize : i.size = size)
    (xa : Option Addr) (n c : Nat) (xs : List Value) (hx : a.eval x = .slice xa n c) (hrd : RdA w size xa n c xs) (L H : Nat)
    (hl : (lo = none ∧ L = 0) ∨ ∃ q kd, lo = some q ∧ a.eval q = .int kd (L : Int)) (hh : (hi = none ∧ H = n) ∨ ∃ q kd, hi = some q ∧ a.eval q = .int kd (H : Int)) (h1 : L ≤ H) (h2 : H ≤ n)
    (a' : Option Addr) (hs : Go.sliced xa L H c size = .slice a' (H - L) (c - L))
    (h : wpList P ops Q rest (a.put o.dst (.slice a' (H - L) (c - L))) w) : wpList P ops Q (o :: rest) a w := by
  refine wpList_plain hgd fun K hK => ?_
  have hnc := hrd.2.1
  have hrun : (Instr.sliceAt t (a.eval x) (lo.map a.eval) (hi.map a.eval) none).run P w = .ok (.slice a' (H - L) (c - L)) w := by
    rw [hx, ← hs]
    have hel : P.elem t = e := by simp [Program.elem, ht]
    rw [run_sliceAt_slice (P := P) w t _ _ _ _ (by rw [hel]; exact ht), run_slice_any (P := P) w t xa n c (by rw [hel]; exact ht)]
    have hb : (Instr.sliceBounds true n c (lo.map a.eval) (hi.map a.eval) none).run P w = .ok (L, H, c) w := by
      rcases hl with ⟨rfl, rfl⟩ | ⟨q, kd, rfl, hq⟩ <;> rcases hh with ⟨rfl, rfl⟩ | ⟨q', kd', rfl, hq'⟩
      · simp [Instr.sliceBounds]
      · simp [Instr.sliceBounds, hq', run_sliceBound, Result.andThen, (by omega : H ≤ c)]
      · simp [Instr.sliceBounds, hq, run_sliceBound, Result.andThen, h1]
      · simp [Instr.sliceBounds, hq, hq', run_sliceBound, Result.andThen, (by omega : H ≤ c), h1]
    rw [hb, hel]
    simp [Result.andThen, sizeOf, typeInfo, hi', hsize]
  unfold Oper.wp
  simp only [execOp, ho]
  simp [hrun, Result.andThen]
  exact hK _ _ h
/-- Reslicing of bytes, for the walk: what is left reads so in every world. -/
theorem slice_bytes2 (w : World) {ops : Array Oper} {rest : List Oper} {o : Oper} {a : Act} {Q : Exit → Act → World → Prop} (hgd : o.guard = none) (x : Operand) (lo hi : Option Operand)
    (ho : o.op = .slice 41 x lo hi none) (xa : Option Addr) (n c : Nat) (l : List UInt8) (hx : a.eval x = .slice xa n c) (hrd : RdB w xa n c l) (L H : Nat)
    (hl : (lo = none ∧ L = 0) ∨ ∃ q kd, lo = some q ∧ a.eval q = .int kd (L : Int)) (hh : (hi = none ∧ H = n) ∨ ∃ q kd, hi = some q ∧ a.eval q = .int kd (H : Int)) (h1 : L ≤ H) (h2 : H ≤ n)
    (h : ∀ a', (∀ W, RdB W xa n c l → RdB W a' (H - L) (c - L) ((l.drop L).take (H - L))) → wpList Tryz.prog ops Q rest (a.put o.dst (.slice a' (H - L) (c - L))) w) : wpList Tryz.prog ops Q (o :: rest) a w := by
  obtain ⟨i, hi', hz0, hz1, hz2⟩ := info_parts infoByte
  obtain ⟨a1, hs1, hr1⟩ := RdA.sliced hrd L H h1 h2
  have key : ∀ W, RdB W xa n c l → RdB W a1 (H - L) (c - L) ((l.drop L).take (H - L)) := fun W hW => by
    obtain ⟨a2, hs2, hr2⟩ := RdA.sliced hW L H h1 h2
    rw [hs1] at hs2
    cases hs2
    unfold RdB
    rw [List.map_take, List.map_drop]
    simpa using hr2
  have hg := h a1 key
  refine wpList_slice_rd' w hgd x lo hi 41 ho 5 i 1 Tryz.underlying41 hi' hz1 xa n c _ hx hrd L H hl hh h1 h2 a1 hs1 hg
/-- What is thrown where bytes are missing. -/
def tornP : PanicEntry := { v := .iface 187 (.agg #[]), recovered := false }

theorem take_none (rp : Nat) (a : Option Addr) (n c : Nat) (w : World) (h : RdP w rp [] a n c) :
    Calls Tryz.prog 129 #[.pointer (some ⟨rp, 0, none⟩), .int .i64 1] w fun e w' => e = .panicked [tornP] ∧ w' = w := by
  have hn : n = 0 := by have := h.r.1; simpa using this.symm
  subst hn
  have c0 : w.cell? ⟨rp, 0, none⟩ = some (.slice a 0 c) := cell_of h.e 0 _ rfl
  go_enter Tryz.func129, Tryz.ntmps129
  go_wp2_with fail
  exact ⟨rfl, rfl, rfl⟩
theorem take_some (rp : Nat) (x : UInt8) (t : List UInt8) (a : Option Addr) (n c : Nat) (w : World) (h : RdP w rp (x :: t) a n c) :
    Calls Tryz.prog 129 #[.pointer (some ⟨rp, 0, none⟩), .int .i64 1] w fun e w' => ∃ a1 c1 a2 n2 c2, e = .returned (.slice a1 1 c1) ∧ RdB w' a1 1 c1 [x] ∧ RdP w' rp t a2 n2 c2 ∧ Same (fun k => k = rp) w w' ∧ (∀ W, RdB W a n c (x :: t) → RdB W a2 n2 c2 t) := by
  have hn : n = t.length + 1 := by have := h.r.1; simpa using this.symm
  subst hn
  obtain ⟨m, hm⟩ : ∃ m, Hid (m = t.length + 1) := ⟨_, Lib.hid rfl⟩
  rw [← hm.out] at h
  have h1m : 1 ≤ m := by have := hm.out; omega
  have c0 : w.cell? ⟨rp, 0, none⟩ = some (.slice a m c) := cell_of h.e 0 _ rfl
  have f0 := frozen_of h.e 0
  have hr := Lib.hid h.r
  have HH := Lib.hid h; clear h
  have hgt : decide ((m : Int) < 1) = false := by simp; omega
  go_enter Tryz.func129, Tryz.ntmps129
  go_wp2_with (first
    | (refine slice_bytes2 _ rfl _ _ none rfl _ _ _ _ rfl hr.out 1 m (.inr ⟨_, .i64, rfl, by go_num⟩) (.inl ⟨rfl, rfl⟩) h1m (Nat.le_refl _) ?_; intro sb hsb; have HSB := Lib.hid hsb; clear hsb)
    | (refine slice_bytes _ rfl _ none _ rfl _ _ _ _ rfl hr.out 0 1 (.inl ⟨rfl, rfl⟩) (.inr ⟨_, .i64, rfl, by go_num⟩) (by omega) h1m ?_; intro sa hsl; have HSL := Lib.hid hsl; clear hsl))
  go_ret
  have hS := same_at w rp 0 (.slice sb (m - 1) (c - 1))
  have he := heap_setCell_same w rp 0 _ _ (.slice sb (m - 1) (c - 1)) HH.out.e
  have hcell : ∀ v ∈ #[Value.slice a m c], ∀ x, v ≠ byteV x := by intro v hv x; simp at hv; subst hv; intro hh; cases hh
  have h1 : RdB (w.setCell ⟨rp, 0, none⟩ (.slice sb (m - 1) (c - 1))) sa 1 c [x] := rd_same (by simpa using HSL.out) hS (fun h0 => rd_not HH.out.e hcell (by simpa using HSL.out) h0)
  have h4 : ∀ W, RdB W a m c (x :: t) → RdB W sb (m - 1) (c - 1) t := fun W hW => by have := HSB.out W hW; rw [hm.out] at this ⊢; simpa using this
  have h2 := h4 w HH.out.r
  have h3 : RdP (w.setCell ⟨rp, 0, none⟩ (.slice sb (m - 1) (c - 1))) rp t sb (m - 1) (c - 1) := ⟨he, rd_same h2 hS (fun h0 => rd_not HH.out.e hcell h2 h0)⟩
  first
    | exact ⟨sa, c, sb, m - 1, c - 1, rfl, h1, h3, hS, by rw [← hm.out]; exact h4⟩
end Go.Proofs.YtpdmlklnbjegpaaGreat
namespace Go.Proofs.YtpdmlklnbjegpaaGreat
open Go.RowKit

theorem u64_and127 (x : Nat) (h : x < 18446744073709551616) : bits .and .u64 (x : Int) 127 = ((x % 128 : Nat) : Int) := by
  show IntKind.u64.wrap ((BitVec.ofInt 64 (x : Int) &&& BitVec.ofInt 64 127).toNat : Int) = _
  have h1 : (BitVec.ofInt 64 (x : Int)).toNat = x := by rw [BitVec.ofInt_natCast, BitVec.toNat_ofNat]; exact Nat.mod_eq_of_lt (by omega)
  rw [BitVec.toNat_and, h1, show (BitVec.ofInt 64 127).toNat = 2 ^ 7 - 1 from rfl, Nat.and_two_pow_sub_one_eq_mod, IntKind.wrap_u64]
  omega
theorem u64_and1 (x : Nat) (h : x < 18446744073709551616) : bits .and .u64 (x : Int) 1 = ((x % 2 : Nat) : Int) := by
  show IntKind.u64.wrap ((BitVec.ofInt 64 (x : Int) &&& BitVec.ofInt 64 1).toNat : Int) = _
  have h1 : (BitVec.ofInt 64 (x : Int)).toNat = x := by rw [BitVec.ofInt_natCast, BitVec.toNat_ofNat]; exact Nat.mod_eq_of_lt (by omega)
  rw [BitVec.toNat_and, h1, show (BitVec.ofInt 64 1).toNat = 2 ^ 1 - 1 from rfl, Nat.and_two_pow_sub_one_eq_mod, IntKind.wrap_u64]
  omega
theorem u64_or_add (i v y : Nat) (hi : i ≤ 8) (hv : v < 128 ^ i) (hy : y < 128) : bits .or .u64 (v : Int) ((y * 128 ^ i : Nat) : Int) = ((v + y * 128 ^ i : Nat) : Int) := by
  have hp : 128 ^ i ≤ 128 ^ 8 := Nat.pow_le_pow_right (by omega) hi
  have hp8 : 128 ^ 8 = 72057594037927936 := by decide
  have hm : y * 128 ^ i ≤ 127 * 128 ^ i := Nat.mul_le_mul_right _ (by omega)
  show IntKind.u64.wrap ((BitVec.ofInt 64 (v : Int) ||| BitVec.ofInt 64 ((y * 128 ^ i : Nat) : Int)).toNat : Int) = _
  have h1 : ∀ z : Nat, z < 18446744073709551616 → (BitVec.ofInt 64 (z : Int)).toNat = z := fun z hz => by rw [BitVec.ofInt_natCast, BitVec.toNat_ofNat]; exact Nat.mod_eq_of_lt (by omega)
  rw [BitVec.toNat_or, h1 v (by omega), h1 _ (by omega), Nat.or_comm]
  have e : 128 ^ i = 2 ^ (7 * i) := by rw [Nat.pow_mul]
  have h2 := Nat.two_pow_add_eq_or_of_lt (i := 7 * i) (b := v) (by rw [← e]; exact hv) y
  rw [← e] at h2
  rw [Nat.mul_comm y, ← h2, IntKind.wrap_u64, Nat.mul_comm] at *
  omega
theorem shl_of (y i : Nat) (hi : i ≤ 8) (hy : y < 128) : IntKind.u64.wrap ((y : Int) * 2 ^ (7 * i)) = ((y * 128 ^ i : Nat) : Int) := by
  have e : 128 ^ i = 2 ^ (7 * i) := by rw [Nat.pow_mul]
  have hp : 128 ^ i ≤ 128 ^ 8 := Nat.pow_le_pow_right (by omega) hi
  have hp8 : 128 ^ 8 = 72057594037927936 := by decide
  have hm : y * 128 ^ i ≤ 127 * 128 ^ i := Nat.mul_le_mul_right _ (by omega)
  have e2 : (y : Int) * 2 ^ (7 * i) = ((y * 128 ^ i : Nat) : Int) := by
    rw [e]
    push_cast
    rfl
  rw [e2, IntKind.wrap_u64]
  omega
theorem dec_bound (i v y : Nat) (hv : v < 128 ^ i) (hy : y < 128) : v + y * 128 ^ i < 128 ^ (i + 1) := by
  have hm : y * 128 ^ i ≤ 127 * 128 ^ i := Nat.mul_le_mul_right _ (by omega)
  rw [Nat.pow_succ]
  omega
theorem v63 (i v : Nat) (hi : i ≤ 8) (hv : v < 128 ^ (i + 1)) : v < 9223372036854775808 := by
  have h2 : 128 ^ (i + 1) ≤ 128 ^ 9 := Nat.pow_le_pow_right (by omega) (by omega)
  have h3 : 128 ^ 9 = 9223372036854775808 := by decide
  exact Nat.lt_of_lt_of_le hv (h3 ▸ h2)
theorem half_wrap {v : Nat} (h : v < 9223372036854775808) : wrap64 ((v : Int) / 2) = ((v / 2 : Nat) : Int) := by unfold wrap64; omega
theorem half_lt {v : Nat} (h : v < 9223372036854775808) : v / 2 < 4611686018427387904 := by omega
theorem numP_none {l : List UInt8} (h : decP 0 0 l = none) : numP l = none := by unfold numP; rw [h]
theorem numP_some {l t : List UInt8} {u : Nat} (h : decP 0 0 l = some (u, t)) : numP l = some (zag u, t) := by unfold numP; rw [h]
set_option maxHeartbeats 4000000 in
set_option maxRecDepth 20000 in
theorem number_any (rp : Nat) (l : List UInt8) (a : Option Addr) (n c : Nat) (w : World) (h : RdP w rp l a n c) :
    Calls Tryz.prog 124 #[.pointer (some ⟨rp, 0, none⟩)] w fun e w' => (∃ z t a2 n2 c2, numP l = some (z, t) ∧ e = .returned (.int .i64 z) ∧ RdP w' rp t a2 n2 c2 ∧ Same (fun k => k = rp) w w' ∧ (∀ W, RdB W a n c l → RdB W a2 n2 c2 t)) ∨
      (numP l = none ∧ e = .panicked [tornP] ∧ Same (fun k => k = rp) w w') := by
  have HH := Lib.hid h; clear h
  have hsg : IntKind.u64.signed = false := rfl
  go_enter Tryz.func124, Tryz.ntmps124
  go_wp2_with fail
  go_loopw [3, 4, 5] (fun u s _ wr => ∃ (i v : Nat) (k : List UInt8) (a' : Option Addr) (n' c' : Nat), u = .int .u64 v ∧ s = .int .i64 (7 * i : Nat) ∧ i ≤ 9 ∧ v < 128 ^ i ∧ Hid (decP i v k = decP 0 0 l) ∧ Hid (RdP wr rp k a' n' c') ∧ Hid (Same (fun k => k = rp) w wr ∧ ∀ W, RdB W a n c l → RdB W a' n' c' k)) (fun _ s _ _ => 100 - (intOf s).toNat)
  case atStart => exact ⟨0, 0, l, a, n, c, rfl, rfl, by omega, by simp, Lib.hid rfl, HH, Lib.hid ⟨⟨rfl, rfl, rfl, Nat.le_refl _, fun _ _ _ => rfl⟩, fun _ h => h⟩⟩
  case round =>
    obtain ⟨i, v, k, a', n', c', rfl, rfl, hi, hv, HD, HR, HS⟩ := hrel
    have HV := Lib.hid hv; clear hv
    cases k with
    | nil =>
      go_wp2_with fail
      refine (take_none rp a' n' c' wr HR.out).mono ?_
      rintro e w1 ⟨rfl, rfl⟩
      go_wp2_with fail
      exact ⟨rfl, .inr ⟨numP_none (by rw [← HD.out]; rfl), rfl, HS.out.1⟩⟩
    | cons x t =>
      go_wp2_with fail
      refine (take_some rp x t a' n' c' wr HR.out).mono ?_
      rintro e w1 ⟨a1, c1, a2, n2, c2, rfl, h1, h2, h3, h4⟩
      obtain ⟨b, off, rfl, hc⟩ := RdA.at h1 (by omega)
      have e1 : w1.cell? ⟨b, off, none⟩ = some (.int .u8 (x.toNat : Int)) := by have := hc 0 (byteV x) rfl; simpa [byteV] using this
      have hx := x.toNat_lt
      have H2 := Lib.hid h2
      have H3 := Lib.hid (show Same (fun k => k = rp) w w1 ∧ ∀ W, RdB W a n c l → RdB W a2 n2 c2 t from ⟨HS.out.1.trans h3, fun W hW => h4 W (HS.out.2 W hW)⟩)
      clear hc h1 h2 h3 h4
      by_cases h9 : 9 ≤ i
      · have h56 : decide ((56 : Int) < 7 * (i : Int)) = true := by simp; omega
        go_wp2_with fail
        exact ⟨rfl, .inr ⟨numP_none (by rw [← HD.out, decP, if_pos h9]), rfl, H3.out.1⟩⟩
      · have h56 : decide ((56 : Int) < 7 * (i : Int)) = false := by simp; omega
        have hand := u64_and127 x.toNat (by omega)
        have hor := u64_or_add i v (x.toNat % 128) (by omega) HV.out (by omega)
        have hshl := shl_of (x.toNat % 128) i (by omega) (by omega)
        have hw := dec_bound i v (x.toNat % 128) HV.out (by omega)
        have HDD := Lib.hid (show decP i v (x :: t) = if x.toNat < 128 then some (v + x.toNat % 128 * 128 ^ i, t) else decP (i + 1) (v + x.toNat % 128 * 128 ^ i) t by rw [decP, if_neg h9])
        have HW := Lib.hid hw; clear hw
        obtain ⟨p, hp⟩ : ∃ p, Hid (p = x.toNat % 128 * 128 ^ i) := ⟨_, Lib.hid rfl⟩
        rw [← hp.out] at hor hshl HDD HW
        obtain ⟨y, hy⟩ : ∃ y, Hid (y = x.toNat % 128) := ⟨_, Lib.hid rfl⟩
        rw [← hy.out] at hand hshl
        obtain ⟨v2, hv2⟩ : ∃ v2, Hid (v2 = v + p) := ⟨_, Lib.hid rfl⟩
        rw [← hv2.out] at hor HDD HW
        have hv63 := v63 i v2 (by omega) HW.out
        have hand1 := u64_and1 v2 (Nat.lt_trans hv63 (by decide))
        have hw2 := half_wrap hv63
        have hlt := half_lt hv63
        obtain ⟨q, hq⟩ : ∃ q, Hid (q = v2 / 2) := ⟨_, Lib.hid rfl⟩
        rw [← hq.out] at hw2 hlt
        have HV63 := Lib.hid hv63; clear hv63
        by_cases h128 : (x.toNat : Int) < 128
        · have HDE := Lib.hid (HD.out.symm.trans (HDD.out.trans (if_pos (by omega))))
          rcases Nat.mod_two_eq_zero_or_one v2 with hm | hm
          · have hb1 : (((v2 % 2 : Nat) : Int) == 1) = false := by rw [hm]; rfl
            have HM := Lib.hid hm; clear hm
            obtain ⟨r, hr⟩ : ∃ r, Hid (r = v2 % 2) := ⟨_, Lib.hid rfl⟩
            rw [← hr.out] at hb1 hand1
            go_wp2_with fail
            go_ret
            refine .inl ⟨_, _, _, _, _, numP_some HDE.out, ?_, H2.out, H3.out⟩
            rw [zag, if_pos HM.out, ← hq.out]
            show Ending.returned (Value.int .i64 (wrap64 ((v2 : Int) / 2))) = _
            rw [hw2]
          · have hb1 : (((v2 % 2 : Nat) : Int) == 1) = true := by rw [hm]; rfl
            have HM := Lib.hid hm; clear hm
            obtain ⟨r, hr⟩ : ∃ r, Hid (r = v2 % 2) := ⟨_, Lib.hid rfl⟩
            rw [← hr.out] at hb1 hand1
            go_wp2_with fail
            go_ret
            refine .inl ⟨_, _, _, _, _, numP_some HDE.out, ?_, H2.out, H3.out⟩
            rw [zag, if_neg (by rw [HM.out]; decide), ← hq.out]
            rfl
        · have HDE := Lib.hid (HD.out.symm.trans (HDD.out.trans (if_neg (by omega))))
          go_wp2_with fail
          go_roundw
          case rel => exact ⟨i + 1, v2, t, a2, n2, c2, rfl, by go_num, by omega, HW.out, Lib.hid HDE.out.symm, H2, H3⟩
          case measure => simp [intOf]; omega
end Go.Proofs.YtpdmlklnbjegpaaGreat
