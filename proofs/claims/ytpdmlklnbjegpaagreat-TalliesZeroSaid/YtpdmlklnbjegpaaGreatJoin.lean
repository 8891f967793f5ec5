/- Join of the reference; comparing lists of byte slices. -/
import Derived.Test.YtpdmlklnbjegpaaGreatNotch
import Derived.WalkSmall
namespace Go.Proofs.YtpdmlklnbjegpaaGreat
open Go.RowKit

def atN (l : List UInt8) (i : Nat) : Nat := (l[i]?.getD 0).toNat + 256 * (l[i+1]?.getD 0).toNat
theorem atN_lt (l : List UInt8) (i : Nat) : atN l i < 65536 := by
  have h1 := (l[i]?.getD 0).toNat_lt
  have h2 := (l[i+1]?.getD 0).toNat_lt
  unfold atN; omega

theorem bytes_beq {l m : List UInt8} : (l != m) = true ↔ l ≠ m := by simp

/-- What two journals tell together. -/
def joinF : Nat → List UInt8 → List UInt8 → List (List UInt8)
  | 0, _, _ => []
  | k+1, st, fo =>
    if 2 ≤ st.length ∧ 4 ≤ fo.length ∧ atN st 0 ≤ 8192 ∧ atN st 0 + 2 ≤ st.length ∧ fo.take 4 = foilOf ((st.drop 2).take (atN st 0)) then
      ((st.drop 2).take (atN st 0)) :: joinF k (st.drop (atN st 0 + 2)) (fo.drop 4)
    else []
def joinOf (st fo : List UInt8) : List (List UInt8) := joinF (fo.length / 4) st fo
def sOf (ls : List (List UInt8)) : Nat := (ls.map fun b => b.length + 2).sum

/-- What is joined is told by a step: the first tally, and what follows it. -/
theorem joinF_more : ∀ (k m : Nat) (st fo : List UInt8), fo.length / 4 ≤ k → fo.length / 4 ≤ m → joinF k st fo = joinF m st fo
  | 0, 0, _, _, _, _ => rfl
  | 0, m+1, st, fo, h, _ => by
    simp only [joinF]
    rw [if_neg (by omega)]
  | k+1, 0, st, fo, _, h => by
    simp only [joinF]
    rw [if_neg (by omega)]
  | k+1, m+1, st, fo, h1, h2 => by
    simp only [joinF]
    split
    · rename_i h
      rw [joinF_more k m]
      · simp only [List.length_drop]; omega
      · simp only [List.length_drop]; omega
    · rfl
theorem joinOf_yes {st fo : List UInt8} (h1 : 2 ≤ st.length) (h2 : 4 ≤ fo.length) (h3 : atN st 0 ≤ 8192) (h4 : atN st 0 + 2 ≤ st.length) (h5 : fo.take 4 = foilOf ((st.drop 2).take (atN st 0))) :
    joinOf st fo = ((st.drop 2).take (atN st 0)) :: joinOf (st.drop (atN st 0 + 2)) (fo.drop 4) := by
  unfold joinOf
  obtain ⟨k, hk⟩ : ∃ k, fo.length / 4 = k + 1 := ⟨fo.length / 4 - 1, by omega⟩
  rw [hk, joinF, if_pos ⟨h1, h2, h3, h4, h5⟩]
  congr 1
  apply joinF_more
  · simp only [List.length_drop]; omega
  · simp
theorem joinOf_no {st fo : List UInt8} (h : ¬ (2 ≤ st.length ∧ 4 ≤ fo.length ∧ atN st 0 ≤ 8192 ∧ atN st 0 + 2 ≤ st.length ∧ fo.take 4 = foilOf ((st.drop 2).take (atN st 0)))) : joinOf st fo = [] := by
  unfold joinOf
  cases hk : fo.length / 4 with
  | zero => rfl
  | succ k => rw [joinF, if_neg h]

theorem atN_drop (l : List UInt8) (i j : Nat) : atN (l.drop i) j = atN l (i + j) := by
  simp [atN, List.getElem?_drop, Nat.add_assoc]
/-- The foil's first four bytes tell a length and a check. -/
theorem foil_iff {fo b : List UInt8} (h : 4 ≤ fo.length) (hb : b.length < 65536) : fo.take 4 = foilOf b ↔ atN fo 0 = b.length ∧ atN fo 2 = chk b := by
  obtain ⟨x, y, z, u, r, rfl⟩ : ∃ x y z u r, fo = x :: y :: z :: u :: r := by
    match fo, h with
    | x :: y :: z :: u :: r, _ => exact ⟨x, y, z, u, r, rfl⟩
  have hc := chk_lt b
  have tw : ∀ (x y : UInt8) (n : Nat), n < 65536 → ([x, y] = two n ↔ x.toNat + 256 * y.toNat = n) := by
    intro x y n hn
    have hx := x.toNat_lt
    have hy := y.toNat_lt
    simp only [two, List.cons.injEq, and_true, ← UInt8.toNat_inj, UInt8.toNat_ofNat']
    omega
  have e1 : (x :: y :: z :: u :: r).take 4 = [x, y] ++ [z, u] := rfl
  rw [e1, foilOf, show atN (x :: y :: z :: u :: r) 0 = x.toNat + 256 * y.toNat from rfl, show atN (x :: y :: z :: u :: r) 2 = z.toNat + 256 * u.toNat from rfl, ← tw x y _ hb, ← tw z u _ (by omega)]
  constructor
  · intro h
    exact List.append_inj h rfl
  · rintro ⟨h1, h2⟩
    rw [h1, h2]

/-- A slice of byte slices of the call's own, each of whose elements is a row of its own. -/
def OwnBB (w : World) (base : Nat) (a : Option Addr) (n c : Nat) (ls : List (List UInt8)) : Prop :=
  ∃ vs : List Value, w.ownsRow base 41 1 (.slice a n c) n vs ∧ ls.length = n ∧ ∀ i, i < n → ∃ ai ci, vs[i]? = some (.slice ai (ls[i]?.getD []).length ci) ∧ w.ownsRow 0 5 1 (.slice ai (ls[i]?.getD []).length ci) (ls[i]?.getD []).length ((ls[i]?.getD []).map byteV)

theorem OwnBB.rd {w : World} {base : Nat} {a : Option Addr} {n c : Nat} {ls : List (List UInt8)} (h : OwnBB w base a n c ls) : RdBB w a n c ls := by
  obtain ⟨vs, h1, h2, h3⟩ := h
  refine ⟨vs, RdA.of_own h1, h2, fun i hi => ?_⟩
  obtain ⟨ai, ci, h4, h5⟩ := h3 i hi
  exact ⟨ai, ci, h4, RdB.of_own h5⟩
theorem OwnBB.nil (w : World) (base : Nat) : OwnBB w base none 0 0 [] := ⟨[], World.ownsRow_nil _ _ _ _, rfl, fun i hi => by omega⟩
theorem OwnBB.below {w w' : World} {base : Nat} {a : Option Addr} {n c : Nat} {ls : List (List UInt8)} (h : OwnBB w base a n c ls) (hb : Below w.heap.size w w') : OwnBB w' base a n c ls := by
  obtain ⟨vs, h1, h2, h3⟩ := h
  refine ⟨vs, own_below h1 hb, h2, fun i hi => ?_⟩
  obtain ⟨ai, ci, h4, h5⟩ := h3 i hi
  exact ⟨ai, ci, h4, own_below h5 hb⟩
theorem OwnBB.lt {w : World} {base : Nat} {a : Option Addr} {n c : Nat} {ls : List (List UInt8)} (h : OwnBB w base a n c ls) : ∀ k, Value.ownBlock (.slice a n c) = some k → base ≤ k ∧ k < w.heap.size := by
  obtain ⟨vs, h1, _⟩ := h
  exact h1.lt

/-- A row of one element type stays where only a row of another element type is written. -/
theorem own_other {w w' : World} {base base' : Nat} {e e' : TypeId} (hne : e ≠ e') {k k' : Nat} {v v' : Value} {n n' : Nat} {xs xs' : List Value} (h : w.ownsRow base e k v n xs) (h' : w.ownsRow base' e' k' v' n' xs') (hg : w.grownBy w' v'.ownBlock) : w'.ownsRow base e k v n xs := by
  refine h.kept hg ?_
  rcases h.2 with ⟨rfl, _⟩ | ⟨g, cap, cur, rfl, _, hgg, _⟩
  · exact .inl rfl
  · right
    rcases h'.2 with ⟨rfl, _⟩ | ⟨g', cap', cur', rfl, _, hgg', _⟩
    · simp [Value.ownBlock]
    · simp only [Value.ownBlock, ne_eq, Option.some.injEq]
      intro e
      subst e
      rw [hgg] at hgg'
      simp only [Option.some.injEq, Obj.cells.injEq] at hgg'
      exact hne hgg'.2.1

theorem infoBytes : (Tryz.prog.info? 41).map (fun i => (i.zero, i.size, i.bytes)) = some (some (.slice none 0 0), 1, 24) := by kernel_rfl

theorem run_app_bb1 (w : World) (ty : TypeId) (base : Nat) (sa : Option Addr) (sn sc : Nat) (xs : List (List UInt8)) (hown : OwnBB w base sa sn sc xs)
    (g : Nat) (ya : Option Addr) (m yc : Nat) (l : List UInt8) (hc : w.cell? ⟨g, 0, none⟩ = some (.slice ya m yc))
    (hy : w.ownsRow 0 5 1 (.slice ya m yc) m (l.map byteV)) (hbytes : sn + 1 ≤ 16777216) (hbase : base ≤ w.heap.size) :
    ∃ a' c' w', (Builtin.append_ #[72, 72] ty #[.slice sa sn sc, .slice (some ⟨g, 0, none⟩) 1 1]).run Tryz.prog w = .ok (.slice a' (sn + 1) c') w' ∧ OwnBB w' base a' (sn + 1) c' (xs ++ [l]) ∧ w.grownBy w' (Value.ownBlock (.slice sa sn sc)) := by
  obtain ⟨i, hi, hz0, hz1, hz2⟩ := info_parts infoBytes
  obtain ⟨vs, h1, h2, h3⟩ := hown
  have hlen : l.length = m := by simpa using hy.1
  subst hlen
  have hrd : RdA w 1 (some ⟨g, 0, none⟩) 1 1 [.slice ya l.length yc] := by
    refine ⟨rfl, Nat.le_refl _, by unfold maxLen; omega, .inr ⟨g, 0, rfl, fun i x hx => ?_⟩⟩
    match i, hx with
    | 0, hx => simp at hx; subst hx; exact hc
  obtain ⟨a', c', w', hr, ho', hg'⟩ := run_append_rd (P := Tryz.prog) w base 72 ty 41 i (.slice none 0 0) 1 24 Tryz.underlying72 hi hz0 hz1 hz2 rfl (by decide) sa sn sc vs h1 _ 1 1 _ hrd (by intro u hu; simp at hu; subst hu; rfl) (by unfold maxLen; omega) (by omega) hbase
  refine ⟨a', c', w', hr, ⟨_, ho', by simp [h2], fun i hi => ?_⟩, hg'⟩
  have hvl : vs.length = sn := by simpa using h1.1
  by_cases hin : i < sn
  · obtain ⟨ai, ci, h4, h5⟩ := h3 i hin
    have e1 : (xs ++ [l])[i]? = xs[i]? := List.getElem?_append_left (by omega)
    have e2 : (vs ++ [.slice ya l.length yc])[i]? = vs[i]? := List.getElem?_append_left (by omega)
    rw [e1, e2]
    exact ⟨ai, ci, h4, own_other (by decide) h5 h1 hg'⟩
  · have hi' : i = sn := by omega
    have e1 : (xs ++ [l])[i]? = some l := by rw [List.getElem?_append_right (by omega)]; simp [hi', h2]
    have e2 : (vs ++ [.slice ya l.length yc])[i]? = some (.slice ya l.length yc) := by rw [List.getElem?_append_right (by omega)]; simp [hi', hvl]
    rw [e1, e2]
    exact ⟨ya, yc, rfl, own_other (by decide) hy h1 hg'⟩

theorem app_bb1 (w : World) {ops : Array Oper} {rest : List Oper} {o : Oper} {a : Act} {Q : Exit → Act → World → Prop} (hgd : o.guard = none) (s x : Operand)
    (ho : o.op = .call { callee := .builtin .append, args := #[s, x], argTypes := #[72, 72] }) (base : Nat)
    (sa : Option Addr) (sn sc : Nat) (xs : List (List UInt8)) (hs : a.eval s = .slice sa sn sc) (hown : OwnBB w base sa sn sc xs)
    (g : Nat) (ya : Option Addr) (m yc : Nat) (l : List UInt8) (hx : a.eval x = .slice (some ⟨g, 0, none⟩) 1 1) (hc : w.cell? ⟨g, 0, none⟩ = some (.slice ya m yc))
    (hy : w.ownsRow 0 5 1 (.slice ya m yc) m (l.map byteV)) (hbytes : sn + 1 ≤ 16777216) (hbase : base ≤ w.heap.size)
    (h : ∀ a' c' w', OwnBB w' base a' (sn + 1) c' (xs ++ [l]) → w.grownBy w' (Value.ownBlock (.slice sa sn sc)) → wpList Tryz.prog ops Q rest (a.put o.dst (.slice a' (sn + 1) c')) w') :
    wpList Tryz.prog ops Q (o :: rest) a w := by
  obtain ⟨a', c', w', hr, h2, h3⟩ := run_app_bb1 w o.type base sa sn sc xs hown g ya m yc l hc hy hbytes hbase
  refine wpList_plain hgd fun K hK => ?_
  unfold Oper.wp
  simp [execOp, ho, resolve, invoke, builtin, hs, hx, hr, Result.andThen]
  exact hK _ _ (h a' c' w' h2 h3)

/-- Reslicing of bytes, for the walk. -/
theorem slice_bytes (w : World) {ops : Array Oper} {rest : List Oper} {o : Oper} {a : Act} {Q : Exit → Act → World → Prop} (hgd : o.guard = none) (x : Operand) (lo hi : Option Operand)
    (ho : o.op = .slice 41 x lo hi none) (xa : Option Addr) (n c : Nat) (l : List UInt8) (hx : a.eval x = .slice xa n c) (hrd : RdB w xa n c l) (L H : Nat)
    (hl : (lo = none ∧ L = 0) ∨ ∃ q kd, lo = some q ∧ a.eval q = .int kd (L : Int)) (hh : (hi = none ∧ H = n) ∨ ∃ q kd, hi = some q ∧ a.eval q = .int kd (H : Int)) (h1 : L ≤ H) (h2 : H ≤ n)
    (h : ∀ a', RdB w a' (H - L) (c - L) ((l.drop L).take (H - L)) → wpList Tryz.prog ops Q rest (a.put o.dst (.slice a' (H - L) (c - L))) w) : wpList Tryz.prog ops Q (o :: rest) a w := by
  obtain ⟨i, hi', hz0, hz1, hz2⟩ := info_parts infoByte
  refine wpList_slice_rd w hgd x lo hi 41 ho 5 i 1 Tryz.underlying41 hi' hz1 xa n c _ hx hrd L H hl hh h1 h2 (fun a' hr => h a' ?_)
  unfold RdB
  rw [List.map_take, List.map_drop]
  simpa using hr
end Go.Proofs.YtpdmlklnbjegpaaGreat
