/- Parts of the proof, in this order: The plain law of sets: a part of a set is a set; The reference's SameNote; The plain law of the union of two sets, and of where they fork; The plain law of the reference's fold: judges, what counts, and the insertion of an event; The plain law of Chain: the corrections and withdrawals of a note, as they became known; A house's notes as values: what it hears, and the plain law of gifts; AppendSeq and Collect of the program's events; The names of a set: the iterator over its map, gathered and sorted; The tallies package's nameOf, copied, compareNames, and the names of its map of notes; Which registers are right, in the program: right itself; Which cells strokes cover, in the program: covers. The plain law of it; SameInts, SameNames of the reference; What the samples' register is; What Merge gives back, of both sides; a list of notes that are copies; The program's maps.Copy of sets, and two sets of two lists; The program's fork and Fork; The reference's SameEvents and SameRegister say true of equal values; What Fold and AsOf give back, as one predicate; registers of one value are the same; The tallies package's list: a map's notes by name, in memory of their own; A house in memory, and its methods that turn nothing. -/
import Derived.Deep.Cut
import Derived.Sort.MapsRangeIn
import Derived.Lib.AppendZerosOnto
import Derived.Laws.MakeOwn
import Derived.Test.YtlnhppgfhkkidaaGreatKPpw10
set_option linter.unusedSimpArgs false
set_option linter.unusedVariables false
open List renaming getElem_toArray → lq0, getElem_cons_succ → lq1, getElem_cons_zero → lq2, setIfInBounds_toArray → lq3, set_cons_zero → lq4, set_cons_succ → lq5
namespace Go.Proofs.YtlnhppgfhkkidaaGreat
set_option linter.unusedSimpArgs false

theorem setGo_all {f : FrV} {l : List NoteV} : ∀ (n k : Nat), (∀ i, k ≤ i → i < k + n → setAt f l i = none) → setGo f l n k = (0, 0)
  | 0, _, _ => rfl
  | n + 1, k, h => by
    rw [setGo, h k (Nat.le_refl _) (by omega)]
    exact setGo_all n (k + 1) (fun i h1 h2 => h i (by omega) (by omega))
theorem set_mk {f : FrV} {l : List NoteV} (hv : f.valid = true) (h4 : l.length ≤ 400) (hf : ∀ x ∈ l, formedB f x = true) (hp : l.Pairwise (fun x y => nmLt (nmOf x) (nmOf y) = true)) : (checkSetP f l).1 = 0 := by
  unfold checkSetP
  rw [if_neg (by rw [hv]; decide), if_neg (by omega), setGo_all]
  intro i _ hi
  rw [Nat.zero_add] at hi
  unfold setAt
  rw [List.getElem?_eq_getElem hi]
  simp only
  rw [if_neg (by rw [hf _ (List.getElem_mem hi)]; decide)]
  by_cases h0 : i = 0
  · rw [if_pos h0]
  · rw [if_neg h0, List.getElem?_eq_getElem (by omega : i - 1 < l.length)]
    simp only
    have h1 := List.pairwise_iff_getElem.1 hp (i - 1) i (by omega) hi (by omega)
    rw [nmLt, decide_eq_true_eq] at h1
    have h2 : namesC l[i - 1].house l[i - 1].num l[i].house l[i].num < 0 := h1
    rw [if_neg (by omega), if_neg (by omega)]
end Go.Proofs.YtlnhppgfhkkidaaGreat
namespace Go.Proofs.YtlnhppgfhkkidaaGreat
open Go.RowKit

theorem same_all {x y : NoteV} : sameB x y = true ↔ (x.house = y.house ∧ x.num = y.num) ∧ (x.clock = y.clock ∧ x.day = y.day ∧ x.kind = y.kind ∧ x.stone = y.stone ∧ x.heap = y.heap ∧ x.turns = y.turns) ∧
    (x.hardLo = y.hardLo ∧ x.hardHi = y.hardHi) ∧ (x.diffLo = y.diffLo ∧ x.diffHi = y.diffHi) ∧ (x.a = y.a ∧ x.b = y.b ∧ x.ring = y.ring) ∧ (x.refH = y.refH ∧ x.refN = y.refN) ∧ x.fix = y.fix ∧ x.strokes = y.strokes := by
  simp only [sameB, nums14]
  grind
section
attribute [local go_sem] noteA_0 noteA_1 noteA_2 noteA_3 noteA_4 noteA_5 noteA_6 noteA_7 noteA_8 noteA_9 noteA_10 noteA_11 noteA_12 noteA_13 noteA_14 noteA_15 noteA_16 noteA_17 noteA_18
end
end Go.Proofs.YtlnhppgfhkkidaaGreat
namespace Go.Proofs.YtlnhppgfhkkidaaGreat
set_option linter.unusedSimpArgs false
set_option linter.unusedVariables false

theorem sameB_iff {x y : NoteV} : sameB x y = true ↔ x = y := by
  constructor
  · intro h
    obtain ⟨⟨h1, h2⟩, ⟨h3, h4, h5, h6, h7, h8⟩, ⟨h9, h10⟩, ⟨h11, h12⟩, ⟨h13, h14, h15⟩, ⟨h16, h17⟩, h18, h19⟩ := same_all.1 h
    cases x; cases y
    simp only [NoteV.mk.injEq]
    exact ⟨h1, h2, h3, h4, h5, h6, h7, h8, h9, h10, h11, h12, h13, h14, h15, h16, h17, h18, h19⟩
  · rintro rfl; simp [sameB]
abbrev ltN (x y : NoteV) : Prop := nmLt (nmOf x) (nmOf y) = true
theorem ltN_trans {x y z : NoteV} (h1 : ltN x y) (h2 : ltN y z) : ltN x z := by
  unfold ltN at *
  rw [nmLt_iff] at *
  omega
theorem ltN_asymm {x y : NoteV} (h : ltN x y) : nmLt (nmOf y) (nmOf x) = false := by
  cases h2 : nmLt (nmOf y) (nmOf x) with
  | false => rfl
  | true =>
    unfold ltN at h
    rw [nmLt_iff] at h h2
    omega
theorem ltN_irrefl {x y : NoteV} (h : ltN x y) (e : nmOf x = nmOf y) : False := by
  unfold ltN at h
  rw [e, nmLt_iff] at h
  omega
theorem nodupN {u : List NoteV} (h : u.Pairwise ltN) : u.Nodup := by
  rw [List.Nodup]
  exact h.imp (fun {x y} hxy (e : x = y) => ltN_irrefl hxy (congrArg nmOf e))
def badB (m : List NoteV) (x : NoteV) : Bool := m.any (fun y => decide (nmOf y = nmOf x) && !sameB x y)
def forkAt (l m : List NoteV) : Option Nm := (l.find? (badB m)).map nmOf
def NoFork (l m : List NoteV) : Prop := ∀ x ∈ l, ∀ y ∈ m, nmOf x = nmOf y → x = y
theorem NoFork.comm {l m : List NoteV} (h : NoFork l m) : NoFork m l := fun x hx y hy e => (h y hy x hx e.symm).symm
def IsU (l m u : List NoteV) : Prop := u.Pairwise ltN ∧ ∀ x, x ∈ u ↔ x ∈ l ∨ x ∈ m
theorem IsU.comm {l m u : List NoteV} (h : IsU l m u) : IsU m l u := ⟨h.1, fun x => (h.2 x).trans Or.comm⟩
theorem sortedN_eq {u v : List NoteV} (h1 : u.Pairwise ltN) (h2 : v.Pairwise ltN) (h : ∀ x, x ∈ u ↔ x ∈ v) : u = v := by
  have hp : u.Perm v := (List.perm_ext_iff_of_nodup (nodupN h1) (nodupN h2)).2 h
  refine sorted_unique (lt := fun x y => nmLt (nmOf x) (nmOf y)) (fun x hx y hy h3 h4 => ?_) hp (h1.imp ltN_asymm) (h2.imp ltN_asymm)
  exact nodup_inj (set_nodup h1) hx hy (nm_total h3 h4)
theorem IsU.uniq {l m u v : List NoteV} (h : IsU l m u) (h' : IsU l m v) : u = v := sortedN_eq h.1 h'.1 fun x => (h.2 x).trans (h'.2 x).symm
theorem IsU.self {l : List NoteV} (h : l.Pairwise ltN) : IsU l l l := ⟨h, fun x => by simp⟩
theorem IsU.len {l m u : List NoteV} (h : IsU l m u) : u.length ≤ l.length + m.length := by
  have := nodup_le (u.map nmOf) ((l ++ m).map nmOf) (set_nodup h.1) (fun a ha => by
    obtain ⟨x, hx, rfl⟩ := List.mem_map.1 ha
    exact List.mem_map_of_mem (List.mem_append.2 ((h.2 x).1 hx)))
  rwa [List.length_map, List.length_map, List.length_append] at this
structure MgSt (l m out : List NoteV) (i k : Nat) : Prop where
  u : IsU (l.take i) (m.take k) out
  l_gt : ∀ x ∈ out, ∀ y ∈ l.drop i, ltN x y
  m_gt : ∀ x ∈ out, ∀ y ∈ m.drop k, ltN x y
theorem MgSt.start (l m : List NoteV) : MgSt l m [] 0 0 := ⟨⟨List.Pairwise.nil, fun x => by simp⟩, (fun x hx => by cases hx), (fun x hx => by cases hx)⟩
theorem drop_at {l : List NoteV} {i : Nat} {x : NoteV} (hx : l[i]? = some x) : l.drop i = x :: l.drop (i + 1) := by
  obtain ⟨h1, h2⟩ := List.getElem?_eq_some_iff.1 hx
  rw [List.drop_eq_getElem_cons h1, h2]
theorem drop_gt {l : List NoteV} (hs : l.Pairwise ltN) {i : Nat} {x : NoteV} (hx : l[i]? = some x) : ∀ y ∈ l.drop (i + 1), ltN x y := by
  have h := hs.sublist (List.drop_sublist i l)
  rw [drop_at hx, List.pairwise_cons] at h
  exact h.1
theorem drop_ge {l : List NoteV} (hs : l.Pairwise ltN) {i : Nat} {x z : NoteV} (hx : l[i]? = some x) (hz : ltN z x) : ∀ y ∈ l.drop i, ltN z y := by
  rw [drop_at hx]
  intro y hy
  rcases List.mem_cons.1 hy with rfl | hy
  · exact hz
  · exact ltN_trans hz (drop_gt hs hx y hy)
section
variable {l m out : List NoteV} {i k : Nat} {x y : NoteV}
theorem pair_snoc (h : out.Pairwise ltN) (hx : ∀ z ∈ out, ltN z x) : (out ++ [x]).Pairwise ltN := by
  rw [List.pairwise_append]
  exact ⟨h, List.pairwise_singleton _ _, fun z hz y hy => by rw [List.mem_singleton.1 hy]; exact hx z hz⟩
theorem MgSt.left (h : MgSt l m out i k) (hl : l.Pairwise ltN) (hm : m.Pairwise ltN) (hx : l[i]? = some x) (hk : m.length ≤ k ∨ ∃ y, m[k]? = some y ∧ ltN x y) : MgSt l m (out ++ [x]) (i + 1) k := by
  refine ⟨⟨pair_snoc h.u.1 (fun z hz => h.l_gt z hz x (by rw [drop_at hx]; exact List.mem_cons_self ..)), fun z => ?_⟩, fun z hz y hy => ?_, fun z hz y hy => ?_⟩
  · rw [List.mem_append, h.u.2 z, take_snoc hx, List.mem_append, List.mem_singleton]
    constructor
    · rintro ((h1 | h1) | h1)
      · exact .inl (.inl h1)
      · exact .inr h1
      · exact .inl (.inr h1)
    · rintro ((h1 | h1) | h1)
      · exact .inl (.inl h1)
      · exact .inr h1
      · exact .inl (.inr h1)
  · rcases List.mem_append.1 hz with hz | hz
    · exact h.l_gt z hz y (by rw [drop_at hx]; exact List.mem_cons_of_mem _ hy)
    · rw [List.mem_singleton.1 hz]; exact drop_gt hl hx y hy
  · rcases List.mem_append.1 hz with hz | hz
    · exact h.m_gt z hz y hy
    · rw [List.mem_singleton.1 hz]
      rcases hk with hk | ⟨y', hy', hlt⟩
      · rw [List.drop_eq_nil_of_le hk] at hy; cases hy
      · exact drop_ge hm hy' hlt y hy
theorem MgSt.flip (h : MgSt l m out i k) : MgSt m l out k i := ⟨h.u.comm, h.m_gt, h.l_gt⟩
theorem MgSt.right (h : MgSt l m out i k) (hl : l.Pairwise ltN) (hm : m.Pairwise ltN) (hx : m[k]? = some x) (hk : l.length ≤ i ∨ ∃ y, l[i]? = some y ∧ ltN x y) : MgSt l m (out ++ [x]) i (k + 1) :=
  (h.flip.left hm hl hx hk).flip
theorem MgSt.all (h : MgSt l m out i k) (h1 : l.length ≤ i) (h2 : m.length ≤ k) : IsU l m out := by
  have := h.u
  rwa [List.take_of_length_le h1, List.take_of_length_le h2] at this
theorem MgSt.len (h : MgSt l m out i k) : out.length ≤ l.length + m.length := by
  have := h.u.len
  rw [List.length_take, List.length_take] at this
  omega
end
theorem IsU.set {f : FrV} {l m u : List NoteV} (h : IsU l m u) (hl : (checkSetP f l).1 = 0) (hm : (checkSetP f m).1 = 0) (h4 : u.length ≤ 400) : (checkSetP f u).1 = 0 := by
  refine set_mk (set_ok hl).1 h4 (fun x hx => ?_) h.1
  rcases (h.2 x).1 hx with h1 | h1
  · exact (set_ok hl).2.2.1 x h1
  · exact (set_ok hm).2.2.1 x h1
end Go.Proofs.YtlnhppgfhkkidaaGreat
namespace Go.Proofs.YtlnhppgfhkkidaaGreat
set_option linter.unusedSimpArgs false
set_option linter.unusedVariables false

def insG (lt : NoteV → NoteV → Bool) (n : NoteV) : List NoteV → List NoteV
  | [] => [n]
  | y :: ys => if lt y n = true then y :: insG lt n ys else n :: y :: ys
theorem judge_step (l : List NoteV) (r : NoteV) {k : Nat} {x : NoteV} (h : l[k]? = some x) : judgeP (l.take (k + 1)) r = betterP r (judgeP (l.take k) r) x := by
  unfold judgeP
  rw [take_snoc h, List.foldl_append]
  rfl
theorem better_skip {r x : NoteV} {b : Option NoteV} (hc : candP r x = false) : betterP r b x = b := by
  unfold betterP
  rw [if_neg (by rw [hc]; decide)]
theorem better_first {r x : NoteV} (hc : candP r x = true) : betterP r none x = some x := by
  unfold betterP
  rw [if_pos hc]
def JdgAt (l : List NoteV) (r : NoteV) (k : Nat) (i : Int) : Prop := (i = -1 ∧ judgeP (l.take k) r = none) ∨ ∃ (j : Nat) (x : NoteV), i = (j : Int) ∧ l[j]? = some x ∧ judgeP (l.take k) r = some x
theorem JdgAt.start (l : List NoteV) (r : NoteV) : JdgAt l r 0 (-1) := .inl ⟨rfl, rfl⟩
theorem JdgAt.skip {l : List NoteV} {r x : NoteV} {k : Nat} {i : Int} (h : JdgAt l r k i) (hx : l[k]? = some x) (hc : candP r x = false) : JdgAt l r (k + 1) i := by
  have e : judgeP (l.take (k + 1)) r = judgeP (l.take k) r := by rw [judge_step l r hx, better_skip hc]
  unfold JdgAt
  rw [e]
  exact h
theorem JdgAt.first {l : List NoteV} {r x : NoteV} {k : Nat} {i : Int} (h : JdgAt l r k i) (hi : i < 0) (hx : l[k]? = some x) (hc : candP r x = true) : JdgAt l r (k + 1) (k : Int) := by
  rcases h with ⟨_, h⟩ | ⟨j, y, rfl, _⟩
  · exact .inr ⟨k, x, rfl, hx, by rw [judge_step l r hx, h, better_first hc]⟩
  · omega
end Go.Proofs.YtlnhppgfhkkidaaGreat
namespace Go.Proofs.YtlnhppgfhkkidaaGreat
set_option linter.unusedSimpArgs false
set_option linter.unusedVariables false

theorem insG_perm (lt : NoteV → NoteV → Bool) (n : NoteV) : ∀ l : List NoteV, (insG lt n l).Perm (n :: l)
  | [] => List.Perm.refl _
  | y :: ys => by
    unfold insG
    split
    · exact ((insG_perm lt n ys).cons y).trans (List.Perm.swap ..)
    · exact List.Perm.refl _
end Go.Proofs.YtlnhppgfhkkidaaGreat
namespace Go.Proofs.YtlnhppgfhkkidaaGreat
set_option linter.unusedSimpArgs false
set_option linter.unusedVariables false

def bump (c : Int → Nat) (h : Int) : Int → Nat := fun a => if a = h then c a + 1 else c a
def NmsOk (K : List NoteV) (c : Int → Nat) : Prop := ∀ h k : Int, (∃ x ∈ K, nmOf x = (h, k)) ↔ 1 ≤ k ∧ k ≤ (c h : Int)
def knownBy (K : List NoteV) (n : NoteV) : Option NoteV := K.find? (fun x => decide (nmOf x = nmOf n))
def hearGo (l : List NoteV) : List NoteV → (Int → Nat) → List NoteV → Option (List NoteV × (Int → Nat))
  | fr, c, [] => some (fr, c)
  | fr, c, n :: ns => match knownBy (l ++ fr) n with
    | some o => if sameB o n = true then hearGo l fr c ns else none
    | none => if (c n.house : Int) + 1 < n.num then hearGo l fr c ns else hearGo l (fr ++ [n]) (bump c n.house) ns
def insN (l : List NoteV) (n : NoteV) : List NoteV := insG (fun x y => nmLt (nmOf x) (nmOf y)) n l
def addAll (l fr : List NoteV) : List NoteV := fr.foldl insN l
theorem knownBy_some {K : List NoteV} {n o : NoteV} (h : knownBy K n = some o) : o ∈ K ∧ nmOf o = nmOf n := by
  unfold knownBy at h
  exact ⟨List.mem_of_find?_eq_some h, by simpa using List.find?_some h⟩
theorem knownBy_none {K : List NoteV} {n : NoteV} (h : knownBy K n = none) : ∀ y ∈ K, nmOf y ≠ nmOf n := by
  unfold knownBy at h
  rw [List.find?_eq_none] at h
  intro y hy e
  exact h y hy (by simpa using e)
theorem knownBy_no {K : List NoteV} {n : NoteV} (h : ∀ y ∈ K, nmOf y ≠ nmOf n) : knownBy K n = none := by
  unfold knownBy
  rw [List.find?_eq_none]
  intro y hy e
  exact h y hy (by simpa using e)
theorem NmsOk.free {K : List NoteV} {c : Int → Nat} (h : NmsOk K c) {n : NoteV} (h1 : 1 ≤ n.num) (hn : ∀ y ∈ K, nmOf y ≠ nmOf n) : (c n.house : Int) < n.num := by
  have := (h n.house n.num).2
  by_cases h2 : n.num ≤ (c n.house : Int)
  · obtain ⟨x, hx, e⟩ := this ⟨h1, h2⟩
    exact absurd e (hn x hx)
  · omega
theorem NmsOk.le {K : List NoteV} {c : Int → Nat} (h : NmsOk K c) {n : NoteV} (hn : n ∈ K) : 1 ≤ n.num ∧ n.num ≤ (c n.house : Int) := (h n.house n.num).1 ⟨n, hn, rfl⟩
theorem NmsOk.add {K : List NoteV} {c : Int → Nat} (h : NmsOk K c) {n : NoteV} (hk : n.num = (c n.house : Int) + 1) : NmsOk (K ++ [n]) (bump c n.house) := fun a k => by
  have e1 : (∃ x ∈ K ++ [n], nmOf x = (a, k)) ↔ (∃ x ∈ K, nmOf x = (a, k)) ∨ nmOf n = (a, k) := by
    constructor
    · rintro ⟨x, hx, e⟩
      rcases List.mem_append.1 hx with hx | hx
      · exact .inl ⟨x, hx, e⟩
      · rw [List.mem_singleton.1 hx] at e; exact .inr e
    · rintro (⟨x, hx, e⟩ | e)
      · exact ⟨x, List.mem_append_left _ hx, e⟩
      · exact ⟨n, by simp, e⟩
  rw [e1, h a k]
  unfold bump
  have e2 : nmOf n = (a, k) ↔ n.house = a ∧ n.num = k := by
    show (n.house, n.num) = (a, k) ↔ _
    rw [Prod.mk.injEq]
  rw [e2]
  by_cases ha : a = n.house
  · subst ha
    simp
    omega
  · rw [if_neg ha]
    constructor
    · rintro (h2 | h2)
      · exact h2
      · exact absurd h2.1.symm ha
    · exact .inl
theorem NmsOk.perm {K L : List NoteV} {c : Int → Nat} (h : NmsOk K c) (hm : ∀ x, x ∈ L ↔ x ∈ K) : NmsOk L c := fun a k => by
  rw [← h a k]
  constructor
  · rintro ⟨x, hx, e⟩; exact ⟨x, (hm x).1 hx, e⟩
  · rintro ⟨x, hx, e⟩; exact ⟨x, (hm x).2 hx, e⟩
theorem hear_ok {l : List NoteV} : ∀ (ns fr : List NoteV) (c : Int → Nat) {fr' : List NoteV} {c' : Int → Nat}, NmsOk (l ++ fr) c → ((l ++ fr).map nmOf).Nodup → (∀ n ∈ ns, 1 ≤ n.num) → hearGo l fr c ns = some (fr', c') →
    NmsOk (l ++ fr') c' ∧ ((l ++ fr').map nmOf).Nodup ∧ (∀ x ∈ fr', x ∈ fr ∨ x ∈ ns) ∧ fr'.length ≤ fr.length + ns.length
  | [], fr, c, fr', c', h1, h2, _, h => by
    simp only [hearGo, Option.some.injEq, Prod.mk.injEq] at h
    obtain ⟨rfl, rfl⟩ := h
    exact ⟨h1, h2, fun x hx => .inl hx, by simp⟩
  | n :: ns, fr, c, fr', c', h1, h2, h3, h => by
    rw [hearGo] at h
    have h3' : ∀ m ∈ ns, 1 ≤ m.num := fun m hm => h3 m (List.mem_cons_of_mem _ hm)
    split at h
    · split at h
      · obtain ⟨a1, a2, a3, a4⟩ := hear_ok ns fr c h1 h2 h3' h
        exact ⟨a1, a2, fun x hx => (a3 x hx).imp id (List.mem_cons_of_mem _), by rw [List.length_cons]; omega⟩
      · cases h
    · rename_i hk
      have hfree := knownBy_none hk
      split at h
      · obtain ⟨a1, a2, a3, a4⟩ := hear_ok ns fr c h1 h2 h3' h
        exact ⟨a1, a2, fun x hx => (a3 x hx).imp id (List.mem_cons_of_mem _), by rw [List.length_cons]; omega⟩
      · rename_i hle
        have hlt := h1.free (h3 n (List.mem_cons_self ..)) hfree
        have hadd := h1.add (n := n) (by omega)
        rw [List.append_assoc] at hadd
        obtain ⟨a1, a2, a3, a4⟩ := hear_ok ns (fr ++ [n]) (bump c n.house) hadd (by
          rw [← List.append_assoc, List.map_append]
          refine List.nodup_append.2 ⟨h2, by simp, fun a ha b hb e => ?_⟩
          rw [List.map_singleton, List.mem_singleton] at hb
          obtain ⟨x, hx, rfl⟩ := List.mem_map.1 ha
          exact hfree x hx (e.trans hb)) h3' h
        refine ⟨a1, a2, fun x hx => ?_, by rw [List.length_append] at a4; rw [List.length_cons]; simp at a4; omega⟩
        rcases a3 x hx with h5 | h5
        · rcases List.mem_append.1 h5 with h5 | h5
          · exact .inl h5
          · rw [List.mem_singleton.1 h5]; exact .inr (List.mem_cons_self ..)
        · exact .inr (List.mem_cons_of_mem _ h5)
theorem insN_mem {l : List NoteV} {n x : NoteV} : x ∈ insN l n ↔ x ∈ l ∨ x = n := by
  unfold insN
  rw [(insG_perm _ n l).mem_iff, List.mem_cons]
  exact Or.comm
theorem insN_sorted {n : NoteV} : ∀ {l : List NoteV}, l.Pairwise ltN → (∀ y ∈ l, nmOf y ≠ nmOf n) → (insN l n).Pairwise ltN
  | [], _, _ => by simp [insN, insG]
  | y :: ys, h, hf => by
    rw [List.pairwise_cons] at h
    have hf' : ∀ z ∈ ys, nmOf z ≠ nmOf n := fun z hz => hf z (List.mem_cons_of_mem _ hz)
    have ih := insN_sorted h.2 hf'
    unfold insN at ih ⊢
    unfold insG
    split
    · rename_i hy
      refine List.pairwise_cons.2 ⟨fun z hz => ?_, ih⟩
      rcases (insN_mem (l := ys) (n := n) (x := z)).1 hz with hz | rfl
      · exact h.1 z hz
      · exact hy
    · rename_i hy
      have hny : ltN n y := by
        unfold ltN
        cases h2 : nmLt (nmOf n) (nmOf y) with
        | true => rfl
        | false => exact absurd (nm_total (by simpa using hy) h2) (hf y (List.mem_cons_self ..))
      refine List.pairwise_cons.2 ⟨fun z hz => ?_, List.pairwise_cons.2 h⟩
      rcases List.mem_cons.1 hz with rfl | hz
      · exact hny
      · exact ltN_trans hny (h.1 z hz)
theorem addAll_len : ∀ (fr l : List NoteV), (addAll l fr).length = l.length + fr.length
  | [], l => by simp [addAll]
  | n :: fr, l => by
    show (addAll (insN l n) fr).length = _
    rw [addAll_len fr (insN l n), insN, (insG_perm _ n l).length_eq, List.length_cons, List.length_cons]
    omega
end Go.Proofs.YtlnhppgfhkkidaaGreat
namespace Go.Proofs.YtlnhppgfhkkidaaGreat
set_option linter.unusedSimpArgs false
open Go.RowKit
attribute [local go_sem] Oper.semAt_some

structure ApAt (Wb : World) (p : Nat) (es : List EvV) (W : World) : Prop where
  blk : ∃ a c, W.heap[p]? = some (.cells #[.slice a es.length c] 74 (0, 0)) ∧ W.ownsRow Wb.heap.size 210 21 (.slice a es.length c) es.length (evCells es)
  same : Same (fun k => k = p) Wb W
theorem ApAt.below {Wb W W' : World} {p : Nat} {es : List EvV} (h : ApAt Wb p es W) (hb : Below W.heap.size W W') : ApAt Wb p es W' := by
  obtain ⟨⟨a, c, h1, h2⟩, h3⟩ := h
  exact ⟨⟨a, c, below_blk hb h1, own_below h2 hb⟩, h3.trans (Same.of_below hb)⟩
theorem ApAt.putObj {Wb W : World} {p : Nat} {es : List EvV} (h : ApAt Wb p es W) (o : Loop) (hl : ∃ r, W.heap[Wb.heap.size + 1]? = some (.loop r)) : ApAt Wb p es (W.putObj (Wb.heap.size + 1) (.loop o)) := by
  obtain ⟨r, hl⟩ := hl
  obtain ⟨⟨a, c, h1, h2⟩, h3⟩ := h
  have hne : p ≠ Wb.heap.size + 1 := fun e => by rw [e, hl] at h1; cases h1
  exact ⟨⟨a, c, (World.putObj_heap_other hne).trans h1, ownsRow_putObj h2 _ hl rfl⟩, h3.reg (Same.of_grown (grownBy_putObj' W _ _) (fun k e => by cases e; exact .inr (by omega)))⟩
theorem ApAt.add {Wb W V : World} {p : Nat} {es : List EvV} {e : EvV} {a a' : Option Addr} {c c' : Nat} (hs : Same (fun k => k = p) Wb W) (hp : W.heap[p]? = some (.cells #[.slice a es.length c] 74 (0, 0))) (how : W.ownsRow Wb.heap.size 210 21 (.slice a es.length c) es.length (evCells es))
    (ho : V.ownsRow Wb.heap.size 210 21 (.slice a' (es.length + 1) c') (es.length + 1) (evCells es ++ e.cells)) (hg : W.grownBy V (Value.ownBlock (.slice a es.length c))) :
    ApAt Wb p (es ++ [e]) (V.setCell ⟨p, 0, none⟩ (.slice a' (es.length + 1) c')) ∧ V.heap[p]? = some (.cells #[.slice a es.length c] 74 (0, 0)) := by
  have hb2 := grown_blk hg hp (own_no how hp (by intro cur; simp))
  have G := setCell_grown V p 0 (.slice a' (es.length + 1) c')
  refine ⟨⟨⟨a', c', ?_, ?_⟩, hs.reg ((Same.of_grown hg (fun k e => .inr (how.lt k e).1)).trans (Same.of_grown G (fun k e => by cases e; exact .inl rfl)))⟩, hb2⟩
  · rw [setCell_at hb2 0 (.slice a' (es.length + 1) c'), List.length_append]; rfl
  · rw [evCells_snoc, List.length_append]
    exact ho.kept G (.inr (own_no ho hb2 (by intro cur; simp)).symm)
end Go.Proofs.YtlnhppgfhkkidaaGreat
namespace Go.Proofs.YtlnhppgfhkkidaaGreat
set_option linter.unusedSimpArgs false
open Go.RowKit
attribute [local go_sem] Oper.semAt_some

section
variable {α : Type} {enc : α → Value} {f : Nm → Option α} {F : Fence} {m : Nat} (w : World) {ops : Array Oper} {rest : List Oper} {o : Oper} {a : Act} {Q : Exit → Act → World → Prop}
theorem wpListIn_range_nm (hg : o.guard = none) (x : Operand) (t e : TypeId) (hop : o.op = Op.range t x) (ht : Tryz.prog.underlying t = some (.map 45 e)) (b n : Nat) (hm : a.eval x = .map (some b)) (hmap : MapF enc w b n f)
    (hK : ∀ w' cnt, RangeF enc w' b w.heap.size n f [] cnt → w.grownBy w' none → w'.heap.size = w.heap.size + 1 → wpListIn F m Tryz.prog ops Q rest (a.put o.dst (.pointer (some ⟨w.heap.size, 0, none⟩))) w') : wpListIn F m Tryz.prog ops Q (o :: rest) a w := by
  obtain ⟨D, h1, h2⟩ := hmap
  exact wpListIn_range_own w hg x t hop 45 e nm_keyed ht heldR b n D hm h1 (fun w' h3 h4 h5 => hK w' _ ⟨D, _, h3, h2, fun k hk => by rw [h2.has k hk]; simp, List.nodup_nil, by have := h1.size_le; simpa using this⟩ h4 h5)
theorem wpListIn_next_nm (hg : o.guard = none) (it : Operand) (hop : o.op = Op.next it false) (b r n cnt : Nat) (ks : List Nm) (hit : a.eval it = .pointer (some ⟨r, 0, none⟩)) (h : RangeF enc w b r n f ks cnt)
    (hDone : AllIn f ks → wpListIn F m Tryz.prog ops Q rest (a.put o.dst (.tuple #[.bool false])) w)
    (hMore : ∀ kh km y w' cnt', Hid (NextF enc w b r n cnt f ks kh km y w' cnt') →
      (Instr.entry (.pointer (some ⟨r, 0, none⟩))).run Tryz.prog w' = .ok (.tuple #[.agg #[.int .i64 kh, .int .i64 km], enc y]) w' → wpListIn F m Tryz.prog ops Q rest (a.put o.dst (.tuple #[.bool true, .agg #[.int .i64 kh, .int .i64 km], enc y])) w') : wpListIn F m Tryz.prog ops Q (o :: rest) a w := by
  obtain ⟨D, left, h1, h2, h3, h4, hcn⟩ := h
  refine wpListIn_next_ranges (α := Nm) (β := Value) w hg it hop 45 nm_keyed heldR nmV id (fun key kl hk => by obtain ⟨a, rfl, _⟩ := keyOf_inv hk; exact ⟨a, rfl⟩) (fun v _ _ => ⟨v, rfl⟩) b r n D left cnt hit h1 (fun _ hl => hDone (fun k hk => ?_)) (fun k c kl y w' cnt' hkey hlk hv hat hrg hlt hgr hsz hen => ?_)
  · have := hl (nmL k)
    rw [h3 k (h2.ok k hk), hk] at this
    simpa using this
  · obtain ⟨k', e1, hk', rfl⟩ := keyOf_inv hkey
    cases nmV_inj e1
    rw [h3 k hk'] at hlk
    simp only [Bool.and_eq_true, Bool.not_eq_true', decide_eq_false_iff_not] at hlk
    obtain ⟨x, hx⟩ := Option.isSome_iff_exists.1 hlk.1
    have hy := hat (.lit (.bool true))
    rw [h2.val k x hx] at hy
    simp only [heldR, Option.some.injEq] at hv
    rw [← hv] at hy
    simp only [DataW.held.injEq, id_eq] at hy
    subst hy
    refine hMore k.1 k.2 x w' cnt' (Lib.hid ⟨hx, hlk.2, hk', ⟨D, _, hrg, h2, fun a ha => ?_, ?_, by rw [List.length_append, List.length_singleton]; omega⟩, hlt, hgr, hsz⟩) hen
    · rw [h3 a ha]
      by_cases e : a = k
      · subst e
        have : (nmL a).sameKey (nmL a) = true := WideAt.sameKey_self (nmL_key _)
        simp [this]
      · have : (nmL a).sameKey (nmL k) = false := Maps.sameKey_ne (fun he => e (nmL_inj ha hk' he))
        simp [this, e]
    · exact List.nodup_append.2 ⟨h4, by simp, fun a ha b hb e => hlk.2 (by rw [List.mem_singleton] at hb; rw [← show b = k from hb, ← e]; exact ha)⟩
end
theorem LoopAt.turn {rec : LoopState → Option Code → Loop} {D : Nat} {st : LoopState} {pe : Option Code} {W W' : World} {r : Nat} {o : Obj} (h : LoopAt rec D st pe W) (hr : W.heap[r]? = some o) (ho1 : ∀ l, o ≠ .loop l) (ho2 : ∀ l, o ≠ .deferred l) (hg : W.grownBy W' (some r)) : LoopAt rec D st pe W' :=
  ⟨grown_blk hg h.1 (fun e => by have h1 := h.1; rw [Option.some.inj e, hr] at h1; exact ho1 _ (Option.some.inj h1)), grown_blk hg h.2 (fun e => by have h1 := h.2; rw [Option.some.inj e, hr] at h1; exact ho2 _ (Option.some.inj h1))⟩
structure NpAt (Wb : World) (p : Nat) (ks : List Nm) (W : World) : Prop where
  blk : ∃ a c, W.heap[p]? = some (.cells #[.slice a ks.length c] 75 (0, 0)) ∧ W.ownsRow Wb.heap.size 45 2 (.slice a ks.length c) ks.length (nmCells ks)
  same : Same (fun k => k = p) Wb W
theorem NpAt.below {Wb W W' : World} {p : Nat} {ks : List Nm} (h : NpAt Wb p ks W) (hb : Below W.heap.size W W') : NpAt Wb p ks W' := by
  obtain ⟨⟨a, c, h1, h2⟩, h3⟩ := h
  exact ⟨⟨a, c, below_blk hb h1, own_below h2 hb⟩, h3.trans (Same.of_below hb)⟩
theorem NpAt.turn {Wb W W' : World} {p r : Nat} {ks : List Nm} {o : Obj} (h : NpAt Wb p ks W) (hr : W.heap[r]? = some o) (ho : ∀ c t fr, o ≠ .cells c t fr) (hg : W.grownBy W' (some r)) (hge : Wb.heap.size ≤ r) : NpAt Wb p ks W' := by
  obtain ⟨⟨a, c, h1, h2⟩, h3⟩ := h
  exact ⟨⟨a, c, grown_blk hg h1 (fun e => by rw [Option.some.inj e, hr] at h1; exact ho _ _ _ (Option.some.inj h1)), h2.kept hg (.inr (own_no h2 hr (fun cur => ho _ _ _)).symm)⟩, h3.reg (Same.of_grown hg (fun k e => by cases e; exact .inr hge))⟩
theorem NpAt.putObj {Wb W : World} {p : Nat} {ks : List Nm} (h : NpAt Wb p ks W) (o : Loop) (hl : ∃ r, W.heap[Wb.heap.size + 1]? = some (.loop r)) : NpAt Wb p ks (W.putObj (Wb.heap.size + 1) (.loop o)) := by
  obtain ⟨r, hl⟩ := hl
  exact h.turn hl (fun _ _ _ => by simp) (grownBy_putObj' W _ _) (by omega)
theorem NpAt.add {Wb W V : World} {p : Nat} {ks : List Nm} {k : Nm} {a a' : Option Addr} {c c' : Nat} (hs : Same (fun k => k = p) Wb W) (hp : W.heap[p]? = some (.cells #[.slice a ks.length c] 75 (0, 0))) (how : W.ownsRow Wb.heap.size 45 2 (.slice a ks.length c) ks.length (nmCells ks))
    (ho : V.ownsRow Wb.heap.size 45 2 (.slice a' (ks.length + 1) c') (ks.length + 1) (nmCells ks ++ [.int .i64 k.1, .int .i64 k.2])) (hg : W.grownBy V (Value.ownBlock (.slice a ks.length c))) :
    NpAt Wb p (ks ++ [k]) (V.setCell ⟨p, 0, none⟩ (.slice a' (ks.length + 1) c')) ∧ V.heap[p]? = some (.cells #[.slice a ks.length c] 75 (0, 0)) := by
  have hb2 := grown_blk hg hp (own_no how hp (by intro cur; simp))
  have G := setCell_grown V p 0 (.slice a' (ks.length + 1) c')
  refine ⟨⟨⟨a', c', ?_, ?_⟩, hs.reg ((Same.of_grown hg (fun k e => .inr (how.lt k e).1)).trans (Same.of_grown G (fun k e => by cases e; exact .inl rfl)))⟩, hb2⟩
  · rw [setCell_at hb2 0 (.slice a' (ks.length + 1) c'), List.length_append]; rfl
  · rw [nmCells_snoc, List.length_append]
    exact ho.kept G (.inr (own_no ho hb2 (by intro cur; simp)).symm)
theorem RangeF.turn {W W' : World} {b r n cnt : Nat} {f : Nm → Option LN} {ks : List Nm} {row : Option Nat} (h : RangeF LN.val W b r n f ks cnt) (hg : W.grownBy W' row) (hrow : ∀ q, row = some q → ∃ o, W.heap[q]? = some o ∧ (∀ e c, o ≠ .map e c) ∧ ∀ a1 a2 a3 a4, o ≠ .mapIter a1 a2 a3 a4) : RangeF LN.val W' b r n f ks cnt := by
  obtain ⟨es, clock, hsb⟩ := h.map.blk
  obtain ⟨bb, since, seen, c0, hr⟩ := h.blk
  refine h.of_blocks ((grown_blk hg hsb (fun e => ?_)).trans hsb.symm) ((grown_blk hg hr (fun e => ?_)).trans hr.symm)
  · obtain ⟨o, h1, h2, h3⟩ := hrow b e.symm
    rw [hsb] at h1
    exact h2 _ _ (Option.some.inj h1).symm
  · obtain ⟨o, h1, h2, h3⟩ := hrow r e.symm
    rw [hr] at h1
    exact h3 _ _ _ _ (Option.some.inj h1).symm
abbrev KSt := List Nm × Nm × Nat × Nat
def KAt (Wb : World) (p b n : Nat) (f : Nm → Option LN) (ks js : List Nm) (r cnt : Nat) (W : World) : Prop := NpAt Wb p js W ∧ RangeF LN.val W b r n f ks cnt ∧ Wb.heap.size ≤ r ∧ ∀ k ∈ ks, (f k).isSome = true

def NamesRet (f : Nm → Option LN) (n : Nat) (w : World) (e : Ending) (W : World) : Prop :=
  ∃ (a : Option Addr) (c : Nat) (ks : List Nm), e = .returned (.slice a ks.length c) ∧ W.ownsRow w.heap.size 45 2 (.slice a ks.length c) ks.length (nmCells ks) ∧ AllIn f ks ∧ ks.Pairwise (fun x y => nmLt x y = true) ∧ (∀ k ∈ ks, (f k).isSome = true) ∧ ks.length ≤ n
theorem nm_strict {zs : List Nm} (hn : zs.Nodup) (hs : zs.Pairwise (fun x y => nmLt y x = false)) : zs.Pairwise (fun x y => nmLt x y = true) := by
  refine (hs.and hn).imp (fun {x y} h => ?_)
  cases h2 : nmLt x y with
  | true => rfl
  | false => exact absurd (nm_total h2 h.1) h.2
end Go.Proofs.YtlnhppgfhkkidaaGreat
namespace Go.Proofs.YtlnhppgfhkkidaaGreat
set_option linter.unusedSimpArgs false
open Go.RowKit

section
attribute [local go_sem] noteA_0 noteA_1
theorem nameOf2_any (n : NoteV) (sa : Option Addr) (sc : Nat) (w : World) : Calls Tryz.prog 58 #[.agg (noteA n sa sc)] w fun e w' => e = .returned (.agg #[.int .i64 n.house, .int .i64 n.num]) ∧ Below w.heap.size w w' := by
  have hb := (Below.refl w.heap.size w).alloc (Nat.le_refl _) (.cells (noteA n sa sc) 47)
  go_enter Tryz.func58, Tryz.ntmps58
  go_wp2_with fail
  go_returns
  exact ⟨rfl, hb.alloc hb.size _⟩
end
section
attribute [local go_sem] noteA_15
set_option maxHeartbeats 4000000 in
set_option maxRecDepth 100000 in
theorem copied2_any (n : NoteV) (sa : Option Addr) (sc : Nat) (w : World) (hs : RdI w sa n.strokes.length sc n.strokes) (hl : n.strokes.length ≤ 1000000000) :
    Calls Tryz.prog 71 #[.agg (noteA n sa sc)] w fun e w' => ∃ ta tc, e = .returned (.agg (noteA n ta tc)) ∧ w'.ownsRow w.heap.size 3 1 (.slice ta n.strokes.length tc) n.strokes.length (n.strokes.map intV) ∧ Below w.heap.size w w' := by
  have I43 := Lib.hid (show ∀ (m : NoteV) (a : Option Addr) (c : Nat), (Tryz.prog.info? 47).map (·.size) = some (noteA m a c).size from fun m a c => by kernel_rfl)
  go_enter Tryz.func71, Tryz.ntmps71
  go_upto_region 1 with fail
  rw [← noteA_zero]
  have g0 := heap_before _ (.cells (noteA zeroN none 0) 47) _ _ (heap_last w (.cells (noteA n sa sc) 47))
  have g1 := heap_at (w.alloc (.cells (noteA n sa sc) 47)) (.cells (noteA zeroN none 0) 47) (w.heap.size + 1) (by simp)
  have bb : Below w.heap.size w ((w.alloc (.cells (noteA n sa sc) 47)).alloc (.cells (noteA zeroN none 0) 47)) := ((Below.refl _ _).alloc (Nat.le_refl _) _).alloc (by simp) _
  have L0 : Hid (TwoC w ((w.alloc (.cells (noteA n sa sc) 47)).alloc (.cells (noteA zeroN none 0) 47)) w.heap.size (w.heap.size + 1) (noteA n sa sc) (noteA zeroN none 0) 47) := Lib.hid ⟨g0, g1, bb, by omega⟩
  have RI := Lib.hid (hs.below bb)
  clear g0 g1 bb hs
  generalize (w.alloc (.cells (noteA n sa sc) 47)).alloc (.cells (noteA zeroN none 0) 47) = W2 at *
  generalize hp0 : w.heap.size = p0 at *
  generalize hp1 : p0 + 1 = p1 at *
  have HP0 := Lib.hid hp0; clear hp0 hp1
  obtain ⟨m, hm⟩ : ∃ m, Hid (n.strokes.length = m) := ⟨_, Lib.hid rfl⟩
  have c15 : W2.cell? ⟨p0, 15, none⟩ = some (.slice sa m sc) := by rw [← hm.out]; exact cell_of L0.out.e1 15 _ rfl
  rw [hm.out] at RI hl
  go_wp2_with fail
  refine (cloneI_any sa m sc n.strokes W2 (by omega) RI.out).mono ?_
  rintro e W3 ⟨ta, tc, rfl, ho, b3⟩
  have L3 := Lib.hid (L0.out.below b3)
  have O3 := Lib.hid (own_mono ho (show p0 ≤ W2.heap.size by have := blk_lt L0.out.e1; omega))
  clear ho b3 c15
  have c15 := cell_of L3.out.e1 15 _ rfl
  have f15 := frozen_of L3.out.e1 15
  have T3 := Lib.hid (own_no O3.out L3.out.e1 (fun cur h => by simp at h))
  have G3 := setCell_grown W3 p0 15 (.slice ta m tc)
  have E3 : Hid ((W3.setCell ⟨p0, 15, none⟩ (.slice ta m tc)).heap[p0]? = some (.cells (noteA n ta tc) 47 (0, 0))) := Lib.hid (by
    have := setCell_at L3.out.e1 15 (.slice ta m tc)
    rw [← hm.out, noteA_15s] at this
    rw [← hm.out]; exact this)
  have E4 : Hid ((W3.setCell ⟨p0, 15, none⟩ (.slice ta m tc)).heap[p1]? = some (.cells (noteA zeroN none 0) 47 (0, 0))) := Lib.hid (grown_blk G3 L3.out.e2 (fun e => by have := L3.out.lt; have e2 := Option.some.inj e; omega))
  go_upto_region 2 with fail
  have B3 : Hid (Below p0 w (W3.setCell ⟨p0, 15, none⟩ (.slice ta m tc))) := Lib.hid (L3.out.b.grown G3 (by have := blk_lt L3.out.e1; omega) (fun q hq => by cases hq; exact Nat.le_refl _))
  have U3 := Lib.hid (own_no O3.out L3.out.e2 (fun cur h => by simp at h))
  have O4 := Lib.hid (own_keep (S := fun k => k = p0) O3.out (Same.of_grown G3 (fun k e => by cases e; rfl)) (fun b hb e => T3.out (by rw [hb, e])))
  have hlt := L3.out.lt
  clear c15 f15 G3
  generalize W3.setCell ⟨p0, 15, none⟩ (.slice ta m tc) = W4 at *
  have oneN := noteA_one n ta tc
  go_wp2_with (first
    | (refine wpList_load_row rfl 47 _ rfl p0 rfl 47 (noteA n ta tc) (0, 0) _ E3.out Tryz.underlying47 rfl (I43.out _ _ _) ?_)
    | (refine wpList_store_rowN rfl 47 _ _ rfl p1 (noteA zeroN none 0) (noteA n ta tc) 47 rfl rfl E4.out (I43.out _ _ _) rfl oneN ?_))
  go_wp2_with fail
  have hr := setRow_at W4 p1 _ (noteA n ta tc) _ _ E4.out
  refine bodyPost_ret (results_cell_row rfl _ _ p1 47 (noteA n ta tc) (0, 0) _ rfl hr Tryz.underlying47 rfl (I43.out _ _ _)) rfl ?_
  have G4 := setRow_grown W4 p1 (noteA n ta tc)
  have hp1 : p1 < W4.heap.size := blk_lt E4.out
  refine ⟨ta, tc, rfl, ?_, ?_⟩
  · rw [HP0.out, hm.out]
    exact own_keep (S := fun k => k = p1) O4.out (Same.of_grown G4 (fun k e => by cases e; rfl)) (fun b hb e => U3.out (by rw [hb, e]))
  · rw [HP0.out]
    exact B3.out.grown G4 (by omega) (fun q hq => by cases hq; omega)
end
set_option maxHeartbeats 4000000 in
set_option maxRecDepth 100000 in
theorem compareNames2_gro (x m y k : Int) (w : World) : Calls Tryz.prog 120 #[.agg #[.int .i64 x, .int .i64 m], .agg #[.int .i64 y, .int .i64 k]] w fun e w' => e = .returned (.int .i64 (namesC x m y k)) ∧ Gro w.heap.size w w' := by
  have g1 := heap_before _ (.cells (#[.int .i64 y, .int .i64 k]) 45) _ _ (heap_last w (.cells (#[.int .i64 x, .int .i64 m]) 45))
  have g2 := heap_at (w.alloc (.cells (#[.int .i64 x, .int .i64 m]) 45)) (.cells (#[.int .i64 y, .int .i64 k]) 45) (w.heap.size + 1) (by simp)
  have bb : Gro w.heap.size w ((w.alloc (.cells (#[.int .i64 x, .int .i64 m]) 45)).alloc (.cells (#[.int .i64 y, .int .i64 k]) 45)) := ((Gro.refl _ _).alloc (Nat.le_refl _) _).alloc (by simp) _
  have T0 : Hid (TwoG w ((w.alloc (.cells (#[.int .i64 x, .int .i64 m]) 45)).alloc (.cells (#[.int .i64 y, .int .i64 k]) 45)) w.heap.size (w.heap.size + 1) (#[.int .i64 x, .int .i64 m]) (#[.int .i64 y, .int .i64 k]) 45) := Lib.hid ⟨g1, g2, bb, by omega⟩
  clear g1 g2 bb
  go_enter Tryz.func120, Tryz.ntmps120
  go_upto_region 1 with fail
  generalize (w.alloc (.cells (#[.int .i64 x, .int .i64 m]) 45)).alloc (.cells (#[.int .i64 y, .int .i64 k]) 45) = W0 at *
  obtain ⟨p, hp⟩ : ∃ p, Hid (w.heap.size = p) := ⟨_, Lib.hid rfl⟩
  obtain ⟨q, hq⟩ : ∃ q, Hid (w.heap.size + 1 = q) := ⟨_, Lib.hid rfl⟩
  rw [hq.out, hp.out] at T0
  rw [hq.out, hp.out]
  have T1 := Lib.hid (T0.out.below (Gro.refl W0.heap.size W0).drew)
  refine wp_region_noPanic ?_
  refine wp_region_held_drew (S := fun w' => TwoG w w' p q (#[.int .i64 x, .int .i64 m]) (#[.int .i64 y, .int .i64 k]) 45) (by kernel_rfl) T1.out (fun hHeld => ?_)
  refine wpAnyH_take (i := 0) (v := .pointer (some ⟨p, 0, none⟩)) rfl (by kernel_rfl) (by kernel_rfl) (by kernel_rfl) (fun _ _ _ h => h) (Or.inl ⟨by rfl, by intro W _; go_simp⟩) (by assumption) ?_
  try simp only [Act.put, lq3, lq4, lq5]
  refine wpAnyH_take (i := 1) (v := .int .i64 x) rfl (by kernel_rfl) (by kernel_rfl) (by kernel_rfl) (fun _ _ _ h => h) (Or.inl ⟨by rfl, by intro W h; have hc := cell_of h.e1 0 (.int .i64 x) rfl; go_simp⟩) (by assumption) ?_
  try simp only [Act.put, lq3, lq4, lq5]
  refine wpAnyH_take (i := 2) (v := .pointer (some ⟨q, 0, none⟩)) rfl (by kernel_rfl) (by kernel_rfl) (by kernel_rfl) (fun _ _ _ h => h) (Or.inl ⟨by rfl, by intro W _; go_simp⟩) (by assumption) ?_
  try simp only [Act.put, lq3, lq4, lq5]
  refine wpAnyH_take (i := 3) (v := .int .i64 y) rfl (by kernel_rfl) (by kernel_rfl) (by kernel_rfl) (fun _ _ _ h => h) (Or.inl ⟨by rfl, by intro W h; have hc := cell_of h.e2 0 (.int .i64 y) rfl; go_simp⟩) (by assumption) ?_
  try simp only [Act.put, lq3, lq4, lq5]
  refine wpAnyH_take (i := 5) (v := .pointer (some ⟨p, 1, none⟩)) rfl (by kernel_rfl) (by kernel_rfl) (by kernel_rfl) (fun _ _ _ h => h) (Or.inl ⟨by rfl, by intro W _; go_simp⟩) (by assumption) ?_
  try simp only [Act.put, lq3, lq4, lq5]
  refine wpAnyH_take (i := 6) (v := .int .i64 m) rfl (by kernel_rfl) (by kernel_rfl) (by kernel_rfl) (fun _ _ _ h => h) (Or.inl ⟨by rfl, by intro W h; have hc := cell_of h.e1 1 (.int .i64 m) rfl; go_simp⟩) (by assumption) ?_
  try simp only [Act.put, lq3, lq4, lq5]
  refine wpAnyH_take (i := 7) (v := .pointer (some ⟨q, 1, none⟩)) rfl (by kernel_rfl) (by kernel_rfl) (by kernel_rfl) (fun _ _ _ h => h) (Or.inl ⟨by rfl, by intro W _; go_simp⟩) (by assumption) ?_
  try simp only [Act.put, lq3, lq4, lq5]
  refine wpAnyH_take (i := 8) (v := .int .i64 k) rfl (by kernel_rfl) (by kernel_rfl) (by kernel_rfl) (fun _ _ _ h => h) (Or.inl ⟨by rfl, by intro W h; have hc := cell_of h.e2 1 (.int .i64 k) rfl; go_simp⟩) (by assumption) ?_
  try simp only [Act.put, lq3, lq4, lq5]
  refine wpAnyH_ready (rs := [4]) (by kernel_rfl) (by simp) ?_
  refine AllReadyH.cons rfl (fun K hK => ?_) AllReadyH.nil
  go_simp
  go_at_call 173
  refine (compare_any x y _).mono ?_
  rintro e w1 ⟨rfl, rfl⟩
  dsimp only
  refine hK.out _ _ T1.out (fun hHeld => ?_)
  clear hK K
  try simp only [Act.put, lq3, lq4, lq5]
  refine wpAnyH_ready (rs := [9]) (by kernel_rfl) (by simp) ?_
  refine AllReadyH.cons rfl (fun K hK => ?_) AllReadyH.nil
  go_simp
  go_at_call 173
  refine (compare_any m k _).mono ?_
  rintro e w1 ⟨rfl, rfl⟩
  dsimp only
  refine hK.out _ _ T1.out (fun hHeld => ?_)
  clear hK K
  try simp only [Act.put, lq3, lq4, lq5]
  refine wpAnyH_ready (rs := [10]) (by kernel_rfl) (by simp) ?_
  refine AllReadyH.cons rfl (fun K hK => ?_) AllReadyH.nil
  go_simp
  have TB := Lib.hid (T1.out.below ((Gro.refl W0.drew.heap.size W0.drew).alloc (Nat.le_refl _) (.cells #[.int .i64 (cmpI x y), .int .i64 (cmpI m k)] 3)))
  refine hK.out _ _ TB.out (fun hHeld => ?_)
  clear hK K
  try simp only [Act.put, lq3, lq4, lq5]
  refine wpAnyH_ready (rs := [11]) (by kernel_rfl) (by simp) ?_
  refine AllReadyH.cons rfl (fun K hK => ?_) AllReadyH.nil
  go_simp
  go_at_call 172
  refine (or_two W0.drew.heap.size (cmpI x y) (cmpI m k) _ (heap_last W0.drew _)).mono ?_
  rintro e w1 ⟨rfl, rfl⟩
  dsimp only
  refine hK.out _ _ TB.out (fun hHeld => ?_)
  clear hK K
  try simp only [Act.put, lq3, lq4, lq5]
  refine wpAnyH_take (i := 12) (v := .int .i64 (orI (cmpI x y) (cmpI m k))) rfl (by kernel_rfl) (by kernel_rfl) (by kernel_rfl) (fun _ _ _ h => h) (Or.inl ⟨by rfl, by intro W _; go_simp⟩) (by assumption) ?_
  try simp only [Act.put, lq3, lq4, lq5]
  have TE := TB
  refine wpAnyH_done (by kernel_rfl) ?_ _
  refine NoPanic.normal ?_
  change Exit.then _ _ Exit.normal { tmps := #[.agg #[.int .i64 x, .int .i64 m], .agg #[.int .i64 y, .int .i64 k], .pointer (some ⟨p, 0, none⟩), .pointer (some ⟨q, 0, none⟩), .int .i64 (orI (cmpI x y) (cmpI m k)), .pointer (some ⟨p, 0, none⟩), .int .i64 x, .pointer (some ⟨q, 0, none⟩), .int .i64 y, .int .i64 (cmpI x y), .pointer (some ⟨p, 1, none⟩), .int .i64 m, .pointer (some ⟨q, 1, none⟩), .int .i64 k, .int .i64 (cmpI m k), .slice (some ⟨W0.drew.heap.size, 0, none⟩) 2 2, .int .i64 (orI (cmpI x y) (cmpI m k))], defers := [] } _
  go_wp2_with fail
  go_ret
  exact ⟨rfl, by rw [hp.out]; exact TE.out.b⟩
theorem nmCmp2_fn (args : Array Value) (w : World) : (callFunc 120 args).run Tryz.prog w = .ok (.enter 120 args) w := by kernel_rfl
theorem nmCmp2 (x y : Nm) (w : World) : Calls Tryz.prog 120 #[.agg (nmRow x).toArray, .agg (nmRow y).toArray] w fun e w' => e = .returned (.int .i64 (namesC x.1 x.2 y.1 y.2)) ∧ Gro w.heap.size w w' :=
  compareNames2_gro x.1 x.2 y.1 y.2 w

section
attribute [local go_sem] Oper.semAt_some
set_option maxHeartbeats 8000000 in
set_option maxRecDepth 100000 in
theorem keysIter2 (m : Nat) (Wb : World) (p pB b n : Nat) (f : Nm → Option LN) (hpB : Wb.heap[pB]? = some (.cells #[.map (some b)] 106 (0, 0))) (hne : pB ≠ p) (hmap : MapF LN.val Wb b n f) (hbp : b ≠ p)
    (rec : LoopState → Option Code → Loop) (W1 : World) (h0 : NpAt Wb p [] W1) (hl : LoopAt rec Wb.heap.size .ready none W1)
    (hY : ∀ (s : KSt) W, KAt Wb p b n f (s.1 ++ [s.2.1]) s.1 s.2.2.1 s.2.2.2 W → LoopAt rec Wb.heap.size .ready none W → YieldAt Fence.wide (m - 1) Tryz.prog (Wb.heap.size + 1) #[.agg #[.int .i64 s.2.1.1, .int .i64 s.2.1.2]] W fun e W' =>
        e = .returned (.bool true) ∧ KAt Wb p b n f (s.1 ++ [s.2.1]) (s.1 ++ [s.2.1]) s.2.2.1 s.2.2.2 W' ∧ LoopAt rec Wb.heap.size .ready none W') :
    CallsIn Fence.wide m Tryz.prog 171 #[.func (.yield (Wb.heap.size + 1)) #[] #[], .pointer (some ⟨pB, 0, none⟩)] W1 fun e W' =>
        (∃ v, e = .returned v) ∧ (∃ ks, NpAt Wb p ks W' ∧ AllIn f ks ∧ ks.Nodup ∧ (∀ k ∈ ks, (f k).isSome = true) ∧ ks.length ≤ n) ∧ LoopAt rec Wb.heap.size .ready none W' := by
  have HY := Lib.hid hY; clear hY
  have M1 := Lib.hid (hmap.of_block (h0.same.block b hmap.lt hbp))
  have hlc := cell_of ((h0.same.block pB (blk_lt hpB) hne).trans hpB) 0 (.map (some b)) rfl
  have R0 := Lib.hid h0; clear h0
  have L0 := Lib.hid hl; clear hl
  clear hpB hne hmap hbp
  refine callsIn_of_wp Tryz.func171 rfl trivial ?_
  simp only [Tryz.ntmps171, List.size_toArray, List.length_cons, List.length_nil, Nat.reduceAdd, Nat.reduceSub, Array.replicate_succ, Array.replicate_zero, List.push_toArray, List.append_toArray, List.nil_append, List.cons_append]
  gi_wp2_with (first
    | (gi_at_range; refine wpListIn_range_nm _ rfl _ 106 47 rfl Tryz.underlying106 b n rfl M1.out ?_; intro w0 cnt0 hrg0 hg0 hs0)
    | gi_in)
  go_frame
  obtain ⟨r, hr⟩ : ∃ r, Hid (W1.heap.size = r) := ⟨_, Lib.hid rfl⟩
  have b0 : Below W1.heap.size W1 w0 := (Below.refl _ _).grown hg0 (Nat.le_refl _) (fun q hq => by cases hq)
  have S0 : Hid (KAt Wb p b n f [] [] r cnt0 w0) := Lib.hid ⟨R0.out.below b0, by rw [← hr.out]; exact hrg0, by rw [← hr.out]; exact R0.out.same.size, fun k hk => by cases hk⟩
  have LL0 := Lib.hid (L0.out.of_below b0)
  rw [hr.out]
  clear hrg0 hg0 hs0 b0 hlc M1 R0 L0
  gi_loopw [3] (fun _ wr => ∃ (ks : List Nm) (cnt : Nat), Hid (KAt Wb p b n f ks ks r cnt wr) ∧ Hid (LoopAt rec Wb.heap.size .ready none wr)) (fun _ wr => wr.rangeLeft b r)
  case atStart => exact ⟨[], cnt0, S0, LL0⟩
  case round =>
    obtain ⟨ks, cnt, HS, HL⟩ := hrel
    gi_wp2_with (first
      | (gi_at_next; refine wpListIn_next_nm _ rfl _ rfl b r n cnt ks rfl HS.out.2.1 ?_ ?_)
      | gi_in)
    · intro hall
      have HALL := Lib.hid hall; clear hall
      gi_wp2
      go_end0
      exact ⟨⟨_, rfl⟩, ⟨ks, HS.out.1, HALL.out, HS.out.2.1.nodup, HS.out.2.2.2, by have := HS.out.2.1.count; omega⟩, HL.out⟩
    · intro kh km y w2 cnt2 HN hen
      obtain ⟨bb, since, seen, c0, hrb⟩ := HS.out.2.1.blk
      have np2 := HS.out.1.turn hrb (fun _ _ _ => by simp) HN.out.grown HS.out.2.2.1
      have bn : Below w2.heap.size w2 (w2.alloc (.cells #[.int .i64 kh, .int .i64 km] 45)) := (Below.refl _ _).alloc (Nat.le_refl _) _
      have L3 := Lib.hid ((HL.out.turn hrb (fun _ => by simp) (fun _ => by simp) HN.out.grown).of_below bn)
      have K3 : Hid (KAt Wb p b n f (ks ++ [(kh, km)]) ks r cnt2 (w2.alloc (.cells #[.int .i64 kh, .int .i64 km] 45))) := Lib.hid ⟨np2.below bn, HN.out.range.below bn, HS.out.2.2.1, fun k hk => by
        rcases List.mem_append.1 hk with hk | hk
        · exact HS.out.2.2.2 k hk
        · rw [List.mem_singleton.1 hk, HN.out.at_]; rfl⟩
      have HM := Lib.hid (show wr.rangeLeft b r = cnt from HS.out.2.1.left_eq)
      have HLT := Lib.hid HN.out.lt
      clear np2 bn HS HL HN hrb
      unfold LN.val at hen
      obtain ⟨fn, tmps, assign, body, hy, hRo⟩ := HY.out (ks, (kh, km), r, cnt2) _ K3.out L3.out
      dsimp only at hy
      gi_wp2
      refine ⟨fun h => by simp [Fence.wide] at h, ?_⟩
      refine hRo.mono ?_
      rintro e W6 ⟨rfl, hK6, hL6⟩
      have HK6 := Lib.hid hK6
      have HL6 := Lib.hid hL6
      clear hRo hy hK6 hL6 hen
      gi_wp2
      go_roundw
      case rel => exact ⟨_, cnt2, HK6, HL6⟩
      case measure => rw [HK6.out.2.1.left_eq, HM.out]; exact HLT.out

set_option maxHeartbeats 16000000 in
set_option maxRecDepth 100000 in
theorem appSeqNm2_any (pB b n : Nat) (f : Nm → Option LN) (w : World) (hpB : w.heap[pB]? = some (.cells #[.map (some b)] 106 (0, 0))) (hmap : MapF LN.val w b n f) (hn : n ≤ 1000) :
    Calls Tryz.prog 203 #[.slice none 0 0, .func (.func 171) #[] #[.pointer (some ⟨pB, 0, none⟩)]] w fun e w' =>
      (∃ a' c' ks, e = .returned (.slice a' ks.length c') ∧ w'.ownsRow w.heap.size 45 2 (.slice a' ks.length c') ks.length (nmCells ks) ∧ AllIn f ks ∧ ks.Nodup ∧ (∀ k ∈ ks, (f k).isSome = true) ∧ ks.length ≤ n) ∧ Below w.heap.size w w' := by
  have HLEN := Lib.hid hn; clear hn
  have B0 := Lib.hid ((Below.refl w.heap.size w).alloc (Nat.le_refl _) (.cells #[.slice none 0 0] 75))
  have P0 := Lib.hid (heap_last w (.cells #[.slice none 0 0] 75))
  have HB := Lib.hid (below_blk B0.out hpB)
  have HM := Lib.hid (hmap.below B0.out)
  have NE : Hid (pB ≠ w.heap.size ∧ b ≠ w.heap.size) := Lib.hid (by have := blk_lt hpB; have := hmap.lt; omega)
  clear hpB hmap
  refine (callsIn_wide (n := 4)).1 ?_
  refine callsIn_of_wp_marks Tryz.func203 rfl trivial ?_
  simp only [Tryz.ntmps203, List.size_toArray, List.length_cons, List.length_nil, Nat.reduceAdd, Nat.reduceSub, Array.replicate_succ, Array.replicate_zero, List.push_toArray, List.append_toArray, List.nil_append, List.cons_append]
  refine wpIn_wide.2 ?_
  go_upto_region 1 with fail
  obtain ⟨p, hp⟩ : ∃ p, Hid (w.heap.size = p) := ⟨_, Lib.hid rfl⟩
  rw [hp.out] at P0 NE ⊢
  generalize w.alloc (.cells #[.slice none 0 0] 75) = w3 at *
  go_wp2_with fail
  refine (wpIn_wide (n := 4)).1 ?_
  refine wp_range_own2 (n := 3) (σ := KSt) (w := w3) (gf := 171) (lb := #[.pointer (some ⟨pB, 0, none⟩)]) rfl (enters_of Tryz.func171 (by kernel_rfl) rfl)
    (fun s => #[.agg #[.int .i64 s.2.1.1, .int .i64 s.2.1.2]]) (fun _ => rfl) (fun s W => KAt w3 p b n f (s.1 ++ [s.2.1]) s.1 s.2.2.1 s.2.2.2 W) (fun s W => KAt w3 p b n f (s.1 ++ [s.2.1]) (s.1 ++ [s.2.1]) s.2.2.1 s.2.2.2 W)
    (fun s a₁ W => ∃ pX, a₁ = { tmps := #[.slice none 0 0, .func (.func 171) #[] #[.pointer (some ⟨pB, 0, none⟩)], .pointer (some ⟨p, 0, none⟩), undef, .slice none 0 0, .pointer (some ⟨pX, 0, none⟩), .func (.func 171) #[] #[.pointer (some ⟨pB, 0, none⟩)], .agg #[.int .i64 s.2.1.1, .int .i64 s.2.1.2], undef, undef, undef, undef, undef], defers := [] } ∧ W.heap[pX]? = some (.cells #[.int .i64 s.2.1.1, .int .i64 s.2.1.2] 45 (0, 0)) ∧ KAt w3 p b n f (s.1 ++ [s.2.1]) s.1 s.2.2.1 s.2.2.2 W)
    (fun W => ∃ ks, NpAt w3 p ks W ∧ AllIn f ks ∧ ks.Nodup ∧ (∀ k ∈ ks, (f k).isSome = true) ∧ ks.length ≤ n) ?hA' ?hB ?hD ?assign ?body ?iter ?done
  case hA' =>
    rintro s a₁ W o ⟨pX, rfl, h1, h2, h3, h4⟩ ⟨r, hr⟩
    refine ⟨pX, rfl, (World.putObj_heap_other (fun e => ?_)).trans h1, h2.putObj o ⟨r, hr⟩, h3.turn (grownBy_putObj' W _ _) (fun q e => by cases e; exact ⟨_, hr, by simp, by simp⟩), h4⟩
    rw [e, hr] at h1
    simp at h1
  case hB =>
    rintro s W o ⟨h2, h3, h4⟩ ⟨r, hr⟩
    exact ⟨h2.putObj o ⟨r, hr⟩, h3.turn (grownBy_putObj' W _ _) (fun q e => by cases e; exact ⟨_, hr, by simp, by simp⟩), h4⟩
  case hD =>
    rintro W o ⟨ks, h, h2⟩ hl
    exact ⟨ks, h.putObj o hl, h2⟩
  case assign =>
    rintro ⟨ks, k, r, cnt⟩ W h1
    have H1 := Lib.hid h1
    clear h1
    dsimp only
    have hb5 : Below W.heap.size W (W.alloc (.cells #[.int .i64 k.1, .int .i64 k.2] 45)) := (Below.refl W.heap.size W).alloc (Nat.le_refl _) _
    have HG := Lib.hid (show KeepsFrom w3.heap.size W (W.alloc (.cells #[.int .i64 k.1, .int .i64 k.2] 45)) ∧ (W.alloc (.cells #[.int .i64 k.1, .int .i64 k.2] 45)).heap[W.heap.size]? = some (.cells #[.int .i64 k.1, .int .i64 k.2] 45 (0, 0)) ∧ KAt w3 p b n f (ks ++ [k]) ks r cnt (W.alloc (.cells #[.int .i64 k.1, .int .i64 k.2] 45)) from
      ⟨(keeps_below hb5).from _, heap_last W _, H1.out.1.below hb5, H1.out.2.1.below hb5, H1.out.2.2⟩)
    clear hb5 H1
    have hf : ∀ t : Array Value, (#[7].zip #[Value.agg #[.int .i64 k.1, .int .i64 k.2]]).foldl (fun t (p, v) => t.setIfInBounds p v) t = t.setIfInBounds 7 (.agg #[.int .i64 k.1, .int .i64 k.2]) := fun t => by simp
    rw [hf]
    simp only [List.setIfInBounds_toArray, List.set_cons_succ, List.set_cons_zero]
    clear hf
    refine wpIn_region_plain (wide_round _) (not_lets (fun a w h => h)) ?hnd ?_
    case hnd => rfl
    go_wp2_with fail
    exact ⟨HG.out.1, W.heap.size, rfl, HG.out.2⟩
  case body =>
    rintro ⟨ks, k, r, cnt⟩ a₁ W ⟨pX, rfl, hX, h1⟩
    have HX := Lib.hid hX
    have H1 := Lib.hid (show KAt w3 p b n f (ks ++ [k]) ks r cnt W from h1)
    clear hX h1
    dsimp only
    have HKL : Hid (ks.length ≤ 1000) := Lib.hid (by have h1 := H1.out.2.1.count; have := HLEN.out; rw [List.length_append] at h1; omega)
    obtain ⟨⟨ea, ec, hblk, how⟩, hsm⟩ := H1.out.1
    have bn : Below W.heap.size W (W.alloc (.cells #[.int .i64 k.1, .int .i64 k.2] 45)) := (Below.refl _ _).alloc (Nat.le_refl _) _
    obtain ⟨a', c', v9, hrun, ho9, hg9⟩ := run_app_nm (W.alloc (.cells #[.int .i64 k.1, .int .i64 k.2] 45)) w3.heap.size ea ks.length ec _ (own_below how bn) _ 1 1 _ (lit_rd W _ _) (fun u hu => by simp only [List.mem_cons, List.not_mem_nil, or_false] at hu; rcases hu with rfl | rfl <;> rfl) (by have := HKL.out; omega) (Nat.le_trans hsm.size bn.size)
    have hadd := NpAt.add (hsm.trans (Same.of_below bn)) (below_blk bn hblk) (own_below how bn) ho9 hg9
    have HK : Hid (KeepsFrom w3.heap.size W (v9.setCell ⟨p, 0, none⟩ (.slice a' (ks.length + 1) c'))) := Lib.hid (by
      refine KeepsOthers.from ⟨?_, fun k o hk ho => ?_⟩ _
      · exact Nat.le_trans bn.size (Nat.le_trans hg9.size (by simp [World.setCell]))
      · have hk1 := below_blk bn hk
        have hk2 := grown_blk hg9 hk1 (fun e => by have := own_cells (own_below how bn) e.symm hk1; rw [this] at ho; cases ho)
        exact grown_blk (setCell_grown v9 p 0 _) hk2 (fun e => by rw [Option.some.inj e, hadd.2] at hk2; cases hk2; cases ho))
    have RA : RangeF LN.val (v9.setCell ⟨p, 0, none⟩ (.slice a' (ks.length + 1) c')) b r n f (ks ++ [k]) cnt := by
      have h2 := H1.out.2.1.below bn
      have h3 : RangeF LN.val v9 b r n f (ks ++ [k]) cnt := h2.turn hg9 (fun q e => by
        rcases (own_below how bn).2 with ⟨h4, _⟩ | ⟨g, cap, cur, h4, _, h5, _⟩
        · rw [h4] at e; cases e
        · rw [h4] at e
          cases e
          exact ⟨_, h5, by simp, by simp⟩)
      exact h3.turn (setCell_grown v9 p 0 _) (fun q e => by cases e; exact ⟨_, hadd.2, by simp, by simp⟩)
    have HA := Lib.hid (show KAt w3 p b n f (ks ++ [k]) (ks ++ [k]) r cnt (v9.setCell ⟨p, 0, none⟩ (.slice a' (ks.length + 1) c')) from ⟨hadd.1, RA, H1.out.2.2⟩)
    have hcl := cell_of hblk 0 (.slice ea ks.length ec) rfl
    have hx0 := cell_of HX.out 0 (.int .i64 k.1) rfl
    have hx1 := cell_of HX.out 1 (.int .i64 k.2) rfl
    have hcl3 := cell_of hadd.2 0 (.slice ea ks.length ec) rfl
    have hfz := frozen_of hadd.2 0
    clear hadd how hsm bn ho9 hg9 hblk RA
    apply wpIn_block
    refine wpIn_region_plain (wide_round _) (not_lets (fun a w h => h)) ?hnd ?_
    case hnd => rfl
    go_wp2_with (first
      | (refine wpList_append_eq rfl _ _ _ rfl _ _ _ rfl rfl hrun ?_)
      | fail)
    exact ⟨HK.out, HA.out⟩
  case iter =>
    intro rec hlr hY
    have hbb := ((Below.refl w3.heap.size w3).alloc (Nat.le_refl _) (.deferred (some []))).alloc (by simp) (.loop (rec .ready none))
    exact keysIter2 3 w3 p pB b n f HB.out NE.out.1 HM.out NE.out.2 rec _ ⟨⟨none, 0, below_blk hbb P0.out, World.ownsRow_nil _ _ _ _⟩, Same.of_below hbb⟩ hlr hY
  case done =>
    rintro W ⟨ks, ⟨⟨a', c', hblk, how⟩, hsm⟩, hks⟩ hD0
    dsimp only
    have HD0 := Lib.hid hD0
    have HOW := Lib.hid how
    have HSM := Lib.hid hsm
    have HKS := Lib.hid hks
    have hcl := cell_of hblk 0 (.slice a' ks.length c') rfl
    clear hD0 how hsm hblk hks
    go_wp2_with fail
    have hb : Below w.heap.size w W := HSM.out.below B0.out B0.out.size (fun k hk => by have := hp.out; omega)
    have hbz : Below w.heap.size w (W.putObj w3.heap.size (.deferred none)) := hb.grown (grownBy_putObj' W _ _) hb.size (fun k e => by cases e; exact B0.out.size)
    have hoz := own_mono (ownsRow_putObj HOW.out (.deferred none) HD0.out rfl) B0.out.size
    refine ⟨by simp, .inl ⟨_, _, rfl, run_takeDeferred HD0.out, ?_⟩⟩
    exact ⟨.slice a' ks.length c', by kernel_rfl, ⟨a', c', ks, rfl, hoz, HKS.out⟩, hbz⟩

set_option maxHeartbeats 8000000 in
set_option maxRecDepth 100000 in
theorem collectNm2_any (pB b n : Nat) (f : Nm → Option LN) (w : World) (hpB : w.heap[pB]? = some (.cells #[.map (some b)] 106 (0, 0))) (hmap : MapF LN.val w b n f) (hn : n ≤ 1000) :
    Calls Tryz.prog 169 #[.func (.func 171) #[] #[.pointer (some ⟨pB, 0, none⟩)]] w fun e w' =>
      (∃ a' c' ks, e = .returned (.slice a' ks.length c') ∧ w'.ownsRow w.heap.size 45 2 (.slice a' ks.length c') ks.length (nmCells ks) ∧ AllIn f ks ∧ ks.Nodup ∧ (∀ k ∈ ks, (f k).isSome = true) ∧ ks.length ≤ n) ∧ Below w.heap.size w w' := by
  have HA := Lib.hid (appSeqNm2_any pB b n f w hpB hmap hn)
  clear hpB hmap hn
  go_enter Tryz.func169, Tryz.ntmps169
  go_wp2_with fail
  refine HA.out.mono ?_
  rintro e w1 ⟨⟨a', c', ks, rfl, h1⟩, h2⟩
  have H := Lib.hid (And.intro h1 h2)
  clear h1 h2
  go_wp2_with fail
  go_ret
  exact ⟨⟨a', c', ks, rfl, H.out.1⟩, H.out.2⟩
set_option maxHeartbeats 8000000 in
set_option maxRecDepth 100000 in
theorem sortedNm2_any (pB b n : Nat) (f : Nm → Option LN) (w : World) (hpB : w.heap[pB]? = some (.cells #[.map (some b)] 106 (0, 0))) (hmap : MapF LN.val w b n f) (hn : n ≤ 1000) :
    Calls Tryz.prog 118 #[.func (.func 171) #[] #[.pointer (some ⟨pB, 0, none⟩)], .func (.func 120) #[] #[]] w fun e w' => NamesRet f n w e w' ∧ Below w.heap.size w w' := by
  have HA := Lib.hid (collectNm2_any pB b n f w hpB hmap hn)
  have HN := Lib.hid hn
  clear hpB hmap hn
  go_enter Tryz.func118, Tryz.ntmps118
  go_wp2_with fail
  refine HA.out.mono ?_
  rintro e w1 ⟨⟨a', c', ks, rfl, h1, h2, h3, h4, h5⟩, hb⟩
  have HO := Lib.hid h1
  have HAL := Lib.hid h2
  have HND := Lib.hid h3
  have HIN := Lib.hid h4
  have HL := Lib.hid h5
  have HB := Lib.hid hb
  clear h1 h2 h3 h4 h5 hb
  go_wp2_with fail
  refine (sortName_all (V := Nm) ord_nm nmRow (fun _ => rfl) (fun x v hv => by simp only [nmRow, List.mem_cons, List.not_mem_nil, or_false] at hv; rcases hv with rfl | rfl <;> rfl) (fun x y => namesC x.1 x.2 y.1 y.2) (fun _ _ => rfl) 120 nmCmp2_fn nmCmp2 w.heap.size ks.length c' a' ks _ (by rw [← nmCells_eq]; exact HO.out) rfl (by have := HL.out; have := HN.out; omega)).mono ?_
  rintro e w10 ⟨rfl, zs, hz1, hz2, hz3, hz4⟩
  have Z1 := Lib.hid hz1
  have Z2 := Lib.hid hz2
  have Z3 := Lib.hid hz3
  have B2 := Lib.hid (hz4.below HB.out HB.out.size (fun k hk => (HO.out.lt k hk).1))
  clear hz1 hz2 hz3 hz4
  have ZL : Hid (zs.length = ks.length) := Lib.hid Z2.out.length_eq
  go_wp2_with fail
  go_ret
  exact ⟨⟨a', c', zs, by rw [ZL.out] <;> rfl, by rw [nmCells_eq, ZL.out]; exact Z1.out, fun k hk => Z2.out.symm.subset (HAL.out k hk), nm_strict (Z2.out.nodup_iff.2 HND.out) Z3.out, fun k hk => HIN.out k (Z2.out.subset hk), by rw [ZL.out]; exact HL.out⟩, B2.out⟩
theorem keys2_any (b : Nat) (W : World) : Calls Tryz.prog 119 #[.map (some b)] W fun e W' => e = .returned (.func (.func 171) #[] #[.pointer (some ⟨W.heap.size, 0, none⟩)]) ∧ W' = W.alloc (.cells #[.map (some b)] 106) := by
  have hmf : ∀ (fn : Fn) (first cap : Array Value) (w : World), (Instr.makeFunc fn first cap).run Tryz.prog w = .ok (.func fn first cap) w := fun _ _ _ _ => rfl
  go_enter Tryz.func119, Tryz.ntmps119
  go_wp2_with fail
  go_ret
  exact ⟨rfl, rfl⟩
end
end Go.Proofs.YtlnhppgfhkkidaaGreat
namespace Go.Proofs.YtlnhppgfhkkidaaGreat
set_option linter.unusedSimpArgs false
open Go.RowKit

theorem quiet_load_note {C : World → Prop} {w : World} {o : Oper} {a : Act} (x : Operand) (ho : o.op = .load 47 x) (p off : Nat) (hx : a.eval x = .pointer (some ⟨p, off, none⟩)) (n : NoteV) (sa : Option Addr) (sc : Nat)
    (h : w.rangeAt p off (n.cells sa sc)) : o.quietAt Tryz.prog a C w (.agg (noteA n sa sc)) := by
  unfold Oper.quietAt execOp
  simp only [ho, hx, Instr.loadAt, Instr.sureAddr, Sem.run_bind, Sem.run_pure, Result.andThen_ok, run_loadVar_mid w p off 47 (n.cells sa sc) _ h Tryz.underlying47 rfl (size43 n sa sc)]
  exact ⟨rfl, rfl⟩
theorem cell_same {W W' : World} {b : Nat} {es : Array MapEntry} {ck : Nat} (hs : Same (fun q => q = b) W W') (hb : W.heap[b]? = some (.map es ck)) {d : Addr} {v : Value} (h : W.cell? d = some v) : W'.cell? d = some v := by
  have hlt : d.block < W.heap.size := World.block_lt_of_cell? W _ h
  by_cases e : d.block = b
  · simp [World.cell?, e, hb] at h
  · rw [← h]
    simp only [World.cell?, hs.block d.block hlt e]
theorem RdEs.same {W W' : World} {b : Nat} {es : Array MapEntry} {ck : Nat} {a : Option Addr} {n c : Nat} {l : List EvV} (h : RdEs W a n c l) (hs : Same (fun q => q = b) W W') (hb : W.heap[b]? = some (.map es ck)) : RdEs W' a n c l := by
  refine ⟨h.1, h.2.1, h.2.2.1, h.2.2.2.imp id ?_⟩
  rintro ⟨b', off, rfl, h4⟩
  exact ⟨b', off, rfl, fun i x hx j v hv => cell_same hs hb (h4 i x hx j v hv)⟩
theorem RdA.same {W W' : World} {b k : Nat} {es : Array MapEntry} {ck : Nat} {a : Option Addr} {n c : Nat} {l : List Value} (h : RdA W k a n c l) (hs : Same (fun q => q = b) W W') (hb : W.heap[b]? = some (.map es ck)) : RdA W' k a n c l := by
  refine ⟨h.1, h.2.1, h.2.2.1, h.2.2.2.imp id ?_⟩
  rintro ⟨b', off, rfl, h4⟩
  exact ⟨b', off, rfl, fun i x hx => cell_same hs hb (h4 i x hx)⟩
end Go.Proofs.YtlnhppgfhkkidaaGreat
namespace Go.Proofs.YtlnhppgfhkkidaaGreat
set_option linter.unusedSimpArgs false
open Go.RowKit

def TAt (w : World) (b : Nat) (T : List Int) : Prop := w.heap[b]? = some (.cells (T.map intV).toArray 3 (0, 0))
theorem TAt.at {w : World} {b : Nat} {T : List Int} (h : TAt w b T) {i : Nat} {v : Int} (hv : T[i]? = some v) : w.cell? ⟨b, i, none⟩ = some (.int .i64 v) := cell_of h i _ (by simp [hv, intV])
theorem TAt.set {w : World} {b : Nat} {T : List Int} (h : TAt w b T) (i : Nat) (v : Int) : TAt (w.setCell ⟨b, i, none⟩ (.int .i64 v)) b (T.set i v) := by
  unfold TAt at *
  have hb := blk_lt h
  simp only [World.setCell, Array.getElem?_modify, h]
  simp [intV, List.map_set]
theorem TAt.free {w : World} {b : Nat} {T : List Int} (h : TAt w b T) (i : Nat) : w.frozen? ⟨b, i, none⟩ = false := by
  unfold TAt at h
  simp [World.frozen?, h]
theorem RdI.ne {S : Nat → Prop} {W W' : World} {a : Option Addr} {n c : Nat} {l : List Int} (h : RdI W a n c l) (hs : Same S W W') (hne : ∀ x off, a = some ⟨x, off, none⟩ → ¬ S x) : RdI W' a n c l := by
  refine ⟨h.1, h.2.1, h.2.2.1, h.2.2.2.imp id ?_⟩
  rintro ⟨b', off, rfl, h4⟩
  refine ⟨b', off, rfl, fun i x hx => ?_⟩
  have h5 := h4 i x hx
  rw [← h5]
  simp only [World.cell?, hs.block b' (World.block_lt_of_cell? W _ h5) (hne b' off rfl)]

end Go.Proofs.YtlnhppgfhkkidaaGreat
namespace Go.Proofs.YtlnhppgfhkkidaaGreat
set_option linter.unusedSimpArgs false
open Go.RowKit

theorem rdNm_at {W : World} {a : Option Addr} {n c : Nat} {l : List Nm} (h : RdA W 2 a n c (nmCells l)) (h0 : 0 < n) : ∃ b off, a = some ⟨b, off, none⟩ ∧ ∀ i x, l[i]? = some x → W.cell? ⟨b, off + i * 2, none⟩ = some (.int .i64 x.1) ∧ W.cell? ⟨b, off + i * 2 + 1, none⟩ = some (.int .i64 x.2) := by
  rcases h.2.2.2 with h5 | ⟨b, off, rfl, h4⟩
  · have := h.2.1; omega
  · refine ⟨b, off, rfl, fun i x hx => ?_⟩
    rw [nmCells_eq] at h4
    have hf := fun j hj => flat_at 2 (l.map nmRow) (by intro r hr; obtain ⟨y, _, rfl⟩ := List.mem_map.1 hr; rfl) i (nmRow x) (by rw [List.getElem?_map, hx]; rfl) j hj
    have h6 := h4 (i * 2 + 0) _ ((hf 0 (by omega)).trans rfl)
    have h7 := h4 (i * 2 + 1) _ ((hf 1 (by omega)).trans rfl)
    exact ⟨h6, by rwa [← Nat.add_assoc] at h7⟩
end Go.Proofs.YtlnhppgfhkkidaaGreat
namespace Go.Proofs.YtlnhppgfhkkidaaGreat
set_option linter.unusedSimpArgs false
open Go.RowKit

theorem lnCells_len (xs : List LN) : (lnCells xs).length = xs.length * 19 := by
  rw [lnCells, flat_len 19 _ (by intro r hr; obtain ⟨e, _, rfl⟩ := List.mem_map.1 hr; rfl), List.length_map]
theorem rdNs_of {W : World} {a : Option Addr} {n c : Nat} {xs : List LN} (h : RdA W 19 a n c (lnCells xs)) (hs : ∀ x ∈ xs, x.ok W) : RdNs W a n c (xs.map LN.n) := by
  have hl : xs.length = n := by have := h.len; rw [lnCells_len] at this; omega
  refine ⟨by rw [List.length_map, hl], h.2.1, h.2.2.1, ?_⟩
  rcases h.2.2.2 with h0 | ⟨b, off, rfl, h4⟩
  · exact .inl h0
  · rcases Nat.eq_zero_or_pos n with hn | hn
    · refine .inr ⟨b, off, rfl, fun i x hx => ?_⟩
      have : xs = [] := List.eq_nil_of_length_eq_zero (by omega)
      subst this
      simp at hx
    · obtain ⟨b', off', e, hat⟩ := ln_at h hn
      cases e
      refine .inr ⟨b, off, rfl, fun i x hx => ?_⟩
      rw [List.getElem?_map] at hx
      cases hy : xs[i]? with
      | none => simp [hy] at hx
      | some y =>
        simp only [hy, Option.map_some, Option.some.injEq] at hx
        subst hx
        exact ⟨y.sa, y.sc, hat i y hy, hs y (List.mem_of_getElem? hy)⟩
section
variable (s1 : Option Addr) (c1 : Nat) (s2 : Option Addr) (c2 : Nat) (s3 : Option Addr) (c3 : Nat)
end
end Go.Proofs.YtlnhppgfhkkidaaGreat
namespace Go.Proofs.YtlnhppgfhkkidaaGreat
set_option linter.unusedSimpArgs false
open Go.RowKit

def mergeE (f : FrV) (l m : List NoteV) : Int := if (checkSetP f l).1 = 0 ∧ (checkSetP f m).1 = 0 then (match forkAt l m with | some _ => 81 | none => 0) else 1
def MergeRet (f : FrV) (l m : List NoteV) (e : Ending) (W : World) : Prop :=
  ∃ (ua : Option Addr) (un uc : Nat) (u : List NoteV), e = .returned (.tuple #[.slice ua un uc, .int .i64 (mergeE f l m)]) ∧ RdNs W ua un uc u ∧ (mergeE f l m = 0 → IsU l m u) ∧ (mergeE f l m ≠ 0 → u = [])
theorem rdNs_nil (W : World) : RdNs W none 0 0 [] := ⟨rfl, Nat.le_refl _, Nat.zero_le _, .inl rfl⟩
theorem MergeRet.bad {f : FrV} {l m : List NoteV} {W : World} {e : Ending} (he : e = .returned (.tuple #[.slice none 0 0, .int .i64 (mergeE f l m)])) (h : mergeE f l m ≠ 0) : MergeRet f l m e W :=
  ⟨none, 0, 0, [], he, rdNs_nil W, fun h2 => absurd h2 h, fun _ => rfl⟩
structure MgAt (V W : World) (a : Option Addr) (c n : Nat) (ys : List LN) : Prop where
  bel : Below V.heap.size V W
  own : W.ownsRow V.heap.size 47 19 (.slice a n c) n (lnCells ys)
  str : EvOwn W V.heap.size ys
  len : ys.length = n
theorem MgAt.start (V : World) : MgAt V V none 0 0 [] := ⟨Below.refl _ _, World.ownsRow_nil _ _ _ _, (fun x hx => by cases hx), rfl⟩
theorem MgAt.below {V W W' : World} {a : Option Addr} {c n : Nat} {ys : List LN} (h : MgAt V W a c n ys) (hb : Below W.heap.size W W') : MgAt V W' a c n ys := ⟨h.bel.trans (hb.mono h.bel.size), own_below h.own hb, h.str.below hb, h.len⟩
theorem MgAt.add {V W W' : World} {a a' : Option Addr} {c c' n : Nat} {ys : List LN} {x : LN} (h : MgAt V W a c n ys) (hx : W.ownsRow V.heap.size 3 1 (.slice x.sa x.n.strokes.length x.sc) x.n.strokes.length (x.n.strokes.map intV))
    (ho : W'.ownsRow V.heap.size 47 19 (.slice a' (n + 1) c') (n + 1) (lnCells ys ++ x.n.cells x.sa x.sc)) (hg : (W.alloc (.cells (noteA x.n x.sa x.sc) 47)).grownBy W' (Value.ownBlock (.slice a n c))) : MgAt V W' a' c' (n + 1) (ys ++ [x]) := by
  have bn : Below W.heap.size W (W.alloc (.cells (noteA x.n x.sa x.sc) 47)) := (Below.refl _ _).alloc (Nat.le_refl _) _
  have h2 := h.below bn
  refine ⟨h2.bel.grown hg h2.bel.size (fun k hk => (h2.own.lt k hk).1), by rw [lnCells_snoc]; exact ho, fun y hy => ?_, by rw [List.length_append, h.len]; rfl⟩
  have h0 : (W.alloc (.cells (noteA x.n x.sa x.sc) 47)).ownsRow V.heap.size 3 1 (.slice y.sa y.n.strokes.length y.sc) y.n.strokes.length (y.n.strokes.map intV) := by
    rcases List.mem_append.1 hy with hy | hy
    · exact h2.str y hy
    · rw [List.mem_singleton.1 hy]; exact own_below hx bn
  exact h0.kept hg (own_apart h0 h2.own (by decide))
theorem MgAt.rd {V W : World} {a : Option Addr} {c n : Nat} {ys : List LN} (h : MgAt V W a c n ys) : RdNs W a n c (ys.map LN.n) := rdNs_of (RdA.of_own h.own) (fun y hy => RdA.of_own (h.str y hy))
end Go.Proofs.YtlnhppgfhkkidaaGreat
namespace Go.Proofs.YtlnhppgfhkkidaaGreat
set_option linter.unusedSimpArgs false
open Go.RowKit

theorem run_get1_nm {α : Type} {enc : α → Value} {f : Nm → Option α} {w : World} {b n : Nat} {t e : TypeId} (hmap : MapF enc w b n f) (ht : Tryz.prog.underlying t = some (.map 45 e)) {z : Value} (hz : (zeroValue e).run Tryz.prog w = .ok z w) (h m : Int) (hk : nmOk (h, m)) {y : α} (hy : f (h, m) = some y) :
    (Instr.lookup t (.map (some b)) (.agg #[.int .i64 h, .int .i64 m]) false).run Tryz.prog w = .ok (enc y) w := by
  obtain ⟨D, h1, h2⟩ := hmap
  obtain ⟨v, ps, h3, h4⟩ := h1.lookup nm_keyed ht hz (zd := .held z) (zp := []) rfl (keyOf_nm (h, m) hk)
  rw [h2.val (h, m) y hy] at h4
  simp only [heldR, Option.some.injEq, Prod.mk.injEq] at h4
  have h5 := h4.1
  simp only [DataW.held.injEq] at h5
  rw [← h5]
  exact h3
theorem wpList_len_nm {α : Type} {enc : α → Value} {f : Nm → Option α} {w : World} {ops : Array Oper} {rest : List Oper} {o : Oper} {a : Act} {Q : Exit → Act → World → Prop} (hg : o.guard = none) (m : Operand) (t e : TypeId) (hop : o.op = Op.call { callee := Callee.builtin Builtin.len, args := #[m], argTypes := #[t] }) (ht : Tryz.prog.underlying t = some (.map 45 e)) (b n : Nat)
    (hm : a.eval m = .map (some b)) (hmap : MapF enc w b n f) (hK : ∀ k : Nat, k ≤ n → wpList Tryz.prog ops Q rest (a.put o.dst (.int .i64 (k : Int))) w) : wpList Tryz.prog ops Q (o :: rest) a w := by
  obtain ⟨D, h1, h2⟩ := hmap
  exact wpList_len_own w hg m t hop 45 e ht heldR b n D hm h1 (hK _ h1.size_le)
def mrgF (f g : Nm → Option LN) (ks : List Nm) : Nm → Option LN := fun k => if k ∈ ks then g k else f k
theorem mrgF_snoc {f g : Nm → Option LN} {ks : List Nm} {k : Nm} {y : LN} (h : g k = some y) : mrgF f g (ks ++ [k]) = updF (mrgF f g ks) k y := by
  funext a
  unfold mrgF updF
  by_cases e : a = k
  · subst e; simp [h]
  · simp [e]
structure CpAt (w wr : World) (bd bs r nd n : Nat) (f g : Nm → Option LN) (kr ks : List Nm) (cnt : Nat) : Prop where
  rng : RangeF LN.val wr bs r n g kr cnt
  dst : MapF LN.val wr bd (nd + ks.length) (mrgF f g ks)
  same : Same (fun k => k = bd) w wr
  r_ge : w.heap.size ≤ r
  all : ∀ k ∈ ks, (g k).isSome = true
  bd_lt : bd < w.heap.size
  ne : bd ≠ bs
section
variable {w wr W' : World} {bd bs r nd n : Nat} {f g : Nm → Option LN} {kr ks : List Nm} {cnt : Nat}
theorem CpAt.below (h : CpAt w wr bd bs r nd n f g kr ks cnt) (hb : Below wr.heap.size wr W') : CpAt w W' bd bs r nd n f g kr ks cnt :=
  ⟨h.rng.below hb, h.dst.below hb, h.same.trans (Same.of_below hb), h.r_ge, h.all, h.bd_lt, h.ne⟩
theorem CpAt.came (h : CpAt w wr bd bs r nd n f g kr ks cnt) {kh km : Int} {y : LN} {cnt' : Nat} (hN : NextF LN.val wr bs r n cnt g kr kh km y W' cnt') : CpAt w W' bd bs r nd n f g (kr ++ [(kh, km)]) ks cnt' :=
  ⟨hN.range, h.dst.kept hN.grown (fun e => by have h1 := h.r_ge; have h2 := h.bd_lt; have := Option.some.inj e; omega), h.same.reg (Same.of_grown hN.grown (fun k e => by cases e; exact .inr h.r_ge)), h.r_ge, h.all, h.bd_lt, h.ne⟩
theorem CpAt.put {k : Nm} {y : LN} (h : CpAt w wr bd bs r nd n f g (ks ++ [k]) ks cnt) (hk : g k = some y) (hm : MapF LN.val W' bd (nd + ks.length + 1) (updF (mrgF f g ks) k y)) (ht : wr.mapTurned W' bd) : CpAt w W' bd bs r nd n f g (ks ++ [k]) (ks ++ [k]) cnt := by
  have h1 := h.r_ge
  have h2 := h.bd_lt
  refine ⟨h.rng.of_blocks (ht.grown.block _ h.rng.map.lt (fun e => h.ne (Option.some.inj e).symm)) (ht.grown.block _ h.rng.lt (fun e => by have := Option.some.inj e; omega)), ?_, h.same.reg (Same.of_grown ht.grown (fun k e => by cases e; exact .inl rfl)), h.r_ge, fun a ha => ?_, h.bd_lt, h.ne⟩
  · rw [mrgF_snoc hk, List.length_append]
    exact hm
  · rcases List.mem_append.1 ha with ha | ha
    · exact h.all a ha
    · rw [List.mem_singleton.1 ha, hk]; rfl
end
structure SetAt (w W : World) (l : List NoteV) (b : Nat) (xs : List LN) : Prop where
  eq : xs.map LN.n = l
  ok : ∀ x ∈ xs, x.ok W
  map : MapF LN.val W b l.length (setF xs)
  ge : w.heap.size ≤ b
theorem SetAt.below {w W W' : World} {l : List NoteV} {b : Nat} {xs : List LN} (h : SetAt w W l b xs) (hb : Below W.heap.size W W') : SetAt w W' l b xs := ⟨h.eq, fun x hx => (h.ok x hx).below hb, h.map.below hb, h.ge⟩
end Go.Proofs.YtlnhppgfhkkidaaGreat
namespace Go.Proofs.YtlnhppgfhkkidaaGreat
set_option linter.unusedSimpArgs false
open Go.RowKit

theorem nmCells_at {W : World} {a : Option Addr} {n c : Nat} {l : List Nm} (h : RdA W 2 a n c (nmCells l)) {q : Nat} {k : Nm} (hk : l[q]? = some k) : ∃ b off, a = some ⟨b, off, none⟩ ∧ W.cell? ⟨b, off + q * 2, none⟩ = some (.int .i64 k.1) ∧ W.cell? ⟨b, off + q * 2 + 1, none⟩ = some (.int .i64 k.2) := by
  have hl : l.length = n := by have := h.len; rw [nmCells_len] at this; omega
  have hq := (List.getElem?_eq_some_iff.1 hk).1
  obtain ⟨b, off, rfl, hat⟩ := rdNm_at h (by omega)
  exact ⟨b, off, rfl, hat q k hk⟩
end Go.Proofs.YtlnhppgfhkkidaaGreat
namespace Go.Proofs.YtlnhppgfhkkidaaGreat
set_option linter.unusedSimpArgs false
open Go.RowKit

def evC (e : EvV) : Nm × NoteV := (e.nm, e.x.n)
end Go.Proofs.YtlnhppgfhkkidaaGreat
namespace Go.Proofs.YtlnhppgfhkkidaaGreat
set_option linter.unusedSimpArgs false
open Go.RowKit

abbrev RegT := List NoteV × List NoteV × List Nm
def regV (f : FrV) (l m : List NoteV) (day : Int) : RegT := if (checkSetP f l).1 = 0 then ((regN day m).hs, (regN day m).es, csN day m) else ([], [], [])
def errV (f : FrV) (l : List NoteV) : Int := if (checkSetP f l).1 = 0 then 0 else 1
def evP (n : NoteV) : Nm × NoteV := (nmOf n, n)
def RegOut (W : World) (v : Value) (T : RegT) : Prop :=
  ∃ (ha : Option Addr) (hn hc : Nat) (ea : Option Addr) (en ec : Nat) (ca : Option Addr) (cn cc : Nat) (hs es : List EvV), v = .agg #[.slice ha hn hc, .slice ea en ec, .slice ca cn cc] ∧
    RdEs W ha hn hc hs ∧ RdEs W ea en ec es ∧ RdA W 2 ca cn cc (nmCells T.2.2) ∧ (∀ e ∈ hs ++ es, e.x.ok W) ∧ hs.map evC = T.1.map evP ∧ es.map evC = T.2.1.map evP
theorem RegOut.below {W W' : World} {v : Value} {T : RegT} (h : RegOut W v T) (hb : Below W.heap.size W W') : RegOut W' v T := by
  obtain ⟨ha, hn, hc, ea, en, ec, ca, cn, cc, hs, es, rfl, h1, h2, h3, h4, h5, h6⟩ := h
  exact ⟨ha, hn, hc, ea, en, ec, ca, cn, cc, hs, es, rfl, h1.below hb, h2.below hb, h3.below hb, fun e he => (h4 e he).below hb, h5, h6⟩
theorem evC_notes {es : List EvV} {N : List NoteV} (h : es.map (fun e => e.x.n) = N) (hn : ∀ e ∈ es, e.nm = nmOf e.x.n) : es.map evC = N.map evP := by
  subst h
  rw [List.map_map]
  refine List.map_congr_left fun e he => ?_
  unfold evC evP
  rw [hn e he]; rfl
theorem RegOut.empty (W : World) : RegOut W (.agg #[.slice none 0 0, .slice none 0 0, .slice none 0 0]) ([], [], []) :=
  ⟨none, 0, 0, none, 0, 0, none, 0, 0, [], [], rfl, ⟨rfl, Nat.le_refl _, Nat.zero_le _, .inl rfl⟩, ⟨rfl, Nat.le_refl _, Nat.zero_le _, .inl rfl⟩, RdA.nil _ _, fun e he => by simp at he, rfl, rfl⟩
theorem asEnd_out {l : List NoteV} {day : Int} {w w' : World} {e : Ending} (h : AsEnd l day w e w') (hp : l.Pairwise (fun x y => nmLt (nmOf x) (nmOf y) = true)) :
    ∃ v, e = .returned (.tuple #[v, .int .i64 0]) ∧ RegOut w' v ((regN day l).hs, (regN day l).es, csN day l) := by
  obtain ⟨v, R, rfl, ⟨ha, hc, ea, ec, ca, cc, rfl, o1, o2, o3, o4⟩, q1, q2, q3, q4⟩ := asEnd_reg h hp
  refine ⟨_, rfl, ha, _, hc, ea, _, ec, ca, _, cc, R.hs, R.es, rfl, RdEs.of_own o1, RdEs.of_own o2, ?_, fun e he => RdA.of_own (o4 e he), evC_notes q1 (fun e he => q4 e (List.mem_append_left _ he)), evC_notes q2 (fun e he => q4 e (List.mem_append_right _ he))⟩
  have := RdA.of_own o3
  rw [q3] at this ⊢
  exact this
theorem fold_out (f : FrV) (a : Option Addr) (n c : Nat) (l : List NoteV) (w : World) (hr : RdNs w a n c l) (hok : ∀ x ∈ l, x.Ok) :
    Calls Tryz.prog 34 #[f.val, .slice a n c] w fun e w' => ∃ v, e = .returned (.tuple #[v, .int .i64 (errV f l)]) ∧ RegOut w' v (regV f l l 99999) ∧ Below w.heap.size w w' := by
  refine (fold_any f a n c l w hr hok).mono ?_
  rintro e w' ⟨⟨h0, rfl⟩ | ⟨h0, h1⟩, hb⟩
  · exact ⟨_, by rw [errV, if_neg h0], by rw [regV, if_neg h0]; exact RegOut.empty w', hb⟩
  · obtain ⟨v, rfl, h2⟩ := asEnd_out h1 (set_ok h0).2.2.2
    exact ⟨v, by rw [errV, if_pos h0], by rw [regV, if_pos h0]; exact h2, hb⟩
structure NlAt (V W : World) (a : Option Addr) (c n : Nat) (ys : List LN) : Prop where
  bel : Below V.heap.size V W
  own : W.ownsRow V.heap.size 47 19 (.slice a n c) n (lnCells ys)
theorem NlAt.start (V : World) : NlAt V V none 0 0 [] := ⟨Below.refl _ _, World.ownsRow_nil _ _ _ _⟩
theorem NlAt.below {V W W' : World} {a : Option Addr} {c n : Nat} {ys : List LN} (h : NlAt V W a c n ys) (hb : Below W.heap.size W W') : NlAt V W' a c n ys := ⟨h.bel.trans (hb.mono h.bel.size), own_below h.own hb⟩
theorem NlAt.add {V W W' : World} {a a' : Option Addr} {c c' n : Nat} {ys : List LN} {x : LN} (h : NlAt V W a c n ys) (ho : W'.ownsRow V.heap.size 47 19 (.slice a' (n + 1) c') (n + 1) (lnCells ys ++ x.n.cells x.sa x.sc)) (hg : (W.alloc (.cells (noteA x.n x.sa x.sc) 47)).grownBy W' (Value.ownBlock (.slice a n c))) : NlAt V W' a' c' (n + 1) (ys ++ [x]) := by
  have bn : Below W.heap.size W (W.alloc (.cells (noteA x.n x.sa x.sc) 47)) := (Below.refl _ _).alloc (Nat.le_refl _) _
  have h2 := h.below bn
  exact ⟨h2.bel.grown hg h2.bel.size (fun k hk => (h2.own.lt k hk).1), by rw [lnCells_snoc]; exact ho⟩
theorem wpList_build_note {ops : Array Oper} {rest : List Oper} {op : Oper} {a : Act} {w : World} {Q : Exit → Act → World → Prop} (hgd : op.guard = none) (x : Operand) (ho : op.op = .buildSlice 24 1 #[(0, x)]) (n : NoteV) (sa : Option Addr) (sc : Nat) (hx : a.eval x = .agg (noteA n sa sc))
    (h : wpList Tryz.prog ops Q rest (a.put op.dst (.slice (some ⟨w.heap.size, 0, none⟩) 1 1)) (w.alloc (.cells (noteA n sa sc) 47))) : wpList Tryz.prog ops Q (op :: rest) a w :=
  wpList_plain hgd fun _ hK => oper_build_note x ho n sa sc hx (hK _ _ h)
theorem ls_ok {W : World} {a : Option Addr} {n c : Nat} {xs : List LN} (h : RdLs W a n c xs) {x : LN} (hx : x ∈ xs) : x.ok W := by
  have h0 : 0 < n := by have := List.length_pos_of_mem hx; have := h.1; omega
  obtain ⟨b, off, rfl, hat⟩ := h.at h0
  obtain ⟨i, hi⟩ := List.getElem?_of_mem hx
  exact (hat i x hi).2
theorem rdA_ls {W : World} {a : Option Addr} {n c : Nat} {xs : List LN} (h : RdLs W a n c xs) : RdA W 19 a n c (lnCells xs) := by
  obtain ⟨h1, h2, h3, h4⟩ := h
  refine ⟨by rw [lnCells_len, h1], h2, h3, h4.imp id ?_⟩
  rintro ⟨b, off, rfl, hat⟩
  refine ⟨b, off, rfl, fun j v hv => ?_⟩
  have hl := (List.getElem?_eq_some_iff.1 hv).1
  rw [lnCells_len] at hl
  obtain ⟨x, hx⟩ : ∃ x, xs[j / 19]? = some x := ⟨_, List.getElem?_eq_getElem (by omega)⟩
  have h5 := flat_at 19 (xs.map fun x => x.n.cells x.sa x.sc) (by intro r hr; obtain ⟨y, _, rfl⟩ := List.mem_map.1 hr; rfl) (j / 19) (x.n.cells x.sa x.sc) (by rw [List.getElem?_map, hx]; rfl) (j % 19) (by omega)
  have h6 := (hat (j / 19) x hx).1 (j % 19) v (by rw [← h5, show j / 19 * 19 + j % 19 = j by omega]; exact hv)
  rwa [show off + j / 19 * 19 + j % 19 = off + j by omega] at h6
end Go.Proofs.YtlnhppgfhkkidaaGreat
namespace Go.Proofs.YtlnhppgfhkkidaaGreat
set_option linter.unusedSimpArgs false
open Go.RowKit

theorem MgAt.mono {V V' W : World} {a : Option Addr} {c n : Nat} {ys : List LN} (h : MgAt V W a c n ys) (hb : Below V'.heap.size V' V) : MgAt V' W a c n ys :=
  ⟨hb.trans (h.bel.mono hb.size), own_mono h.own hb.size, fun x hx => own_mono (h.str x hx) hb.size, h.len⟩
def GOk (G : Nm → Option LN) (w : World) : Prop := ∀ k x, G k = some x → x.ok w ∧ nmOk k ∧ x.n.strokes.length ≤ 1000000000
theorem GOk.below {G : Nm → Option LN} {w w' : World} (h : GOk G w) (hb : Below w.heap.size w w') : GOk G w' := fun k x hx => ⟨(h k x hx).1.below hb, (h k x hx).2⟩
def ListRet (G : Nm → Option LN) (n : Nat) (w : World) (e : Ending) (W : World) : Prop :=
  ∃ (a : Option Addr) (un c : Nat) (zs : List LN) (ks : List Nm), e = .returned (.slice a un c) ∧ MgAt w W a c un zs ∧ zs.map LN.n = (ks.filterMap G).map LN.n ∧ AllIn G ks ∧ ks.Pairwise (fun x y => nmLt x y = true) ∧ (∀ k ∈ ks, (G k).isSome = true) ∧ un ≤ n
set_option maxHeartbeats 16000000 in
set_option maxRecDepth 100000 in
theorem list_any (b n : Nat) (G : Nm → Option LN) (w : World) (hm : MapF LN.val w b n G) (hn : n ≤ 1000) (hG : GOk G w) :
    Calls Tryz.prog 61 #[.map (some b)] w fun e w' => ListRet G n w e w' ∧ Below w.heap.size w w' := by
  have J2 : (Tryz.prog.info? 45).map (·.size) = some 2 := by kernel_rfl
  have M0 := Lib.hid hm
  have HN := Lib.hid hn
  have HG0 := Lib.hid hG
  clear hm hn hG
  go_enter Tryz.func61, Tryz.ntmps61
  go_wp2_with fail
  refine (keys2_any b w).mono ?_
  rintro e w1 ⟨rfl, rfl⟩
  have B1 := Lib.hid ((Below.refl w.heap.size w).alloc (Nat.le_refl _) (.cells #[.map (some b)] 106))
  have P1 := Lib.hid (heap_last w (.cells #[.map (some b)] 106))
  have M1 := Lib.hid (M0.out.below B1.out)
  obtain ⟨pB, hpB⟩ : ∃ p, Hid (w.heap.size = p) := ⟨_, Lib.hid rfl⟩
  rw [hpB.out] at P1
  rw [hpB.out]
  generalize w.alloc (.cells #[.map (some b)] 106) = w1 at *
  go_wp2_with fail
  refine (sortedNm2_any pB b n G w1 P1.out M1.out HN.out).mono ?_
  rintro e W5 ⟨⟨na, nc, ks, rfl, h1, h2, h3, h4, h5⟩, b5⟩
  have RN := Lib.hid (RdA.of_own h1)
  have HAL := Lib.hid h2
  have HSO := Lib.hid h3
  have HIN := Lib.hid h4
  have HKN := Lib.hid h5
  have B5 := Lib.hid (B1.out.trans (b5.mono B1.out.size))
  have M5 := Lib.hid (M1.out.below b5)
  have HX5 := Lib.hid (HG0.out.below B5.out)
  obtain ⟨kn, hkn⟩ : ∃ kn, Hid (ks.length = kn) := ⟨_, Lib.hid rfl⟩
  rw [hkn.out] at RN HKN ⊢
  clear b5 h1 h2 h3 h4 h5 P1 M1 B1
  have H63 : Hid ((kn : Int) ≤ 9223372036854775807) := Lib.hid (by have := HKN.out; have := HN.out; omega)
  go_wp2_with fail
  go_loopw [3, 10] (fun ov iv wr => ∃ (q : Nat) (oa : Option Addr) (on oc : Nat) (zs : List LN), ov = .slice oa on oc ∧ iv = .int .i64 (q : Int) ∧ q ≤ kn ∧ Hid (MgAt W5 wr oa oc on zs) ∧ Hid (zs.map LN.n = ((ks.take q).filterMap G).map LN.n) ∧ on ≤ q) (fun _ iv _ => kn - (intOf iv).toNat)
  case atStart => exact ⟨0, none, 0, 0, [], rfl, rfl, Nat.zero_le _, Lib.hid (MgAt.start _), Lib.hid rfl, Nat.le_refl _⟩
  case round =>
    obtain ⟨q, oa, on, oc, zs, rfl, rfl, hq, MA, HZ, hon⟩ := hrel
    by_cases hlt : q < kn
    · have t0 : decide ((q : Int) < (kn : Int)) = true := by simp; omega
      obtain ⟨k, Hk⟩ : ∃ k, ks[q]? = some k := ⟨_, List.getElem?_eq_getElem (by rw [hkn.out]; exact hlt)⟩
      obtain ⟨y, hy⟩ := Option.isSome_iff_exists.1 (HIN.out k (List.mem_of_getElem? Hk))
      have GY := Lib.hid hy
      have HY := Lib.hid (HX5.out k y hy)
      have HZ2 : Hid (((ks.take (q + 1)).filterMap G).map LN.n = zs.map LN.n ++ [y.n]) := Lib.hid (by
        rw [take_snoc Hk, List.filterMap_append, List.map_append, ← HZ.out, List.filterMap_cons_some hy]; rfl)
      obtain ⟨kb, koff, rfl, hk1, hk2⟩ := nmCells_at (RN.out.below MA.out.bel) Hk
      obtain ⟨o, ho⟩ : ∃ o, Hid (koff + q * 2 = o) := ⟨_, Lib.hid rfl⟩
      rw [ho.out] at hk1 hk2
      have hix := fun W => idx_off (W := W) (c := nc) (b := kb) Tryz.underlying75 J2 hlt ho.out
      have HK64 : Hid ((q : Int) + 1 ≤ 9223372036854775807) := Lib.hid (by have := HKN.out; have := HN.out; omega)
      obtain ⟨kh, km⟩ := k
      dsimp only at hk1 hk2
      clear Hk hy
      go_upto_region 5 with fail
      clear t0 hix hk1 hk2
      have bt : Below wr.heap.size wr (wr.alloc (.cells #[.int .i64 kh, .int .i64 km] 45)) := (Below.refl _ _).alloc (Nat.le_refl _) _
      have P7 := Lib.hid (heap_last wr (.cells #[.int .i64 kh, .int .i64 km] 45))
      have MA2 := Lib.hid (MA.out.below bt)
      obtain ⟨p7, hp7⟩ : ∃ p, Hid (wr.heap.size = p) := ⟨_, Lib.hid rfl⟩
      rw [hp7.out] at P7 ⊢
      generalize wr.alloc (.cells #[.int .i64 kh, .int .i64 km] 45) = wt at *
      clear bt MA
      have n0 := cell_of P7.out 0 (.int .i64 kh) rfl
      have n1 := cell_of P7.out 1 (.int .i64 km) rfl
      have hget : (Instr.lookup 106 (.map (some b)) (.agg #[.int .i64 kh, .int .i64 km]) false).run Tryz.prog wt = .ok (.agg (noteA y.n y.sa y.sc)) wt := run_get1_nm (t := 106) (M5.out.below MA2.out.bel) Tryz.underlying106 (zero_note wt) kh km HY.out.2.1 GY.out
      go_wp2_with fail
      refine (copied2_any y.n y.sa y.sc wt (HY.out.1.below MA2.out.bel) HY.out.2.2).mono ?_
      rintro e w5 ⟨ta, tc, rfl, hown, b5⟩
      have MA5 := Lib.hid (MA2.out.below b5)
      have HO5 := Lib.hid (own_mono hown MA2.out.bel.size)
      have bn : Below w5.heap.size w5 (w5.alloc (.cells (noteA y.n ta tc) 47)) := (Below.refl _ _).alloc (Nat.le_refl _) _
      obtain ⟨a', c', v9, hrun, ho9, hg9⟩ := run_app_nt (w5.alloc (.cells (noteA y.n ta tc) 47)) W5.heap.size oa on oc _ (own_below MA5.out.own bn) _ 1 1 _ (lit_note w5 y.n ta tc) (y.n.cells_one _ _) (by have := HKN.out; have := HN.out; omega) (Nat.le_trans MA5.out.bel.size bn.size)
      have MA9 := Lib.hid (MA5.out.add (x := ⟨y.n, ta, tc⟩) HO5.out ho9 hg9)
      have HZ9 : Hid ((zs ++ [(⟨y.n, ta, tc⟩ : LN)]).map LN.n = ((ks.take (q + 1)).filterMap G).map LN.n) := Lib.hid (by rw [HZ2.out, List.map_append]; rfl)
      clear hown b5 bn ho9 hg9 MA5 HO5 n0 n1 hget MA2
      have hk64 := HK64.out
      go_wp2_with (first
        | (refine wpList_build_note rfl _ rfl y.n ta tc rfl ?_)
        | (refine wpList_append_eq rfl _ _ _ rfl _ _ _ rfl rfl hrun ?_)
        | fail)
      go_roundw
      case rel => exact ⟨q + 1, a', on + 1, c', zs ++ [⟨y.n, ta, tc⟩], by go_num, by go_num, by omega, MA9, HZ9, by omega⟩
      case measure => simp [intOf]; omega
    · have t0 : decide ((q : Int) < (kn : Int)) = false := by simp; omega
      have UZ : Hid (zs.map LN.n = (ks.filterMap G).map LN.n) := Lib.hid (by rw [HZ.out, List.take_of_length_le (by rw [hkn.out]; omega)])
      have ON : Hid (on ≤ n) := Lib.hid (by have := HKN.out; omega)
      go_wp2_with fail
      go_returns
      exact ⟨⟨oa, on, oc, zs, ks, rfl, MA.out.mono B5.out, UZ.out, HAL.out, HSO.out, HIN.out, ON.out⟩, B5.out.trans (MA.out.bel.mono B5.out.size)⟩
end Go.Proofs.YtlnhppgfhkkidaaGreat
namespace Go.Proofs.YtlnhppgfhkkidaaGreat
set_option linter.unusedSimpArgs false
open Go.RowKit

structure HouV where
  f : FrV
  id : Int
  l : List NoteV
  c : Int → Nat
  ad : List NoteV
  sb : List UInt8
  fb : List UInt8
  sd : Nat
  fd : Nat
def HouV.new (f : FrV) (id : Int) : HouV := ⟨f, id, [], fun _ => 0, [], [], [], 0, 0⟩
def HouV.add (S : HouV) (n : NoteV) : HouV := { S with l := insN S.l n, c := bump S.c n.house, ad := S.ad ++ [n], sb := S.sb ++ stockOf (encN n), fb := S.fb ++ foilOf (encN n) }
def houA (f : FrV) (id : Int) (mb : Nat) (c : Int → Nat) (sp : Nat) : Array Value :=
  #[.int .i64 f.rings, .int .i64 f.sectors, .int .i64 f.wide, .int .i64 id, .map (some mb), .int .i64 (c 0 : Int), .int .i64 (c 1 : Int), .int .i64 (c 2 : Int), .int .i64 (c 3 : Int), .int .i64 (c 4 : Int), .int .i64 (c 5 : Int), .int .i64 (c 6 : Int), .int .i64 (c 7 : Int), .int .i64 (c 8 : Int), .pointer (some ⟨sp, 0, none⟩)]
theorem houA_cnt (f : FrV) (id : Int) (mb : Nat) (c : Int → Nat) (sp k : Nat) (hk : k ≤ 8) : (houA f id mb c sp)[5 + k]? = some (.int .i64 (c (k : Int) : Int)) := by
  have : k = 0 ∨ k = 1 ∨ k = 2 ∨ k = 3 ∨ k = 4 ∨ k = 5 ∨ k = 6 ∨ k = 7 ∨ k = 8 := by omega
  rcases this with rfl | rfl | rfl | rfl | rfl | rfl | rfl | rfl | rfl <;> rfl
theorem houA_set (f : FrV) (id : Int) (mb : Nat) (c : Int → Nat) (sp k : Nat) (hk : k ≤ 8) : (houA f id mb c sp).setIfInBounds (5 + k) (.int .i64 ((c (k : Int) : Int) + 1)) = houA f id mb (bump c (k : Int)) sp := by
  have : k = 0 ∨ k = 1 ∨ k = 2 ∨ k = 3 ∨ k = 4 ∨ k = 5 ∨ k = 6 ∨ k = 7 ∨ k = 8 := by omega
  rcases this with rfl | rfl | rfl | rfl | rfl | rfl | rfl | rfl | rfl <;> simp [houA, bump]
structure HInv (S : HouV) : Prop where
  v : S.f.valid = true
  id : 1 ≤ S.id ∧ S.id ≤ 8
  srt : S.l.Pairwise ltN
  frm : ∀ x ∈ S.l, formedB S.f x = true
  ok : ∀ x ∈ S.l, x.Ok
  nms : NmsOk S.l S.c
  len : S.ad.length = S.l.length
  sbl : S.sb.length ≤ 2200 * S.ad.length
  fbl : S.fb.length = 4 * S.ad.length
theorem formed_house {f : FrV} {x : NoteV} (h : formedB f x = true) : 1 ≤ x.house ∧ x.house ≤ 8 ∧ 1 ≤ x.num := by
  simp only [formedB, Bool.and_eq_true, rightNameB, inB_true] at h
  omega
theorem formed_enc {f : FrV} {x : NoteV} (hv : f.valid = true) (h : formedB f x = true) : (encN x).length ≤ 2190 := by
  have h1 := encN_len x (formed_small hv h)
  have h2 := formed_len hv h
  omega
theorem HInv.new {f : FrV} {id : Int} (hv : f.valid = true) (h : 1 ≤ id ∧ id ≤ 8) : HInv (HouV.new f id) :=
  ⟨hv, h, List.Pairwise.nil, (fun x hx => by cases hx), (fun x hx => by cases hx), (fun a k => by simp [HouV.new]; omega), rfl, Nat.zero_le _, rfl⟩
theorem HInv.add {S : HouV} {n : NoteV} (h : HInv S) (hf : formedB S.f n = true) (hok : n.Ok) (hk : n.num = (S.c n.house : Int) + 1) : HInv (S.add n) ∧ ∀ y ∈ S.l, nmOf y ≠ nmOf n := by
  have hfree : ∀ y ∈ S.l, nmOf y ≠ nmOf n := fun y hy e => by
    have h5 := h.nms.le hy
    have h6 : y.house = n.house ∧ y.num = n.num := by simpa [nmOf] using e
    rw [h6.1, h6.2] at h5
    omega
  refine ⟨⟨h.v, h.id, insN_sorted h.srt hfree, fun x hx => ?_, fun x hx => ?_, (h.nms.add hk).perm fun x => ?_, ?_, ?_, ?_⟩, hfree⟩
  · rcases insN_mem.1 hx with hx | rfl
    · exact h.frm x hx
    · exact hf
  · rcases insN_mem.1 hx with hx | rfl
    · exact h.ok x hx
    · exact hok
  · rw [List.mem_append, List.mem_singleton]
    exact insN_mem
  · show (S.ad ++ [n]).length = (insN S.l n).length
    rw [insN, (insG_perm _ n S.l).length_eq, List.length_append, List.length_cons, h.len]
    rfl
  · show (S.sb ++ stockOf (encN n)).length ≤ 2200 * (S.ad ++ [n]).length
    have := h.sbl
    have := formed_enc h.v hf
    rw [List.length_append, List.length_append, stockOf_len, List.length_singleton]
    omega
  · show (S.fb ++ foilOf (encN n)).length = 4 * (S.ad ++ [n]).length
    have := h.fbl
    rw [List.length_append, List.length_append, foilOf_len, List.length_singleton]
    omega
def houF (p mb : Nat) (G : Nm → Option LN) (SF : Nat → Prop) : Nat → Prop := fun b => b = p ∨ b = mb ∨ SF b ∨ ∃ k x, G k = some x ∧ Value.ownBlock (.slice x.sa x.n.strokes.length x.sc) = some b
structure HouAt (w : World) (p mb sp : Nat) (G : Nm → Option LN) (SF : Nat → Prop) (S : HouV) : Prop where
  blk : w.heap[p]? = some (.cells (houA S.f S.id mb S.c sp) 109 (0, 0))
  map : MapF LN.val w mb S.l.length G
  gs : ∀ k x, G k = some x → x.n ∈ S.l ∧ x.nm = k
  gl : ∀ n ∈ S.l, ∃ x, G (nmOf n) = some x ∧ x.n = n
  str : ∀ k x, G k = some x → w.ownsRow 0 3 1 (.slice x.sa x.n.strokes.length x.sc) x.n.strokes.length (x.n.strokes.map intV)
  stk : Stk w sp SF S.sb S.fb S.sd S.fd
section
variable {w w' : World} {p mb sp : Nat} {G : Nm → Option LN} {SF : Nat → Prop} {S : HouV}
theorem HouAt.same {X : Nat → Prop} (h : HouAt w p mb sp G SF S) (hs : Same X w w') (hd : ∀ k, X k → ¬ houF p mb G SF k) : HouAt w' p mb sp G SF S :=
  ⟨(hs.block p (blk_lt h.blk) (fun hX => hd p hX (.inl rfl))).trans h.blk, h.map.of_block (hs.block mb h.map.lt (fun hX => hd mb hX (.inr (.inl rfl)))), h.gs, h.gl,
    fun k x hk => own_keep (h.str k x hk) hs (fun b hb hX => hd b hX (.inr (.inr (.inr ⟨k, x, hk, hb⟩)))), h.stk.same hs (fun k hX hF => hd k hX (.inr (.inr (.inl hF))))⟩
theorem HouAt.below (h : HouAt w p mb sp G SF S) (hb : Below w.heap.size w w') : HouAt w' p mb sp G SF S := h.same (X := fun _ => False) (Same.of_below hb) (fun _ h => h.elim)
theorem HouAt.gok (h : HouAt w p mb sp G SF S) (hi : HInv S) : GOk G w := fun k x hk => by
  obtain ⟨h1, h2⟩ := h.gs k x hk
  subst h2
  exact ⟨RdA.of_own (h.str _ x hk), ⟨(hi.ok _ h1).house, (hi.ok _ h1).num⟩, Nat.le_trans (formed_len hi.v (hi.frm _ h1)) (by decide)⟩
theorem HouAt.lt (h : HouAt w p mb sp G SF S) : ∀ k, houF p mb G SF k → k < w.heap.size := by
  rintro k (rfl | rfl | hk | ⟨a, x, h1, h2⟩)
  · exact blk_lt h.blk
  · exact h.map.lt
  · exact h.stk.lt k hk
  · exact ((h.str a x h1).lt k h2).2
theorem HouAt.list {ks : List Nm} (h : HouAt w p mb sp G SF S) (hi : HInv S) (ha : AllIn G ks) (hs : ks.Pairwise (fun x y => nmLt x y = true)) (_hin : ∀ k ∈ ks, (G k).isSome = true) : (ks.filterMap G).map LN.n = S.l := by
  refine sortedN_eq ?_ hi.srt fun x => ?_
  · rw [List.pairwise_map]
    clear ha _hin
    induction ks with
    | nil => exact List.Pairwise.nil
    | cons k ks ih =>
      rw [List.pairwise_cons] at hs
      cases hk : G k with
      | none => rw [List.filterMap_cons_none hk]; exact ih hs.2
      | some x =>
        rw [List.filterMap_cons_some hk]
        refine List.pairwise_cons.2 ⟨fun y hy => ?_, ih hs.2⟩
        obtain ⟨k', hk', h'⟩ := List.mem_filterMap.1 hy
        unfold ltN
        rw [show nmOf x.n = k from (h.gs k x hk).2, show nmOf y.n = k' from (h.gs k' y h').2]
        exact hs.1 k' hk'
  · constructor
    · intro hx
      obtain ⟨y, hy, rfl⟩ := List.mem_map.1 hx
      obtain ⟨k, _, hk⟩ := List.mem_filterMap.1 hy
      exact (h.gs k y hk).1
    · intro hx
      obtain ⟨y, hy, rfl⟩ := h.gl x hx
      exact List.mem_map_of_mem (List.mem_filterMap.2 ⟨_, ha _ (by rw [hy]; rfl), hy⟩)
end
theorem idx_cnt {W : World} {p k : Nat} (hk : k < 9) : (Instr.indexAt 107 (.pointer (some ⟨p, 5, none⟩)) (.int .i64 (k : Int))).run Tryz.prog W = .ok (.pointer (some ⟨p, 5 + k, none⟩)) W := by
  have hsz : (Tryz.prog.info? 3).map (·.size) = some 1 := by kernel_rfl
  cases hq : Tryz.prog.info? 3 with
  | none => simp [hq] at hsz
  | some i =>
    simp only [hq, Option.map_some, Option.some.injEq] at hsz
    simp [Instr.indexAt, run_underlying Tryz.underlying107, Instr.sureAddr, asIntOf, sizeOf, typeInfo, hq, hsz, Addr.add, hk]
theorem made_any (w : World) (p mb sp : Nat) (f : FrV) (id : Int) (c : Int → Nat) (h : w.heap[p]? = some (.cells (houA f id mb c sp) 109 (0, 0))) :
    Calls Tryz.prog 53 #[.pointer (some ⟨p, 0, none⟩)] w fun e w' => e = .returned (.bool true) ∧ w' = w := by
  have c14 := cell_of h 14 (.pointer (some ⟨sp, 0, none⟩)) rfl
  go_enter Tryz.func53, Tryz.ntmps53
  go_wp2_with fail
  go_ret
  exact ⟨rfl, rfl⟩
end Go.Proofs.YtlnhppgfhkkidaaGreat
