/- Parts of the proof, in this order: Regions: what the flood leaves, plain; Turning and mirroring: the plain law; The numbers of regions and of dead ones stay when a face is turned, plain; Faces that are dressed as a pattern says, plain; Furrows in memory; slices.ContainsFunc of furrows; ValidPattern of stones; mapped of stones; The program's test of strokes, equality of int slices, equality of notes; Periods, turns and normal forms: the plain law; What the reference computes, and that it is what the mirrors compute, plain; turned, Turn, Mirror, Same of stones; slices.Compare of ints; Sort and Compact of the library, laid at this program; Sort and Compact of the call's own ints. -/
import Derived.ChangeKeysEq
import Derived.Shelf.Sort.Plain
import Derived.Shelf.Slices.CompactI
import Derived.Ground.Names2Prog
import Derived.Lib.SlicesCompact
import Derived.Test.YtimmadkbkimonaaGreatDoorKPsk2
set_option linter.unusedSimpArgs false
set_option linter.unusedVariables false
open List renaming getElem_toArray → lq0, getElem_cons_succ → lq1, getElem_cons_zero → lq2, setIfInBounds_toArray → lq3, set_cons_zero → lq4, set_cons_succ → lq5
namespace Go.Proofs.YtimmadkbkimonaaGreatDoor
set_option linter.unusedSimpArgs false
set_option linter.unusedVariables false
open Go.RowKit

abbrev OfM := Int → Option Int
def updM (o : OfM) (k v : Int) : OfM := fun a => if a = k then some v else o a
def landB (f : FaceV) (i : Int) : Bool := decide (f.kat i.toNat = 0)
def visitF (f : FaceV) (i m : Int) (st : OfM × List Int) (n : Int) : OfM × List Int := if ((st.1 n).isNone && (landB f n == landB f i)) = true then (updM st.1 n m, st.2 ++ [n]) else st
def floodG (nb : Int → List Int) (f : FaceV) (i m : Int) : Nat → OfM × List Int → OfM
  | 0, st => st.1
  | fuel + 1, st => match st.2.getLast? with
    | none => st.1
    | some x => floodG nb f i m fuel ((nb x).foldl (visitF f i m) (st.1, st.2.dropLast))
def regStepG (nb : Int → List Int) (f : FaceV) (st : OfM × Int) (i : Nat) : OfM × Int := if (st.1 i).isSome = true then st else (floodG nb f i st.2 (f.kinds.length + 1) (updM st.1 i st.2, [(i : Int)]), st.2 + 1)
def regionsG (nb : Int → List Int) (f : FaceV) (k : Nat) : OfM × Int := (List.range k).foldl (regStepG nb f) (fun _ => none, 0)
abbrev floodF (f : FaceV) := floodG (neighF f) f
abbrev regionsN (f : FaceV) := regionsG (neighF f) f
def regionsF (f : FaceV) : OfM × Int := regionsN f f.kinds.length
theorem regionsN_succ (nb : Int → List Int) (f : FaceV) (k : Nat) : regionsG nb f (k + 1) = regStepG nb f (regionsG nb f k) k := by
  unfold regionsG
  rw [List.range_succ, List.foldl_append]
  rfl
def regAt (f : FaceV) (o : OfM) (r : Int) (k : Nat) : List Int := (List.range k).filterMap fun (j : Nat) => if o (j : Int) = some r then some (j : Int) else none
def regListF (f : FaceV) : List (List Int) := (List.range (regionsF f).2.toNat).map fun (r : Nat) => regAt f (regionsF f).1 r f.kinds.length
inductive Reach (f : FaceV) : Int → Int → Prop where
  | refl (x : Int) : Reach f x x
  | step {x y z : Int} : Reach f x y → z ∈ neighF f y → landB f z = landB f y → Reach f x z
def InF (f : FaceV) (x : Int) : Prop := 0 ≤ x ∧ x < f.kinds.length
section
variable {f : FaceV}
theorem Reach.trans {x y z : Int} (h1 : Reach f x y) (h2 : Reach f y z) : Reach f x z := by
  induction h2 with
  | refl => exact h1
  | step _ h3 h4 ih => exact .step ih h3 h4
theorem Reach.land {x y : Int} (h : Reach f x y) : landB f y = landB f x := by
  induction h with
  | refl => rfl
  | step _ _ h4 ih => exact h4.trans ih
theorem neigh_in (hv : f.valid = true) {x y : Int} (hx : InF f x) (hy : y ∈ neighF f x) : InF f y ∧ x ∈ neighF f y ∧ y ≠ x := by
  obtain ⟨h1, h2⟩ := cellF_has hv hx
  rw [← h2] at hy
  obtain ⟨c, hc, rfl⟩ := (neigh_mem hv h1).1 hy
  have hh := beside_has hv h1 hc
  obtain ⟨h3, h4⟩ := index_back hv hh
  refine ⟨h3, ?_, fun e => ?_⟩
  · have := (neigh_mem hv hh (n := x)).2 ⟨cellF f x, beside_sym hv h1 hc, h2.symm⟩
    exact this
  · refine beside_ne hv h1 hc ?_
    rw [← h4, e]
theorem Reach.inF (hv : f.valid = true) {x y : Int} (h : Reach f x y) (hx : InF f x) : InF f y := by
  induction h with
  | refl => exact hx
  | step _ h3 _ ih => exact (neigh_in hv ih h3).1
theorem Reach.symm (hv : f.valid = true) {x y : Int} (h : Reach f x y) (hx : InF f x) : Reach f y x := by
  induction h with
  | refl => exact .refl _
  | step h2 h3 h4 ih =>
    have hy := h2.inF hv hx
    exact (Reach.step (.refl _) (neigh_in hv hy h3).2.1 h4.symm).trans ih
def freeN (f : FaceV) (o : OfM) : Nat := (List.range f.kinds.length).countP fun (j : Nat) => (o (j : Int)).isNone
theorem countP_lt {p q : Nat → Bool} : ∀ {l : List Nat} {x : Nat}, x ∈ l → p x = true → q x = false → (∀ y ∈ l, q y = true → p y = true) → l.countP q + 1 ≤ l.countP p
  | [], x, h, _, _, _ => by cases h
  | y :: l, x, h, h1, h2, h3 => by
    have hle : l.countP q ≤ l.countP p := List.countP_mono_left fun z hz hq => h3 z (List.mem_cons_of_mem _ hz) hq
    rw [List.countP_cons, List.countP_cons]
    rcases List.mem_cons.1 h with e | h
    · subst e
      rw [if_pos h1, if_neg (by rw [h2]; decide)]
      omega
    · have := countP_lt h h1 h2 (fun z hz hq => h3 z (List.mem_cons_of_mem _ hz) hq)
      have h4 := h3 y (List.mem_cons_self ..)
      split <;> split <;> first | omega | (rename_i a b; exact absurd (h4 a) b)
theorem free_upd {o : OfM} {n m : Int} (hn : InF f n) (h0 : o n = none) : freeN f (updM o n m) + 1 ≤ freeN f o := by
  unfold freeN
  refine countP_lt (x := n.toNat) (List.mem_range.2 (by unfold InF at hn; omega)) ?_ ?_ fun y _ hq => ?_
  · rw [Int.toNat_of_nonneg hn.1, h0]; rfl
  · rw [Int.toNat_of_nonneg hn.1]; simp [updM]
  · unfold updM at hq
    by_cases e : (y : Int) = n
    · rw [if_pos e] at hq; cases hq
    · rw [if_neg e] at hq; exact hq
structure RgI (f : FaceV) (o : OfM) (m : Int) : Prop where
  inr : ∀ x r, o x = some r → InF f x ∧ 0 ≤ r ∧ r < m
  cl : ∀ x r y, o x = some r → y ∈ neighF f x → landB f y = landB f x → o y = some r
  co : ∀ x y r, o x = some r → o y = some r → Reach f x y
structure FlI (f : FaceV) (o0 : OfM) (i m : Int) (o : OfM) (work : List Int) (nb : Int → Prop) : Prop where
  old : ∀ x r, o0 x = some r → o x = some r
  new : ∀ x r, o x = some r → o0 x = some r ∨ (r = m ∧ o0 x = none ∧ InF f x ∧ Reach f i x)
  at_ : o i = some m
  wk : ∀ x ∈ work, o x = some m
  cl : ∀ x y, o x = some m → x ∉ work → y ∈ neighF f x → landB f y = landB f x → nb x ∨ o y = some m
theorem FlI.visit {o0 o : OfM} {i m n at_ : Int} {work : List Int} {done : List Int} (h0 : RgI f o0 m) (hv : f.valid = true) (hat : o at_ = some m) (hai : InF f at_ ∧ Reach f i at_) (hn : n ∈ neighF f at_) (h : FlI f o0 i m o work (fun x => x = at_)) (hdone : ∀ y ∈ done, landB f y = landB f at_ → o y = some m) :
    FlI f o0 i m (visitF f i m (o, work) n).1 (visitF f i m (o, work) n).2 (fun x => x = at_) ∧ (visitF f i m (o, work) n).1 at_ = some m ∧ (∀ y ∈ done ++ [n], landB f y = landB f at_ → (visitF f i m (o, work) n).1 y = some m) ∧ freeN f (visitF f i m (o, work) n).1 + (visitF f i m (o, work) n).2.length ≤ freeN f o + work.length := by
  have hni := neigh_in hv hai.1 hn
  have hla : landB f at_ = landB f i := hai.2.land
  unfold visitF
  by_cases hq : ((o n).isNone && (landB f n == landB f i)) = true
  · rw [if_pos hq]
    rw [Bool.and_eq_true, beq_iff_eq, Option.isNone_iff_eq_none] at hq
    have hne : ∀ x r, o x = some r → x ≠ n := fun x r hx e => by rw [e, hq.1] at hx; cases hx
    have hup : ∀ x r, o x = some r → updM o n m x = some r := fun x r hx => by unfold updM; rw [if_neg (hne x r hx)]; exact hx
    have h00 : o0 n = none := by
      cases e : o0 n with
      | none => rfl
      | some r => have := h.old n r e; rw [hq.1] at this; cases this
    refine ⟨⟨fun x r hx => hup x r (h.old x r hx), fun x r hx => ?_, hup i m h.at_, fun x hx => ?_, fun x y hx hxw hy hl => ?_⟩, hup _ _ hat, fun y hy hl => ?_, ?_⟩
    · by_cases e : x = n
      · subst e
        have hx : updM o x m x = some r := hx
        rw [show updM o x m x = some m by simp [updM]] at hx
        cases hx
        exact .inr ⟨rfl, h00, hni.1, .step hai.2 hn (by rw [hq.2, hla])⟩
      · have hx : updM o n m x = some r := hx
        unfold updM at hx
        rw [if_neg e] at hx
        exact h.new x r hx
    · rcases List.mem_append.1 hx with hx | hx
      · exact hup x m (h.wk x hx)
      · rw [List.mem_singleton.1 hx]; simp [updM]
    · by_cases e : x = n
      · subst e
        exact absurd (List.mem_append_right _ (List.mem_singleton.2 rfl)) hxw
      · have hx2 : o x = some m := by
          have hx : updM o n m x = some m := hx
          unfold updM at hx
          rw [if_neg e] at hx
          exact hx
        rcases h.cl x y hx2 (fun hw => hxw (List.mem_append_left _ hw)) hy hl with h5 | h5
        · exact .inl h5
        · exact .inr (hup y m h5)
    · rcases List.mem_append.1 hy with hy | hy
      · exact hup y m (hdone y hy hl)
      · rw [List.mem_singleton.1 hy]; simp [updM]
    · have := free_upd (m := m) hni.1 hq.1
      rw [List.length_append]
      simp
      omega
  · rw [if_neg hq]
    refine ⟨h, hat, fun y hy hl => ?_, Nat.le_refl _⟩
    rcases List.mem_append.1 hy with hy | hy
    · exact hdone y hy hl
    · rw [List.mem_singleton.1 hy] at hl ⊢
      have hs : (o n).isSome = true := by
        cases e : o n with
        | some r => rfl
        | none =>
          refine absurd ?_ hq
          rw [e, hl, hla]
          simp
      obtain ⟨r, hr⟩ := Option.isSome_iff_exists.1 hs
      rcases h.new n r hr with h5 | h5
      · -- a region that is done holds all that is beside it
        have h6 := h0.cl n r at_ h5 hni.2.1 hl.symm
        have h7 := h.old at_ r h6
        rw [hat] at h7
        cases h7
        have := (h0.inr n m h5).2.2
        omega
      · show o n = some m
        rw [hr, h5.1]
theorem FlI.round {o0 o : OfM} {i m at_ : Int} {work : List Int} (h0 : RgI f o0 m) (hv : f.valid = true) (hat : o at_ = some m) (hai : InF f at_ ∧ Reach f i at_) : ∀ (ns done : List Int), (∀ n ∈ ns, n ∈ neighF f at_) → FlI f o0 i m o work (fun x => x = at_) → (∀ y ∈ done, landB f y = landB f at_ → o y = some m) →
    FlI f o0 i m (ns.foldl (visitF f i m) (o, work)).1 (ns.foldl (visitF f i m) (o, work)).2 (fun x => x = at_) ∧ (ns.foldl (visitF f i m) (o, work)).1 at_ = some m ∧ (∀ y ∈ done ++ ns, landB f y = landB f at_ → (ns.foldl (visitF f i m) (o, work)).1 y = some m) ∧ freeN f (ns.foldl (visitF f i m) (o, work)).1 + (ns.foldl (visitF f i m) (o, work)).2.length ≤ freeN f o + work.length
  | [], done, _, h, hd => ⟨h, hat, by simpa using hd, Nat.le_refl _⟩
  | n :: ns, done, hns, h, hd => by
    obtain ⟨g1, g2, g3, g4⟩ := FlI.visit h0 hv hat hai (hns n (List.mem_cons_self ..)) h hd
    rw [List.foldl_cons]
    obtain ⟨k1, k2, k3, k4⟩ := FlI.round h0 hv g2 hai ns (done ++ [n]) (fun x hx => hns x (List.mem_cons_of_mem _ hx)) g1 g3
    refine ⟨k1, k2, fun y hy hl => k3 y ?_ hl, Nat.le_trans k4 g4⟩
    rw [List.append_assoc]
    exact hy
theorem FlI.pop {nb : Int → List Int} (hnb : ∀ x, InF f x → ∀ y, y ∈ nb x ↔ y ∈ neighF f x) {o0 o : OfM} {i m x : Int} {ws : List Int} (h0 : RgI f o0 m) (hv : f.valid = true) (h : FlI f o0 i m o (ws ++ [x]) (fun _ => False)) :
    FlI f o0 i m ((nb x).foldl (visitF f i m) (o, ws)).1 ((nb x).foldl (visitF f i m) (o, ws)).2 (fun _ => False) ∧ freeN f ((nb x).foldl (visitF f i m) (o, ws)).1 + ((nb x).foldl (visitF f i m) (o, ws)).2.length + 1 ≤ freeN f o + (ws ++ [x]).length := by
  have hx := h.wk x (List.mem_append_right _ (List.mem_singleton.2 rfl))
  have hxi : InF f x ∧ Reach f i x := by
    rcases h.new x m hx with h5 | h5
    · have := (h0.inr x m h5).2.2; omega
    · exact h5.2.2
  have hw : FlI f o0 i m o ws (fun y => y = x) := ⟨h.old, h.new, h.at_, fun y hy => h.wk y (List.mem_append_left _ hy), fun a y ha haw hy hl => by
    by_cases e : a = x
    · exact .inl e
    · rcases h.cl a y ha (fun hm => by
        rcases List.mem_append.1 hm with hm | hm
        · exact haw hm
        · exact e (List.mem_singleton.1 hm)) hy hl with h5 | h5
      · exact h5.elim
      · exact .inr h5⟩
  obtain ⟨k1, k2, k3, k4⟩ := FlI.round h0 hv hx hxi (nb x) [] (fun n hn => (hnb x hxi.1 n).1 hn) hw (fun y hy => by cases hy)
  refine ⟨⟨k1.old, k1.new, k1.at_, k1.wk, fun a y ha haw hy hl => .inr ?_⟩, by rw [List.length_append]; simp; omega⟩
  rcases k1.cl a y ha haw hy hl with h5 | h5
  · rw [h5] at hy hl
    exact k3 y (by simpa using (hnb x hxi.1 y).2 hy) hl
  · exact h5
theorem flood_spec {nb : Int → List Int} (hnb : ∀ x, InF f x → ∀ y, y ∈ nb x ↔ y ∈ neighF f x) {o0 : OfM} {i m : Int} (h0 : RgI f o0 m) (hv : f.valid = true) : ∀ (fuel : Nat) (o : OfM) (work : List Int), FlI f o0 i m o work (fun _ => False) → freeN f o + work.length ≤ fuel → FlI f o0 i m (floodG nb f i m fuel (o, work)) [] (fun _ => False)
  | 0, o, work, h, hf => by
    have : work = [] := List.length_eq_zero_iff.1 (by omega)
    subst this
    exact h
  | fuel + 1, o, work, h, hf => by
    unfold floodG
    rcases List.eq_nil_or_concat work with e | ⟨ws, x, e⟩
    · subst e
      exact h
    · rw [List.concat_eq_append] at e
      subst e
      have hl : ((o, ws ++ [x]) : OfM × List Int).2.getLast? = some x := by simp
      have hd : ((o, ws ++ [x]) : OfM × List Int).2.dropLast = ws := by simp
      rw [hl, hd]
      obtain ⟨k1, k2⟩ := h.pop hnb h0 hv
      show FlI f o0 i m (floodG nb f i m fuel ((nb x).foldl (visitF f i m) (o, ws))) [] (fun _ => False)
      exact flood_spec hnb h0 hv fuel _ _ k1 (by omega)
theorem free_le (o : OfM) : freeN f o ≤ f.kinds.length := by
  unfold freeN
  refine Nat.le_trans List.countP_le_length ?_
  rw [List.length_range]
  exact Nat.le_refl _
theorem FlI.start {o0 : OfM} {i m : Int} (h0 : RgI f o0 m) (hi : InF f i) (hn : o0 i = none) : FlI f o0 i m (updM o0 i m) [i] (fun _ => False) := by
  have hup : ∀ x r, o0 x = some r → updM o0 i m x = some r := fun x r hx => by unfold updM; rw [if_neg (fun e => by rw [e, hn] at hx; cases hx)]; exact hx
  refine ⟨hup, fun x r hx => ?_, by simp [updM], fun x hx => by rw [List.mem_singleton.1 hx]; simp [updM], fun x y hx hxw hy hl => ?_⟩
  · unfold updM at hx
    by_cases e : x = i
    · rw [if_pos e] at hx
      cases hx
      exact .inr ⟨rfl, by rw [e]; exact hn, by rw [e]; exact hi, by rw [e]; exact .refl _⟩
    · rw [if_neg e] at hx
      exact .inl hx
  · have e : x ≠ i := fun e => hxw (List.mem_singleton.2 e)
    unfold updM at hx
    rw [if_neg e] at hx
    have := (h0.inr x m hx).2.2
    omega
theorem flood_next {nb : Int → List Int} (hnb : ∀ x, InF f x → ∀ y, y ∈ nb x ↔ y ∈ neighF f x) {o0 : OfM} {i m : Int} (h0 : RgI f o0 m) (hv : f.valid = true) (hm : 0 ≤ m) (hi : InF f i) (hn : o0 i = none) : RgI f (floodG nb f i m (f.kinds.length + 1) (updM o0 i m, [i])) (m + 1) ∧ (∀ x r, o0 x = some r → floodG nb f i m (f.kinds.length + 1) (updM o0 i m, [i]) x = some r) ∧ (∀ x, floodG nb f i m (f.kinds.length + 1) (updM o0 i m, [i]) x = some m ↔ o0 x = none ∧ InF f x ∧ Reach f i x) := by
  have h1 := flood_spec hnb h0 hv (f.kinds.length + 1) (updM o0 i m) [i] (FlI.start h0 hi hn) (by have := free_le (f := f) (updM o0 i m); simp; omega)
  generalize floodG nb f i m (f.kinds.length + 1) (updM o0 i m, [i]) = o at *
  have hmine : ∀ x, o x = some m → o0 x = none ∧ InF f x ∧ Reach f i x := fun x hx => by
    rcases h1.new x m hx with h5 | h5
    · have := (h0.inr x m h5).2.2; omega
    · exact h5.2
  have hall : ∀ x, Reach f i x → o x = some m := fun x hr => by
    induction hr with
    | refl => exact h1.at_
    | step _ h3 h4 ih =>
      rcases h1.cl _ _ ih (by simp) h3 h4 with h5 | h5
      · exact h5.elim
      · exact h5
  have hold : ∀ x r, o x = some r → r ≠ m → o0 x = some r := fun x r hx hr => by
    rcases h1.new x r hx with h5 | h5
    · exact h5
    · exact absurd h5.1 hr
  refine ⟨⟨fun x r hx => ?_, fun x r y hx hy hl => ?_, fun x y r hx hy => ?_⟩, h1.old, fun x => ⟨hmine x, fun h => hall x h.2.2⟩⟩
  · by_cases e : r = m
    · rw [e] at hx ⊢
      exact ⟨(hmine x hx).2.1, hm, by omega⟩
    · have := h0.inr x r (hold x r hx e)
      exact ⟨this.1, this.2.1, by omega⟩
  · by_cases e : r = m
    · rw [e] at hx ⊢
      exact hall y (.step (hmine x hx).2.2 hy hl)
    · exact h1.old y r (h0.cl x r y (hold x r hx e) hy hl)
  · by_cases e : r = m
    · rw [e] at hx hy
      exact ((hmine x hx).2.2.symm hv hi).trans (hmine y hy).2.2
    · exact h0.co x y r (hold x r hx e) (hold y r hy e)
structure RgK (f : FaceV) (k : Nat) (o : OfM) (m : Int) : Prop where
  rg : RgI f o m
  m0 : 0 ≤ m
  dn : ∀ j : Nat, j < k → (o j).isSome = true
  fst : ∀ r, 0 ≤ r → r < m → ∃ j : Nat, j < k ∧ o j = some r ∧ ∀ x, o x = some r → (j : Int) ≤ x
  ord : ∀ r s x y, o x = some r → o y = some s → (∀ z, o z = some r → x ≤ z) → (∀ z, o z = some s → y ≤ z) → r < s → x < y
theorem regionsG_spec {nb : Int → List Int} (hnb : ∀ x, InF f x → ∀ y, y ∈ nb x ↔ y ∈ neighF f x) (hv : f.valid = true) : ∀ k, k ≤ f.kinds.length → RgK f k (regionsG nb f k).1 (regionsG nb f k).2
  | 0, _ => ⟨⟨(fun x r h => by cases h), (fun x r y h => by cases h), (fun x y r h => by cases h)⟩, Int.le_refl _, (fun j hj => by omega), (fun r h1 h2 => by have h2 : r < 0 := h2; omega), (fun r s x y h => by cases h)⟩
  | k + 1, hk => by
    have ih := regionsG_spec hnb hv k (by omega)
    rw [regionsN_succ]
    generalize regionsG nb f k = st at *
    obtain ⟨o, m⟩ := st
    unfold regStepG
    by_cases hs : (o (k : Int)).isSome = true
    · rw [if_pos hs]
      refine ⟨ih.rg, ih.m0, fun j hj => ?_, fun r h1 h2 => ?_, ih.ord⟩
      · by_cases e : j = k
        · rw [e]; exact hs
        · exact ih.dn j (by omega)
      · obtain ⟨j, g1, g2, g3⟩ := ih.fst r h1 h2
        exact ⟨j, by omega, g2, g3⟩
    · rw [if_neg hs]
      have hn : o (k : Int) = none := by
        cases e : o (k : Int) with
        | none => rfl
        | some r => rw [e] at hs; exact absurd rfl hs
      obtain ⟨g1, g2, g3⟩ := flood_next hnb ih.rg hv ih.m0 (i := (k : Int)) ⟨by omega, by omega⟩ hn
      dsimp only
      generalize floodG nb f (k : Int) m (f.kinds.length + 1) (updM o (k : Int) m, [(k : Int)]) = o2 at *
      have hnew : ∀ x, o2 x = some m → (k : Int) ≤ x := fun x hx => by
        have h5 := (g3 x).1 hx
        have h6 : ¬ x < (k : Int) := fun h6 => by
          have := ih.dn x.toNat (by have := h5.2.1.1; omega)
          rw [Int.toNat_of_nonneg h5.2.1.1, h5.1] at this
          cases this
        omega
      have hkm : o2 (k : Int) = some m := (g3 k).2 ⟨hn, ⟨by omega, by omega⟩, .refl _⟩
      have hback : ∀ x r, o2 x = some r → r ≠ m → o x = some r := fun x r hx hr => by
        cases e : o x with
        | some s =>
          have := g2 x s e
          rw [hx] at this
          rw [Option.some.inj this]
        | none =>
          have h7 := (g1.inr x r hx)
          obtain ⟨j, j1, j2, j3⟩ := ih.fst r h7.2.1 (by omega)
          have h8 := g1.co (j : Int) x r (g2 _ _ j2) hx
          have h9 : ∀ y, Reach f (j : Int) y → o y = some r := fun y hy => by
            induction hy with
            | refl => exact j2
            | step _ a b ih2 => exact ih.rg.cl _ _ _ ih2 a b
          have := h9 x h8
          rw [e] at this
          cases this
      refine ⟨g1, by have := ih.m0; show 0 ≤ m + 1; omega, fun j hj => ?_, fun r h1 h2 => ?_, fun r s x y hx hy hx2 hy2 hrs => ?_⟩
      · by_cases e : j = k
        · rw [e, hkm]; rfl
        · obtain ⟨r, hr⟩ := Option.isSome_iff_exists.1 (ih.dn j (by omega))
          rw [g2 _ _ hr]; rfl
      · by_cases e : r = m
        · rw [e]
          exact ⟨k, by omega, hkm, hnew⟩
        · obtain ⟨j, j1, j2, j3⟩ := ih.fst r h1 (by have h2 : r < m + 1 := h2; omega)
          exact ⟨j, by omega, g2 _ _ j2, fun x hx => j3 x (hback x r hx e)⟩
      · have hs2 := (g1.inr y s hy).2.2
        by_cases e : s = m
        · have hr : r ≠ m := by omega
          rw [e] at hy
          have h5 := hnew y hy
          have h6 := hx
          obtain ⟨j, j1, j2, j3⟩ := ih.fst r (g1.inr x r hx).2.1 (by omega)
          have := hx2 (j : Int) (g2 _ _ j2)
          omega
        · exact ih.ord r s x y (hback x r hx (by omega)) (hback y s hy e) (fun z hz => hx2 z (g2 z r hz)) (fun z hz => hy2 z (g2 z s hz)) hrs
theorem regionsN_spec (hv : f.valid = true) : ∀ k, k ≤ f.kinds.length → RgK f k (regionsN f k).1 (regionsN f k).2 := regionsG_spec (fun _ _ _ => Iff.rfl) hv
theorem RgI.reach {o : OfM} {m : Int} (h : RgI f o m) {x y r : Int} (hx : o x = some r) (hr : Reach f x y) : o y = some r := by
  induction hr with
  | refl => exact hx
  | step _ h3 h4 ih => exact h.cl _ _ _ ih h3 h4
theorem RgK.same {o o' : OfM} {m m' : Int} (h : RgK f f.kinds.length o m) (h' : RgK f f.kinds.length o' m') : o = o' ∧ m = m' := by
  have dom : ∀ {p : OfM} {q : Int}, RgK f f.kinds.length p q → ∀ x, InF f x → ∃ r, p x = some r := fun hp x hx => by
    have := hp.dn x.toNat (by have := hx.1; have := hx.2; omega)
    rw [Int.toNat_of_nonneg hx.1] at this
    exact Option.isSome_iff_exists.1 this
  have eqv : ∀ {p p' : OfM} {q q' : Int}, RgK f f.kinds.length p q → RgK f f.kinds.length p' q' → ∀ x y r, p x = some r → p y = some r → ∃ s, p' x = some s ∧ p' y = some s := fun hp hp' x y r hx hy => by
    obtain ⟨s, hs⟩ := dom hp' x (hp.rg.inr x r hx).1
    refine ⟨s, hs, ?_⟩
    exact hp'.rg.reach hs (hp.rg.co x y r hx hy)
  have key : ∀ n : Nat, (∀ x (r : Nat), r < n → (o x = some (r : Int) ↔ o' x = some (r : Int))) := by
    intro n
    induction n with
    | zero => intro x r hr; omega
    | succ n ih =>
      have one : ∀ {p p' : OfM} {q q' : Int}, RgK f f.kinds.length p q → RgK f f.kinds.length p' q' → (∀ x (r : Nat), r < n → (p x = some (r : Int) ↔ p' x = some (r : Int))) → ∀ x, p x = some (n : Int) → p' x = some (n : Int) := fun {p p' q q'} hp hp' ih x hx => by
        obtain ⟨j, j1, j2, j3⟩ := hp.fst n (by omega) (hp.rg.inr x n hx).2.2
        obtain ⟨s, s1, s2⟩ := eqv hp hp' j x n j2 hx
        have hs := hp'.rg.inr _ _ s1
        have h1 : (n : Int) ≤ s := Int.not_lt.1 fun hlt => by
          have := (ih (j : Int) s.toNat (by omega)).2 (by rw [Int.toNat_of_nonneg hs.2.1]; exact s1)
          rw [j2] at this
          cases this
          omega
        by_cases e : s = n
        · rw [s2, e]
        · -- the other's region n begins ahead of this one
          obtain ⟨k, k1, k2, k3⟩ := hp'.fst n (by omega) (by omega)
          obtain ⟨k', g1, g2, g3⟩ := hp'.fst s hs.2.1 hs.2.2
          have hkj := hp'.ord n s k k' k2 g2 k3 g3 (by omega)
          have hjk := g3 j s1
          obtain ⟨t, ht⟩ := dom hp (k : Int) ⟨by omega, by omega⟩
          have hti := hp.rg.inr _ _ ht
          have h2 : (n : Int) ≤ t := Int.not_lt.1 fun hlt => by
            have := (ih (k : Int) t.toNat (by omega)).1 (by rw [Int.toNat_of_nonneg hti.2.1]; exact ht)
            rw [k2] at this
            cases this
            omega
          have hne : t ≠ n := fun e2 => by
            rw [e2] at ht
            obtain ⟨u, u1, u2⟩ := eqv hp hp' k j n ht j2
            rw [k2] at u1
            rw [s1] at u2
            cases u1
            cases u2
            exact e rfl
          obtain ⟨i, i1, i2, i3⟩ := hp.fst t hti.2.1 hti.2.2
          have := hp.ord n t j i j2 i2 j3 i3 (by omega)
          have := i3 k ht
          omega
      intro x r hr
      by_cases e : r = n
      · subst e
        exact ⟨one h h' ih x, one h' h (fun x r hr => (ih x r hr).symm) x⟩
      · exact ih x r (by omega)
  have heq : ∀ x, o x = o' x := fun x => by
    cases e : o x with
    | some r =>
      have hr := (h.rg.inr x r e).2.1
      have := (key (r.toNat + 1) x r.toNat (by omega)).1 (by rw [Int.toNat_of_nonneg hr]; exact e)
      rw [this, Int.toNat_of_nonneg hr]
    | none =>
      cases e2 : o' x with
      | none => rfl
      | some r =>
        have hr := (h'.rg.inr x r e2).2.1
        have := (key (r.toNat + 1) x r.toNat (by omega)).2 (by rw [Int.toNat_of_nonneg hr]; exact e2)
        rw [e] at this
        cases this
  refine ⟨funext heq, ?_⟩
  have hle : ∀ {p p' : OfM} {q q' : Int}, RgK f f.kinds.length p q → RgK f f.kinds.length p' q' → p = p' → q ≤ q' := fun {p p' q q'} hp hp' e => Int.not_lt.1 fun hlt => by
    obtain ⟨j, j1, j2, _⟩ := hp.fst q' hp'.m0 hlt
    rw [e] at j2
    have := (hp'.rg.inr _ _ j2).2.2
    omega
  exact Int.le_antisymm (hle h h' (funext heq)) (hle h' h (funext heq).symm)
end
end Go.Proofs.YtimmadkbkimonaaGreatDoor
namespace Go.Proofs.YtimmadkbkimonaaGreatDoor
set_option linter.unusedSimpArgs false
set_option linter.unusedVariables false
open Go.RowKit

theorem sub_mod_r (x y n : Int) : (x - y % n) % n = (x - y) % n := by
  rw [Int.sub_emod, Int.emod_emod_of_dvd _ (Int.dvd_refl _), ← Int.sub_emod]
section
variable {f g : FaceV}
theorem face_ext (hf : f.valid = true) (hg : g.valid = true) (h1 : f.eye = g.eye) (h2 : f.rings = g.rings) (h3 : f.sectors = g.sectors) (h : ∀ i j : Nat, i < f.R → j < f.S → f.kat (i * f.S + j) = g.kat (i * f.S + j)) : f = g := by
  obtain ⟨_, _, _, _, e5, _, e7⟩ := FaceV.nat hf
  obtain ⟨_, _, _, _, _, _, g7⟩ := FaceV.nat hg
  have eR : g.R = f.R := by unfold FaceV.R; rw [h2]
  have eS : g.S = f.S := by unfold FaceV.S; rw [h3]
  rw [eR, eS] at g7
  have hk : f.kinds = g.kinds := by
    refine List.ext_getElem (by rw [e7, g7]) fun n hn1 hn2 => ?_
    have hn : n < f.R * f.S := by rw [← e7]; exact hn1
    have hdiv : n / f.S < f.R := Nat.div_lt_of_lt_mul (by rw [Nat.mul_comm]; exact hn)
    have hmod : n % f.S < f.S := Nat.mod_lt _ (by omega)
    have he : n / f.S * f.S + n % f.S = n := by rw [Nat.mul_comm]; exact Nat.div_add_mod n f.S
    have := h _ _ hdiv hmod
    rw [he] at this
    unfold FaceV.kat at this
    rw [List.getElem?_eq_getElem hn1, List.getElem?_eq_getElem hn2] at this
    exact this
  cases f
  cases g
  simp only [FaceV.mk.injEq] at *
  exact ⟨h1, h2, h3, hk⟩
theorem turn_valid (h : f.valid = true) (a : Int) : (turnF f a).valid = true := mapF_valid h f.S ⟨(FaceV.nat h).2.2.2.2.1, (FaceV.nat h).2.2.2.2.2.1⟩ _
theorem turn_size (h : f.valid = true) (a : Int) : (turnF f a).eye = f.eye ∧ (turnF f a).rings = f.rings ∧ (turnF f a).sectors = f.sectors ∧ (turnF f a).R = f.R ∧ (turnF f a).S = f.S :=
  ⟨rfl, rfl, (FaceV.nat h).2.1.symm, rfl, rfl⟩
theorem turn_kat (h : f.valid = true) (a : Int) {i j : Nat} (hi : i < f.R) (hj : j < f.S) : (turnF f a).kat (i * f.S + j) = f.kat (i * f.S + (((j : Int) - a) % (f.S : Int)).toNat) := by
  unfold turnF
  rw [mapF_kat f.S _ hi hj, indexF_eq h, Int.toNat_natCast]
  unfold around
  rw [(FaceV.nat h).2.1, sub_mod_r]
theorem turn_dvd (h : f.valid = true) {a : Int} (ha : a % f.sectors = 0) : turnF f a = f := by
  obtain ⟨s1, s2, s3, s4, s5⟩ := turn_size h a
  refine face_ext (turn_valid h a) h rfl rfl s3 fun i j hi hj => ?_
  rw [s4] at hi
  rw [s5] at hj ⊢
  rw [turn_kat h a hi hj, ← sub_mod_r]
  rw [(FaceV.nat h).2.1] at ha
  rw [ha, Int.sub_zero, Int.emod_eq_of_lt (by omega) (by omega), Int.toNat_natCast]
theorem turn_mod (h : f.valid = true) (a : Int) : turnF f (a % f.sectors) = turnF f a := by
  unfold turnF around
  rw [Int.emod_emod_of_dvd _ (Int.dvd_refl _)]
end
end Go.Proofs.YtimmadkbkimonaaGreatDoor
namespace Go.Proofs.YtimmadkbkimonaaGreatDoor
set_option linter.unusedSimpArgs false
set_option linter.unusedVariables false
open Go.RowKit

def regionsP (f : FaceV) : List (List Int) × Int := if f.valid = true then (regListF f, 0) else ([], 10)
section
variable {f g : FaceV}
theorem regF (hv : f.valid = true) : RgK f f.kinds.length (regionsF f).1 (regionsF f).2 := regionsN_spec hv _ (Nat.le_refl _)
theorem regList_len : (regListF f).length = (regionsF f).2.toNat := by unfold regListF; rw [List.length_map, List.length_range]
theorem regList_at {n : Nat} (h : n < (regionsF f).2.toNat) : (regListF f)[n]? = some (regAt f (regionsF f).1 n f.kinds.length) := by
  unfold regListF
  rw [List.getElem?_map, List.getElem?_range h]
  rfl
def Hom (f g : FaceV) (φ : Int → Int) : Prop := ∀ x, InF f x → InF g (φ x) ∧ landB g (φ x) = landB f x ∧ (φ x / g.sectors = x / f.sectors) ∧ ∀ y ∈ neighF f x, φ y ∈ neighF g (φ x)
theorem Hom.reach {φ : Int → Int} (hf : f.valid = true) (h : Hom f g φ) {x y : Int} (hr : Reach f x y) (hx : InF f x) : Reach g (φ x) (φ y) := by
  induction hr with
  | refl => exact .refl _
  | step h2 h3 h4 ih =>
    have hy := h2.inF hf hx
    have hz := (neigh_in hf hy h3).1
    exact ih.step ((h _ hy).2.2.2 _ h3) (by rw [(h _ hz).2.1, (h _ hy).2.1, h4])
end
end Go.Proofs.YtimmadkbkimonaaGreatDoor
namespace Go.Proofs.YtimmadkbkimonaaGreatDoor
set_option linter.unusedSimpArgs false
set_option linter.unusedVariables false
open Go.RowKit

structure FurV where
  at_ : Int
  from_ : Int
  lean : Int
  leans : Int
  steep : Int
  feather : Int
  deriving DecidableEq
structure PatV where
  eye : Int
  rings : Int
  harps : Int
  wide : Int
  furs : List FurV
def furB (p : PatV) (x : FurV) : Bool := inB x.at_ 0 (p.wide - 1) && (inB x.from_ 0 (p.rings - 1) && (inB x.lean (-96) 96 && (inB x.leans 1 96 && (inB x.steep 1 p.wide && (inB x.feather 0 p.wide && decide (x.steep + x.feather < p.wide))))))
def PatV.valid (p : PatV) : Bool := (inB p.eye 1 16 && (inB p.rings 1 24 && (inB p.harps 1 96 && (inB p.wide 1 96 && (inB (p.harps * p.wide) 2 96 && decide (p.furs.length ≤ 16)))))) && p.furs.all (furB p)
abbrev Cuts := List (Int × Int)
def putE (l : List Int) (e : Int × Int) : List Int := if l[e.1.toNat]?.getD 0 = 0 then l.set e.1.toNat e.2 else l
def leanF (rings : Int) (x : FurV) (ring : Int) : Int := ((rings - 1 - ring) * x.lean) / x.leans
def wideF (x : FurV) : Nat := (x.steep + x.feather).toNat
def cutE (f : FaceV) (x : FurV) (ring first : Int) : Cuts := (List.range (wideF x)).map fun (n : Nat) => (indexF f ring (first + x.at_ + leanF f.rings x ring + n), if (n : Int) < x.steep then 1 else 2)
def ringE (f : FaceV) (p : PatV) (x : FurV) (ring : Int) : Cuts := (List.range p.harps.toNat).flatMap fun (h : Nat) => cutE f x ring (h * p.wide)
def furE (f : FaceV) (p : PatV) (x : FurV) : Cuts := (List.range (p.rings - x.from_).toNat).flatMap fun (k : Nat) => ringE f p x (x.from_ + k)
def patF (p : PatV) : FaceV := ⟨p.eye, p.rings, p.harps * p.wide, List.replicate (p.rings * p.harps * p.wide).toNat 0⟩
def dressF (p : PatV) : FaceV := { patF p with kinds := p.furs.foldl (fun l x => (furE (patF p) p x).foldl putE l) (patF p).kinds }
def dressP (p : PatV) : FaceV × Int := if p.valid = true then (dressF p, 0) else (zeroF, 12)
theorem putE_len (l : List Int) (e : Int × Int) : (putE l e).length = l.length := by unfold putE; split <;> simp
theorem putE_lens : ∀ (E : Cuts) (l : List Int), (E.foldl putE l).length = l.length
  | [], l => rfl
  | e :: E, l => by rw [List.foldl_cons, putE_lens E, putE_len]
theorem PatV.valid_iff {p : PatV} : p.valid = true ↔ ((1 ≤ p.eye ∧ p.eye ≤ 16) ∧ (1 ≤ p.rings ∧ p.rings ≤ 24) ∧ (1 ≤ p.harps ∧ p.harps ≤ 96) ∧ (1 ≤ p.wide ∧ p.wide ≤ 96) ∧ (2 ≤ p.harps * p.wide ∧ p.harps * p.wide ≤ 96) ∧ p.furs.length ≤ 16) ∧ ∀ x ∈ p.furs, (0 ≤ x.at_ ∧ x.at_ ≤ p.wide - 1) ∧ (0 ≤ x.from_ ∧ x.from_ ≤ p.rings - 1) ∧ (-96 ≤ x.lean ∧ x.lean ≤ 96) ∧ (1 ≤ x.leans ∧ x.leans ≤ 96) ∧ (1 ≤ x.steep ∧ x.steep ≤ p.wide) ∧ (0 ≤ x.feather ∧ x.feather ≤ p.wide) ∧ x.steep + x.feather < p.wide := by
  unfold PatV.valid furB
  simp only [Bool.and_eq_true, inB_true, decide_eq_true_eq, List.all_eq_true]
theorem patF_valid {p : PatV} (h : p.valid = true) : (patF p).valid = true := by
  obtain ⟨⟨h1, h2, h3, h4, h5, _⟩, _⟩ := PatV.valid_iff.1 h
  refine FaceV.valid_iff.2 ⟨h1, h2, h5, ?_, fun k hk => ?_⟩
  · show ((List.replicate (p.rings * p.harps * p.wide).toNat (0 : Int)).length : Int) = p.rings * (p.harps * p.wide)
    rw [List.length_replicate, Int.toNat_of_nonneg, Int.mul_assoc]
    exact Int.mul_nonneg (Int.mul_nonneg (by omega) (by omega)) (by omega)
  · have := (List.mem_replicate.1 hk).2
    omega
section
variable {p : PatV}
end
end Go.Proofs.YtimmadkbkimonaaGreatDoor
namespace Go.Proofs.YtimmadkbkimonaaGreatDoor
set_option linter.unusedSimpArgs false
set_option linter.unusedVariables false
open Go.RowKit

def furA (x : FurV) : Array Value := #[.int .i64 x.at_, .int .i64 x.from_, .int .i64 x.lean, .int .i64 x.leans, .int .i64 x.steep, .int .i64 x.feather]
def fursV (l : List FurV) : List Value := l.flatMap fun x => [.int .i64 x.at_, .int .i64 x.from_, .int .i64 x.lean, .int .i64 x.leans, .int .i64 x.steep, .int .i64 x.feather]
theorem fursV_len : ∀ l : List FurV, (fursV l).length = l.length * 6
  | [] => rfl
  | x :: l => by
    have : fursV (x :: l) = [.int .i64 x.at_, .int .i64 x.from_, .int .i64 x.lean, .int .i64 x.leans, .int .i64 x.steep, .int .i64 x.feather] ++ fursV l := rfl
    rw [this, List.length_append, fursV_len l]
    simp
    omega
theorem fursV_at : ∀ (l : List FurV) (k : Nat) (x : FurV), l[k]? = some x → ∀ j, j < 6 → (fursV l)[k * 6 + j]? = (furA x)[j]?
  | [], k, x, h, _, _ => by simp at h
  | y :: l, 0, x, h, j, hj => by
    rw [List.getElem?_cons_zero] at h
    cases h
    have : fursV (y :: l) = [.int .i64 y.at_, .int .i64 y.from_, .int .i64 y.lean, .int .i64 y.leans, .int .i64 y.steep, .int .i64 y.feather] ++ fursV l := rfl
    rw [this, List.getElem?_append_left (by simp; omega), Nat.zero_mul, Nat.zero_add]
    unfold furA
    rw [List.getElem?_toArray]
  | y :: l, k + 1, x, h, j, hj => by
    rw [List.getElem?_cons_succ] at h
    have : fursV (y :: l) = [.int .i64 y.at_, .int .i64 y.from_, .int .i64 y.lean, .int .i64 y.leans, .int .i64 y.steep, .int .i64 y.feather] ++ fursV l := rfl
    rw [this, List.getElem?_append_right (by simp; omega), ← fursV_at l k x h j hj]
    congr 1
    simp
    omega
def RdFu (w : World) (a : Option Addr) (n c : Nat) (l : List FurV) : Prop := RdA w 6 a n c (fursV l)
theorem RdFu.len {w : World} {a : Option Addr} {n c : Nat} {l : List FurV} (h : RdFu w a n c l) : l.length = n := by have := RdA.len h; rw [fursV_len] at this; omega
theorem RdFu.below {w w' : World} {a : Option Addr} {n c : Nat} {l : List FurV} (h : RdFu w a n c l) (hb : Below w.heap.size w w') : RdFu w' a n c l := RdA.below h hb
theorem RdFu.get {W : World} {a : Option Addr} {n c : Nat} {l : List FurV} (h : RdFu W a n c l) {k : Nat} {x : FurV} (hk : l[k]? = some x) : ∃ b off, a = some ⟨b, off, none⟩ ∧
    W.cell? ⟨b, off + k * 6, none⟩ = some (.int .i64 x.at_) ∧ W.cell? ⟨b, off + k * 6 + 1, none⟩ = some (.int .i64 x.from_) ∧ W.cell? ⟨b, off + k * 6 + 2, none⟩ = some (.int .i64 x.lean) ∧ W.cell? ⟨b, off + k * 6 + 3, none⟩ = some (.int .i64 x.leans) ∧ W.cell? ⟨b, off + k * 6 + 4, none⟩ = some (.int .i64 x.steep) ∧ W.cell? ⟨b, off + k * 6 + 5, none⟩ = some (.int .i64 x.feather) := by
  have hq := (List.getElem?_eq_some_iff.1 hk).1
  have hl := h.len
  obtain ⟨b, off, rfl, hat⟩ := RdA.at h (by omega)
  have F := fun j hj v hv => hat (k * 6 + j) v ((fursV_at l k x hk j hj).trans hv)
  refine ⟨b, off, rfl, ?_, ?_, ?_, ?_, ?_, ?_⟩
  · exact F 0 (by omega) _ rfl
  · rw [Nat.add_assoc]; exact F 1 (by omega) _ rfl
  · rw [Nat.add_assoc]; exact F 2 (by omega) _ rfl
  · rw [Nat.add_assoc]; exact F 3 (by omega) _ rfl
  · rw [Nat.add_assoc]; exact F 4 (by omega) _ rfl
  · rw [Nat.add_assoc]; exact F 5 (by omega) _ rfl
def idxU (es : List FurV) (p : FurV → Bool) : Int := match es.findIdx? p with | some i => (i : Int) | none => -1
theorem idxU_at {es : List FurV} {p : FurV → Bool} {k : Nat} {x : FurV} (hx : es[k]? = some x) (hp : p x = true) (hb : ∀ j y, j < k → es[j]? = some y → p y = false) : idxU es p = k := by
  have : es.findIdx? p = some k := by
    rw [List.findIdx?_eq_some_iff_getElem]
    obtain ⟨h1, rfl⟩ := List.getElem?_eq_some_iff.1 hx
    exact ⟨h1, hp, fun j hj => by rw [hb j _ hj (List.getElem?_eq_getElem (by omega))]; decide⟩
  simp [idxU, this]
theorem idxU_none {es : List FurV} {p : FurV → Bool} (hb : ∀ j y, j < es.length → es[j]? = some y → p y = false) : idxU es p = -1 := by
  have : es.findIdx? p = none := by
    rw [List.findIdx?_eq_none_iff]
    intro x hx
    obtain ⟨j, h1, h2⟩ := List.getElem_of_mem hx
    exact hb j x h1 (by rw [List.getElem?_eq_getElem h1, h2])
  simp [idxU, this]
theorem idxU_any {es : List FurV} {p : FurV → Bool} : decide (0 ≤ idxU es p) = es.any p := by
  unfold idxU
  cases h : es.findIdx? p with
  | none =>
    rw [List.findIdx?_eq_none_iff] at h
    rw [List.any_eq_false.2 (fun x hx => by rw [h x hx]; decide)]
    rfl
  | some i =>
    obtain ⟨h1, h2, _⟩ := List.findIdx?_eq_some_iff_getElem.1 h
    rw [List.any_eq_true.2 ⟨_, List.getElem_mem h1, h2⟩]
    simp
set_option maxHeartbeats 4000000 in
set_option maxRecDepth 100000 in
theorem indexU_any (es : List FurV) (pred : FurV → Bool) (fn : Nat) (cv : Value) (hfn : ∀ (args : Array Value) (w : World), (callFunc fn args).run Tryz.prog w = .ok (.enter fn args) w)
    (a : Option Addr) (n c : Nat) (w : World) (hr : RdFu w a n c es)
    (hp : ∀ e ∈ es, ∀ W, Below w.heap.size w W → Calls Tryz.prog fn #[.agg (furA e), cv] W fun r W' => r = .returned (.bool (pred e)) ∧ Below W.heap.size W W') :
    Calls Tryz.prog 112 #[.slice a n c, .func (.func fn) #[] #[cv]] w fun e w' => e = .returned (.int .i64 (idxU es pred)) ∧ Below w.heap.size w w' := by
  have I6 : (Tryz.prog.info? 76).map (·.size) = some 6 := by kernel_rfl
  have hn63 : n ≤ 9223372036854775807 := RdA.maxn hr
  have HN : Hid (es.length = n) := Lib.hid hr.len
  have RE := Lib.hid (show ∀ W, Below w.heap.size w W → RdFu W a n c es from fun W h => hr.below h)
  have HPD := Lib.hid hp
  clear hr hp
  go_enter Tryz.func112, Tryz.ntmps112
  go_wp2_with fail
  go_loopw [5, 8] (fun _ i wr => ∃ k : Nat, i = .int .i64 k ∧ k ≤ n ∧ Hid (∀ j y, j < k → es[j]? = some y → pred y = false) ∧ Hid (Below w.heap.size w wr)) (fun _ i _ => n - (intOf i).toNat)
  case atStart => exact ⟨0, rfl, Nat.zero_le _, Lib.hid (fun j y h => by omega), Lib.hid (Below.refl _ _)⟩
  case round =>
    obtain ⟨k, rfl, hk, HB, B1⟩ := hrel
    by_cases hkn : k < n
    · have t0 : decide ((k : Int) < (n : Int)) = true := by simp; omega
      obtain ⟨x, Hx⟩ : ∃ x, es[k]? = some x := ⟨es[k]'(by rw [HN.out]; exact hkn), List.getElem?_eq_getElem (by rw [HN.out]; exact hkn)⟩
      obtain ⟨b, off, rfl, hk1, hk2, hk3, hk4, hk5, hk6⟩ := (RE.out _ B1.out).get Hx
      obtain ⟨o, ho⟩ : ∃ o, Hid (off + k * 6 = o) := ⟨_, Lib.hid rfl⟩
      rw [ho.out] at hk1 hk2 hk3 hk4 hk5 hk6
      have hi := fun W => qidx (W := W) (c := c) (b := b) Tryz.underlying22 I6 hkn ho.out
      have hk64 : (k : Int) + 1 ≤ 9223372036854775807 := by omega
      go_wp2_with fail
      refine (HPD.out x (List.mem_of_getElem? Hx) _ B1.out).mono ?_
      rintro e w2 ⟨rfl, b2⟩
      have B2 := Lib.hid (B1.out.trans (b2.mono B1.out.size))
      clear b2 hi t0 hk1 hk2 hk3 hk4 hk5 hk6
      cases hpx : pred x with
      | true =>
        go_wp2_with fail
        go_ret
        exact ⟨by rw [idxU_at Hx hpx HB.out]; rfl, B2.out⟩
      | false =>
        have HPX := Lib.hid hpx; clear hpx
        go_wp2_with fail
        go_roundw
        case rel => exact ⟨k + 1, by simp, by omega, Lib.hid (fun j y hj hy => by
          rcases Nat.lt_or_ge j k with h | h
          · exact HB.out j y h hy
          · have e : j = k := by omega
            subst e
            rw [Hx] at hy
            cases hy
            exact HPX.out), B2⟩
        case measure => simp [intOf]; omega
    · have t0 : decide ((k : Int) < (n : Int)) = false := by simp; omega
      go_wp2_with fail
      go_ret
      exact ⟨by rw [idxU_none (fun j y hj hy => HB.out j y (by have := HN.out; omega) hy)]; rfl, B1.out⟩
set_option maxHeartbeats 4000000 in
set_option maxRecDepth 100000 in
theorem containsU_any (es : List FurV) (pred : FurV → Bool) (fn : Nat) (cv : Value) (hfn : ∀ (args : Array Value) (w : World), (callFunc fn args).run Tryz.prog w = .ok (.enter fn args) w)
    (a : Option Addr) (n c : Nat) (w : World) (hr : RdFu w a n c es)
    (hp : ∀ e ∈ es, ∀ W, Below w.heap.size w W → Calls Tryz.prog fn #[.agg (furA e), cv] W fun r W' => r = .returned (.bool (pred e)) ∧ Below W.heap.size W W') :
    Calls Tryz.prog 70 #[.slice a n c, .func (.func fn) #[] #[cv]] w fun e w' => e = .returned (.bool (es.any pred)) ∧ Below w.heap.size w w' := by
  have HX := Lib.hid (indexU_any es pred fn cv hfn a n c w hr hp)
  clear hr hp hfn
  go_enter Tryz.func70, Tryz.ntmps70
  go_wp2_with fail
  refine HX.out.mono ?_
  rintro e w1 ⟨rfl, b1⟩
  have B1 := Lib.hid b1
  clear b1
  have hq := @idxU_any es pred
  go_wp2_with fail
  go_ret
  exact ⟨by first | rfl | (rw [← hq]; rfl), B1.out⟩
end Go.Proofs.YtimmadkbkimonaaGreatDoor
namespace Go.Proofs.YtimmadkbkimonaaGreatDoor
set_option linter.unusedSimpArgs false
set_option linter.unusedVariables false
open Go.RowKit

def patA (p : PatV) (fa : Option Addr) (fn : Nat) : Array Value := #[.int .i64 p.eye, .int .i64 p.rings, .int .i64 p.harps, .int .i64 p.wide, .slice fa p.furs.length fn]
theorem qJP (p : PatV) (fa : Option Addr) (fn : Nat) : (Tryz.prog.info? 24).map (·.size) = some (patA p fa fn).size := by kernel_rfl
theorem qJU (x : FurV) : (Tryz.prog.info? 76).map (·.size) = some (furA x).size := by kernel_rfl
set_option maxHeartbeats 4000000 in
set_option maxRecDepth 100000 in
theorem furB_any (p : PatV) (fa : Option Addr) (fn : Nat) (x : FurV) (P : Nat) (w : World) (hw : 1 ≤ p.wide ∧ p.wide ≤ 96) (hg : 1 ≤ p.rings ∧ p.rings ≤ 24) (hX : w.heap[P]? = some (.cells (patA p fa fn) 24 (0, 0))) :
    Calls Tryz.prog 71 #[.agg (furA x), .pointer (some ⟨P, 0, none⟩)] w fun e w' => e = .returned (.bool (!furB p x)) ∧ Below w.heap.size w w' := by
  have N0 : Hid (inB x.at_ 0 (p.wide - 1) = false → furB p x = false) := Lib.hid (fun h => by unfold furB; rw [h]; simp)
  have N1 : Hid (inB x.from_ 0 (p.rings - 1) = false → furB p x = false) := Lib.hid (fun h => by unfold furB; rw [h]; simp)
  have N2 : Hid (inB x.lean (-96) 96 = false → furB p x = false) := Lib.hid (fun h => by unfold furB; rw [h]; simp)
  have N3 : Hid (inB x.leans 1 96 = false → furB p x = false) := Lib.hid (fun h => by unfold furB; rw [h]; simp)
  have N4 : Hid (inB x.steep 1 p.wide = false → furB p x = false) := Lib.hid (fun h => by unfold furB; rw [h]; simp)
  have N5 : Hid (inB x.feather 0 p.wide = false → furB p x = false) := Lib.hid (fun h => by unfold furB; rw [h]; simp)
  have NY : Hid (inB x.at_ 0 (p.wide - 1) = true → inB x.from_ 0 (p.rings - 1) = true → inB x.lean (-96) 96 = true → inB x.leans 1 96 = true → inB x.steep 1 p.wide = true → inB x.feather 0 p.wide = true → furB p x = decide (x.steep + x.feather < p.wide)) := Lib.hid (fun h0 h1 h2 h3 h4 h5 => by unfold furB; rw [h0, h1, h2, h3, h4, h5]; simp)
  have WW := Lib.hid (show wrap64 (p.wide - 1) = p.wide - 1 by unfold wrap64; omega)
  have WR := Lib.hid (show wrap64 (p.rings - 1) = p.rings - 1 by unfold wrap64; omega)
  have HB := Lib.hid (And.intro hw hg)
  have XPP := Lib.hid (fun W (hb : Below w.heap.size w W) => qblk hb hX)
  clear hw hg hX
  have AL := Lib.hid (al1 w (.cells (furA x) 76))
  go_enter Tryz.func71, Tryz.ntmps71
  go_upto_region 1 with fail
  obtain ⟨q, hq⟩ : ∃ q, Hid (w.heap.size = q) := ⟨_, Lib.hid rfl⟩
  rw [hq.out] at AL ⊢
  generalize (w.alloc (.cells (furA x) 76)) = W0 at *
  have BF : Hid (Below w.heap.size w W0) := Lib.hid (by rw [hq.out]; exact AL.out.1)
  have XU : Hid (W0.heap[q]? = some (.cells (furA x) 76 (0, 0))) := Lib.hid AL.out.2
  clear AL
  have u0 := qcell XU.out 0 (.int .i64 x.at_) rfl
  have u1 := qcell XU.out 1 (.int .i64 x.from_) rfl
  have u2 := qcell XU.out 2 (.int .i64 x.lean) rfl
  have u3 := qcell XU.out 3 (.int .i64 x.leans) rfl
  have u4 := qcell XU.out 4 (.int .i64 x.steep) rfl
  have u5 := qcell XU.out 5 (.int .i64 x.feather) rfl
  have XP := Lib.hid (XPP.out W0 BF.out)
  have c1 := qcell XP.out 1 (.int .i64 p.rings) rfl
  have c3 := qcell XP.out 3 (.int .i64 p.wide) rfl
  have ww := WW.out
  have wr := WR.out
  refine yB ?_
  refine yW (.pointer (some ⟨q, 0, none⟩)) ?_
  refine yW (.int .i64 x.at_) ?_
  refine yW (.pointer (some ⟨P, 3, none⟩)) ?_
  refine yW (.int .i64 p.wide) ?_
  refine yW (.int .i64 (p.wide - 1)) ?_ (.inl ⟨by kernel_rfl, by intro W hW; rw [hW]; go_simp; exact (IntWalk.i64_left _).trans WW.out⟩)
  refine yR (fun K hK => ?_)
  go_simp
  refine (within_any x.at_ 0 (p.wide - 1) _).mono ?_
  rintro e V1 ⟨rfl, rfl⟩
  cases h0 : inB x.at_ 0 (p.wide - 1)
  · have HN := Lib.hid (N0.out h0)
    clear h0
    try dsimp only
    refine yK hK ?_
    clear hK K
    refine yM (.bool true) ?_
    refine yM (.bool true) ?_
    go_skip
    refine yM (.bool true) ?_
    refine yM (.bool true) ?_
    go_skip
    refine yM (.bool true) ?_
    refine yM (.bool true) ?_
    go_skip
    refine yM (.bool true) ?_
    refine yM (.bool true) ?_
    go_skip
    refine yM (.bool true) ?_
    refine yM (.bool true) ?_
    go_skip
    refine yM (.bool true) ?_
    refine yM (.bool true) ?_
    go_skip
    refine yM (.bool true) ?_
    refine yM (.bool true) ?_
    refine yE ?_
    go_wp2_with fail
    go_ret
    exact ⟨by rw [HN.out]; rfl, BF.out⟩
  · have H0 := Lib.hid h0
    clear h0
    try dsimp only
    refine yK hK ?_
    clear hK K
    refine yM (.bool false) ?_
    refine yM (.bool false) ?_
    refine yW (.pointer (some ⟨q, 1, none⟩)) ?_
    refine yW (.int .i64 x.from_) ?_
    refine yW (.pointer (some ⟨P, 1, none⟩)) ?_
    refine yW (.int .i64 p.rings) ?_
    refine yW (.int .i64 (p.rings - 1)) ?_ (.inl ⟨by kernel_rfl, by intro W hW; rw [hW]; go_simp; exact (IntWalk.i64_left _).trans WR.out⟩)
    refine yR (fun K hK => ?_)
    go_simp
    refine (within_any x.from_ 0 (p.rings - 1) _).mono ?_
    rintro e V2 ⟨rfl, rfl⟩
    cases h1 : inB x.from_ 0 (p.rings - 1)
    · have HN := Lib.hid (N1.out h1)
      clear h1
      try dsimp only
      refine yK hK ?_
      clear hK K
      refine yM (.bool true) ?_
      refine yM (.bool true) ?_
      refine yM (.bool true) ?_
      go_skip
      refine yM (.bool true) ?_
      refine yM (.bool true) ?_
      go_skip
      refine yM (.bool true) ?_
      refine yM (.bool true) ?_
      go_skip
      refine yM (.bool true) ?_
      refine yM (.bool true) ?_
      go_skip
      refine yM (.bool true) ?_
      refine yM (.bool true) ?_
      go_skip
      refine yM (.bool true) ?_
      refine yM (.bool true) ?_
      refine yE ?_
      go_wp2_with fail
      go_ret
      exact ⟨by rw [HN.out]; rfl, BF.out⟩
    · have H1 := Lib.hid h1
      clear h1
      try dsimp only
      refine yK hK ?_
      clear hK K
      refine yM (.bool false) ?_
      refine yM (.bool false) ?_
      refine yM (.bool false) ?_
      refine yW (.pointer (some ⟨q, 2, none⟩)) ?_
      refine yW (.int .i64 x.lean) ?_
      refine yR (fun K hK => ?_)
      go_simp
      refine (within_any x.lean (-96) 96 _).mono ?_
      rintro e V3 ⟨rfl, rfl⟩
      cases h2 : inB x.lean (-96) 96
      · have HN := Lib.hid (N2.out h2)
        clear h2
        try dsimp only
        refine yK hK ?_
        clear hK K
        refine yM (.bool true) ?_
        refine yM (.bool true) ?_
        refine yM (.bool true) ?_
        go_skip
        refine yM (.bool true) ?_
        refine yM (.bool true) ?_
        go_skip
        refine yM (.bool true) ?_
        refine yM (.bool true) ?_
        go_skip
        refine yM (.bool true) ?_
        refine yM (.bool true) ?_
        go_skip
        refine yM (.bool true) ?_
        refine yM (.bool true) ?_
        refine yE ?_
        go_wp2_with fail
        go_ret
        exact ⟨by rw [HN.out]; rfl, BF.out⟩
      · have H2 := Lib.hid h2
        clear h2
        try dsimp only
        refine yK hK ?_
        clear hK K
        refine yM (.bool false) ?_
        refine yM (.bool false) ?_
        refine yM (.bool false) ?_
        refine yW (.pointer (some ⟨q, 3, none⟩)) ?_
        refine yW (.int .i64 x.leans) ?_
        refine yR (fun K hK => ?_)
        go_simp
        refine (within_any x.leans 1 96 _).mono ?_
        rintro e V4 ⟨rfl, rfl⟩
        cases h3 : inB x.leans 1 96
        · have HN := Lib.hid (N3.out h3)
          clear h3
          try dsimp only
          refine yK hK ?_
          clear hK K
          refine yM (.bool true) ?_
          refine yM (.bool true) ?_
          refine yM (.bool true) ?_
          go_skip
          refine yM (.bool true) ?_
          refine yM (.bool true) ?_
          go_skip
          refine yM (.bool true) ?_
          refine yM (.bool true) ?_
          go_skip
          refine yM (.bool true) ?_
          refine yM (.bool true) ?_
          refine yE ?_
          go_wp2_with fail
          go_ret
          exact ⟨by rw [HN.out]; rfl, BF.out⟩
        · have H3 := Lib.hid h3
          clear h3
          try dsimp only
          refine yK hK ?_
          clear hK K
          refine yM (.bool false) ?_
          refine yM (.bool false) ?_
          refine yM (.bool false) ?_
          refine yW (.pointer (some ⟨q, 4, none⟩)) ?_
          refine yW (.int .i64 x.steep) ?_
          refine yW (.pointer (some ⟨P, 3, none⟩)) ?_
          refine yW (.int .i64 p.wide) ?_
          refine yR (fun K hK => ?_)
          go_simp
          refine (within_any x.steep 1 p.wide _).mono ?_
          rintro e V5 ⟨rfl, rfl⟩
          cases h4 : inB x.steep 1 p.wide
          · have HN := Lib.hid (N4.out h4)
            clear h4
            try dsimp only
            refine yK hK ?_
            clear hK K
            refine yM (.bool true) ?_
            refine yM (.bool true) ?_
            refine yM (.bool true) ?_
            go_skip
            refine yM (.bool true) ?_
            refine yM (.bool true) ?_
            go_skip
            refine yM (.bool true) ?_
            refine yM (.bool true) ?_
            refine yE ?_
            go_wp2_with fail
            go_ret
            exact ⟨by rw [HN.out]; rfl, BF.out⟩
          · have H4 := Lib.hid h4
            clear h4
            try dsimp only
            refine yK hK ?_
            clear hK K
            refine yM (.bool false) ?_
            refine yM (.bool false) ?_
            refine yM (.bool false) ?_
            refine yW (.pointer (some ⟨q, 5, none⟩)) ?_
            refine yW (.int .i64 x.feather) ?_
            refine yW (.pointer (some ⟨P, 3, none⟩)) ?_
            refine yW (.int .i64 p.wide) ?_
            refine yR (fun K hK => ?_)
            go_simp
            refine (within_any x.feather 0 p.wide _).mono ?_
            rintro e V6 ⟨rfl, rfl⟩
            cases h5 : inB x.feather 0 p.wide
            · have HN := Lib.hid (N5.out h5)
              clear h5
              try dsimp only
              refine yK hK ?_
              clear hK K
              refine yM (.bool true) ?_
              refine yM (.bool true) ?_
              refine yM (.bool true) ?_
              go_skip
              refine yM (.bool true) ?_
              refine yM (.bool true) ?_
              refine yE ?_
              go_wp2_with fail
              go_ret
              exact ⟨by rw [HN.out]; rfl, BF.out⟩
            · have H5 := Lib.hid h5
              clear h5
              try dsimp only
              refine yK hK ?_
              clear hK K
              refine yM (.bool false) ?_
              refine yM (.bool false) ?_
              refine yM (.bool false) ?_
              refine yW (.pointer (some ⟨q, 4, none⟩)) ?_
              refine yW (.int .i64 x.steep) ?_
              refine yW (.pointer (some ⟨q, 5, none⟩)) ?_
              refine yW (.int .i64 x.feather) ?_
              have ws : wrap64 (x.steep + x.feather) = x.steep + x.feather := by
                have h4 := inB_true.1 H4.out
                have h5 := inB_true.1 H5.out
                have := HB.out
                unfold wrap64
                omega
              have HY := Lib.hid (NY.out H0.out H1.out H2.out H3.out H4.out H5.out)
              refine yW (.int .i64 (x.steep + x.feather)) ?_ (.inl ⟨by kernel_rfl, by intro W hW; rw [hW]; go_simp; exact (IntWalk.i64_left _).trans ws⟩)
              refine yW (.pointer (some ⟨P, 3, none⟩)) ?_
              refine yW (.int .i64 p.wide) ?_
              cases hs : decide (p.wide ≤ x.steep + x.feather)
              · have HN : Hid (furB p x = true) := Lib.hid (by rw [HY.out, decide_eq_true_eq]; have := of_decide_eq_false hs; omega)
                refine yW (.bool false) ?_
                refine yM (.bool false) ?_
                refine yM (.bool false) ?_
                refine yE ?_
                go_wp2_with fail
                go_ret
                exact ⟨by rw [HN.out]; rfl, BF.out⟩
              · have HN : Hid (furB p x = false) := Lib.hid (by rw [HY.out, decide_eq_false_iff_not]; have := of_decide_eq_true hs; omega)
                refine yW (.bool true) ?_
                refine yM (.bool true) ?_
                refine yM (.bool true) ?_
                refine yE ?_
                go_wp2_with fail
                go_ret
                exact ⟨by rw [HN.out]; rfl, BF.out⟩
set_option maxHeartbeats 4000000 in
set_option maxRecDepth 100000 in
theorem validP_any (p : PatV) (fa : Option Addr) (fn : Nat) (w : World) (hr : RdFu w fa p.furs.length fn p.furs) :
    Calls Tryz.prog 14 #[.agg (patA p fa fn)] w fun e w' => e = .returned (.bool p.valid) ∧ Below w.heap.size w w' := by
  have N0 : Hid (inB p.eye 1 16 = false → p.valid = false) := Lib.hid (fun h => by unfold PatV.valid; rw [h]; simp)
  have N1 : Hid (inB p.rings 1 24 = false → p.valid = false) := Lib.hid (fun h => by unfold PatV.valid; rw [h]; simp)
  have N2 : Hid (inB p.harps 1 96 = false → p.valid = false) := Lib.hid (fun h => by unfold PatV.valid; rw [h]; simp)
  have N3 : Hid (inB p.wide 1 96 = false → p.valid = false) := Lib.hid (fun h => by unfold PatV.valid; rw [h]; simp)
  have N4 : Hid (inB (p.harps * p.wide) 2 96 = false → p.valid = false) := Lib.hid (fun h => by unfold PatV.valid; rw [h]; simp)
  have N5 : Hid (¬ p.furs.length ≤ 16 → p.valid = false) := Lib.hid (fun h => by unfold PatV.valid; rw [decide_eq_false h]; simp)
  have NY : Hid (inB p.eye 1 16 = true → inB p.rings 1 24 = true → inB p.harps 1 96 = true → inB p.wide 1 96 = true → inB (p.harps * p.wide) 2 96 = true → p.furs.length ≤ 16 → p.valid = !(p.furs.any fun x => !furB p x)) := Lib.hid (fun h0 h1 h2 h3 h4 h5 => by unfold PatV.valid; rw [h0, h1, h2, h3, h4, decide_eq_true h5]; simp [List.all_eq_not_any_not])
  have HR := Lib.hid (fun W (hb : Below w.heap.size w W) => hr.below hb)
  clear hr
  have VFN := Lib.hid (show ∀ (args : Array Value) (w : World), (callFunc 71 args).run Tryz.prog w = .ok (.enter 71 args) w from fun args w => by kernel_rfl)
  have AL := Lib.hid (al1 w (.cells (patA p fa fn) 24))
  go_enter Tryz.func14, Tryz.ntmps14
  go_upto_region 1 with fail
  obtain ⟨q, hq⟩ : ∃ q, Hid (w.heap.size = q) := ⟨_, Lib.hid rfl⟩
  rw [hq.out] at AL ⊢
  generalize (w.alloc (.cells (patA p fa fn) 24)) = W0 at *
  have BF : Hid (Below w.heap.size w W0) := Lib.hid (by rw [hq.out]; exact AL.out.1)
  have XP : Hid (W0.heap[q]? = some (.cells (patA p fa fn) 24 (0, 0))) := Lib.hid AL.out.2
  clear AL
  have c0 := qcell XP.out 0 (.int .i64 p.eye) rfl
  have c1 := qcell XP.out 1 (.int .i64 p.rings) rfl
  have c2 := qcell XP.out 2 (.int .i64 p.harps) rfl
  have c3 := qcell XP.out 3 (.int .i64 p.wide) rfl
  have c4 := qcell XP.out 4 (.slice fa p.furs.length fn) rfl
  go_wp2_with (first
    | (refine wpList_load_row rfl 24 _ rfl q rfl 24 (patA p fa fn) (0, 0) _ XP.out Tryz.underlying24 rfl (by exact (qJP p fa fn)) ?_)
    | fail)
  refine (within_any p.eye 1 16 _).mono ?_
  rintro e V1 ⟨rfl, rfl⟩
  cases h0 : inB p.eye 1 16
  · have HN := Lib.hid (N0.out h0)
    clear h0
    go_wp2_with (first
      | (refine wpList_load_row rfl 24 _ rfl q rfl 24 (patA p fa fn) (0, 0) _ XP.out Tryz.underlying24 rfl (by exact (qJP p fa fn)) ?_)
      | fail)
    go_ret
    exact ⟨by rw [HN.out]; rfl, BF.out⟩
  have H0 := Lib.hid h0
  clear h0
  go_wp2_with (first
    | (refine wpList_load_row rfl 24 _ rfl q rfl 24 (patA p fa fn) (0, 0) _ XP.out Tryz.underlying24 rfl (by exact (qJP p fa fn)) ?_)
    | fail)
  refine (within_any p.rings 1 24 _).mono ?_
  rintro e V2 ⟨rfl, rfl⟩
  cases h1 : inB p.rings 1 24
  · have HN := Lib.hid (N1.out h1)
    clear h1
    go_wp2_with (first
      | (refine wpList_load_row rfl 24 _ rfl q rfl 24 (patA p fa fn) (0, 0) _ XP.out Tryz.underlying24 rfl (by exact (qJP p fa fn)) ?_)
      | fail)
    go_ret
    exact ⟨by rw [HN.out]; rfl, BF.out⟩
  have H1 := Lib.hid h1
  clear h1
  go_wp2_with (first
    | (refine wpList_load_row rfl 24 _ rfl q rfl 24 (patA p fa fn) (0, 0) _ XP.out Tryz.underlying24 rfl (by exact (qJP p fa fn)) ?_)
    | fail)
  refine (within_any p.harps 1 96 _).mono ?_
  rintro e V3 ⟨rfl, rfl⟩
  cases h2 : inB p.harps 1 96
  · have HN := Lib.hid (N2.out h2)
    clear h2
    go_wp2_with (first
      | (refine wpList_load_row rfl 24 _ rfl q rfl 24 (patA p fa fn) (0, 0) _ XP.out Tryz.underlying24 rfl (by exact (qJP p fa fn)) ?_)
      | fail)
    go_ret
    exact ⟨by rw [HN.out]; rfl, BF.out⟩
  have H2 := Lib.hid h2
  clear h2
  go_wp2_with (first
    | (refine wpList_load_row rfl 24 _ rfl q rfl 24 (patA p fa fn) (0, 0) _ XP.out Tryz.underlying24 rfl (by exact (qJP p fa fn)) ?_)
    | fail)
  refine (within_any p.wide 1 96 _).mono ?_
  rintro e V4 ⟨rfl, rfl⟩
  cases h3 : inB p.wide 1 96
  · have HN := Lib.hid (N3.out h3)
    clear h3
    go_wp2_with (first
      | (refine wpList_load_row rfl 24 _ rfl q rfl 24 (patA p fa fn) (0, 0) _ XP.out Tryz.underlying24 rfl (by exact (qJP p fa fn)) ?_)
      | fail)
    go_ret
    exact ⟨by rw [HN.out]; rfl, BF.out⟩
  have H3 := Lib.hid h3
  clear h3
  have ws : wrap64 (p.harps * p.wide) = p.harps * p.wide := by
    have h2 := inB_true.1 H2.out
    have h3 := inB_true.1 H3.out
    have h5 : p.harps * p.wide ≤ 96 * 96 := Int.mul_le_mul (by omega) (by omega) (by omega) (by omega)
    have h6 := Int.mul_nonneg (show 0 ≤ p.harps by omega) (show 0 ≤ p.wide by omega)
    unfold wrap64
    omega
  go_wp2_with (first
    | (refine wpList_load_row rfl 24 _ rfl q rfl 24 (patA p fa fn) (0, 0) _ XP.out Tryz.underlying24 rfl (by exact (qJP p fa fn)) ?_)
    | fail)
  refine (within_any (p.harps * p.wide) 2 96 _).mono ?_
  rintro e V5 ⟨rfl, rfl⟩
  cases h4 : inB (p.harps * p.wide) 2 96
  · have HN := Lib.hid (N4.out h4)
    clear h4
    go_wp2_with (first
      | (refine wpList_load_row rfl 24 _ rfl q rfl 24 (patA p fa fn) (0, 0) _ XP.out Tryz.underlying24 rfl (by exact (qJP p fa fn)) ?_)
      | fail)
    go_ret
    exact ⟨by rw [HN.out]; rfl, BF.out⟩
  have H4 := Lib.hid h4
  clear h4
  cases h5 : decide ((16 : Int) < (p.furs.length : Int))
  case true =>
    have HN := Lib.hid (N5.out (by have := of_decide_eq_true h5; omega))
    go_wp2_with (first
      | (refine wpList_load_row rfl 24 _ rfl q rfl 24 (patA p fa fn) (0, 0) _ XP.out Tryz.underlying24 rfl (by exact (qJP p fa fn)) ?_)
      | fail)
    go_ret
    exact ⟨by rw [HN.out]; rfl, BF.out⟩
  have HY := Lib.hid (NY.out H0.out H1.out H2.out H3.out H4.out (by have := of_decide_eq_false h5; omega))
  have HW := Lib.hid (And.intro (inB_true.1 H3.out) (inB_true.1 H1.out))
  clear N0 N1 N2 N3 N4 N5 NY
  go_wp2_with (first
    | (refine wpList_load_row rfl 24 _ rfl q rfl 24 (patA p fa fn) (0, 0) _ XP.out Tryz.underlying24 rfl (by exact (qJP p fa fn)) ?_)
    | fail)
  refine (containsU_any p.furs (fun x => !furB p x) 71 (.pointer (some ⟨q, 0, none⟩)) VFN.out fa p.furs.length fn _ (HR.out _ BF.out) (fun x _ W hb => furB_any p fa fn x q W HW.out.1 HW.out.2 (qblk hb XP.out))).mono ?_
  rintro e V9 ⟨rfl, b⟩
  replace BF := Lib.hid (BF.out.trans (b.mono BF.out.size))
  clear b
  go_wp2_with fail
  go_ret
  exact ⟨by rw [HY.out]; rfl, BF.out⟩
end Go.Proofs.YtimmadkbkimonaaGreatDoor
namespace Go.Proofs.YtimmadkbkimonaaGreatDoor
set_option linter.unusedSimpArgs false
set_option linter.unusedVariables false
open Go.RowKit

def mapR (f : FaceV) (s : Nat) (of : Int → Int) (i j : Nat) : List Int := mapK f s of i ++ (List.range j).map fun (j : Nat) => f.kat (indexF f i (of j)).toNat
theorem mapR_len (f : FaceV) (s : Nat) (of : Int → Int) (i j : Nat) : (mapR f s of i j).length = i * s + j := by
  unfold mapR
  rw [List.length_append, mapK_len, List.length_map, List.length_range]
theorem mapR_zero (f : FaceV) (s : Nat) (of : Int → Int) (i : Nat) : mapR f s of i 0 = mapK f s of i := by unfold mapR; simp
theorem mapR_next (f : FaceV) (s : Nat) (of : Int → Int) (i j : Nat) : mapR f s of i (j + 1) = mapR f s of i j ++ [f.kat (indexF f i (of j)).toNat] := by
  unfold mapR
  rw [List.range_succ, List.map_append, List.append_assoc]
  rfl
theorem mapR_row (f : FaceV) (s : Nat) (of : Int → Int) (i : Nat) : mapR f s of i s = mapK f s of (i + 1) := by
  unfold mapR mapK
  rw [List.range_succ, List.flatMap_append]
  simp
def outF (f : FaceV) (s : Nat) (l : List Int) : FaceV := ⟨f.eye, f.rings, s, l⟩
structure MapAt (w : World) (p z o : Nat) (f : FaceV) (a : Option Addr) (n s : Nat) (l : List Int) (oa : Option Addr) (oc : Nat) (W : World) : Prop where
  bel : Below w.heap.size w W
  p : W.heap[p]? = some (.cells (f.cells a n) 28 (0, 0))
  z : W.heap[z]? = some (.cells (zeroF.cells none 0) 28 (0, 0))
  o : W.heap[o]? = some (.cells ((outF f s l).cells oa oc) 28 (0, 0))
  own : W.ownsRow w.heap.size 3 1 (.slice oa l.length oc) l.length (l.map intV)
theorem MapAt.below {w : World} {p z o : Nat} {f : FaceV} {a : Option Addr} {n s : Nat} {l : List Int} {oa : Option Addr} {oc : Nat} {W W' : World} (h : MapAt w p z o f a n s l oa oc W) (hb : Below W.heap.size W W') : MapAt w p z o f a n s l oa oc W' :=
  ⟨h.bel.trans (hb.mono h.bel.size), qblk hb h.p, qblk hb h.z, qblk hb h.o, own_below h.own hb⟩
section
variable {P : Program} {ops : Array Oper}
theorem bDq {id : Nat} {a : Act} {w W : World} {Q : Exit → Act → World → Prop} (m : Nat) (S : World → Prop) (hS : S W) (h : S W → AnyBut P .any ops (NoPanic Q) m S ops.size (Array.replicate ops.size false) a W) (hW : w.drew = W := by assumption) (hm : P.follows .mixedOrders = true := by kernel_rfl) :
    (Code.region id ops true).wp P Q a w := by
  subst hW
  exact bD m S hS h hm
end
set_option maxHeartbeats 4000000 in
set_option maxRecDepth 100000 in
theorem mapped_any (f : FaceV) (a : Option Addr) (n s : Nat) (of : Int → Int) (fn : Nat) (cap : Array Value) (w : World) (hv : f.valid = true) (hr : RdI w a f.kinds.length n f.kinds) (hs : 1 ≤ s ∧ s ≤ 96)
    (hfn : ∀ (args : Array Value) (w : World), (callFunc fn args).run Tryz.prog w = .ok (.enter fn args) w)
    (hcl : ∀ (j : Nat) W, Below w.heap.size w W → j < s → Calls Tryz.prog fn (#[.int .i64 j] ++ cap) W fun e W' => e = .returned (.int .i64 (of j)) ∧ Below W.heap.size W W') :
    Calls Tryz.prog 100 #[.agg (f.cells a n), .int .i64 s, .func (.func fn) #[] cap] w fun e w' => ∃ a' n', e = .returned (.agg ((mapF f s of).cells a' n')) ∧ w'.ownsRow w.heap.size 3 1 (.slice a' (mapK f s of f.R).length n') (mapK f s of f.R).length ((mapK f s of f.R).map intV) ∧ Below w.heap.size w w' := by
  have HR := Lib.hid (fun W (hb : Below w.heap.size w W) => hr.below hb)
  have HCL := Lib.hid hcl
  have HFN := Lib.hid hfn
  have IV := Lib.hid (FaceV.int hv)
  have NV := Lib.hid (FaceV.nat hv)
  have LL := Lib.hid (FaceV.len_le hv)
  have HV := Lib.hid hv
  have HS := Lib.hid hs
  clear hr hcl hfn hv hs
  have AL := Lib.hid (al2 w (.cells (f.cells a n) 28) (.cells #[.int .i64 0, .int .i64 0, .int .i64 0, .slice none 0 0] 28))
  go_enter Tryz.func100, Tryz.ntmps100
  go_upto_region 1 with fail
  obtain ⟨p, hp⟩ : ∃ p, Hid (w.heap.size = p) := ⟨_, Lib.hid rfl⟩
  obtain ⟨z, hz⟩ : ∃ z, Hid (w.heap.size + 1 = z) := ⟨_, Lib.hid rfl⟩
  rw [hz.out] at AL ⊢
  rw [hp.out] at AL ⊢
  generalize ((w.alloc (.cells (f.cells a n) 28)).alloc (.cells #[.int .i64 0, .int .i64 0, .int .i64 0, .slice none 0 0] 28)) = W0 at *
  have BF : Hid (Below w.heap.size w W0) := Lib.hid (by rw [hp.out]; exact AL.out.1)
  have XF : Hid (W0.heap[p]? = some (.cells (f.cells a n) 28 (0, 0))) := Lib.hid AL.out.2.1
  have XZ : Hid (W0.heap[z]? = some (.cells (zeroF.cells none 0) 28 (0, 0))) := Lib.hid AL.out.2.2
  clear AL
  have c0 := qcell XF.out 0 (.int .i64 f.eye) rfl
  have c1 := qcell XF.out 1 (.int .i64 f.rings) rfl
  have c2 := qcell XF.out 2 (.int .i64 f.sectors) rfl
  have c3 := qcell XF.out 3 (.slice a f.kinds.length n) rfl
  go_upto_region 2 with (first
    | (refine wpList_load_row rfl 28 _ rfl p rfl 28 (f.cells a n) (0, 0) _ XF.out Tryz.underlying28 rfl (by exact (qJF f a n)) ?_)
    | (refine wpList_load_row rfl 28 _ rfl z rfl 28 (zeroF.cells none 0) (0, 0) _ XZ.out Tryz.underlying28 rfl (by exact (qJF zeroF none 0)) ?_)
    | (refine wpList_store_new W0 rfl 28 _ _ rfl (zeroF.cells none 0) ((outF f s []).cells none 0) rfl rfl (by exact qJF (outF f s []) none 0) rfl (qone (outF f s []) none 0) ?_)
    | fail)
  clear c0 c1 c2 c3
  have AL := al1 W0 (.cells ((outF f s []).cells none 0) 28)
  have M0 : Hid (MapAt w p z W0.heap.size f a n s (mapR f s of 0 0) none 0 (W0.alloc (.cells ((outF f s []).cells none 0) 28))) := Lib.hid ⟨BF.out.trans (AL.1.mono BF.out.size), qblk AL.1 XF.out, qblk AL.1 XZ.out, AL.2, World.ownsRow_nil _ _ _ _⟩
  obtain ⟨o, ho⟩ : ∃ o, Hid (W0.heap.size = o) := ⟨_, Lib.hid rfl⟩
  have OGE : Hid (w.heap.size ≤ o ∧ o ≠ p ∧ o ≠ z ∧ w.heap.size = p ∧ w.heap.size + 1 = z) := Lib.hid (by have h1 := qlt XF.out; have h2 := qlt XZ.out; have := BF.out.size; have := ho.out; have := hp.out; have := hz.out; omega)
  rw [ho.out] at M0 ⊢
  clear AL BF XF XZ
  generalize W0.alloc (.cells ((outF f s []).cells none 0) 28) = W1 at *
  have c1 := qcell M0.out.p 1 (.int .i64 f.rings) rfl
  go_wp2_with fail
  clear c1
  have eR := NV.out.1
  have eRR : f.rings = (f.R : Int) := eR
  rw [eRR]
  clear eR eRR
  go_loopw [18] (fun i wr => ∃ (k : Nat) (oa : Option Addr) (oc : Nat), i = .int .i64 k ∧ k ≤ f.R ∧ Hid (MapAt w p z o f a n s (mapR f s of k 0) oa oc wr)) (fun i _ => f.R - (intOf i).toNat)
  case atStart => exact ⟨0, none, 0, rfl, Nat.zero_le _, M0⟩
  case round =>
    clear M0
    obtain ⟨i, oa, oc, rfl, hi, M1⟩ := hrel
    have hi64 : (i : Int) + 1 ≤ 9223372036854775807 := by have := NV.out; omega
    by_cases hiR : i < f.R
    · have t0 : decide ((i : Int) < (f.R : Int)) = true := by simp; omega
      go_wp2_with fail
      generalize wr = X1 at *
      have HI64 := Lib.hid hi64
      clear hi64 t0
      go_loopw [22] (fun v wr => ∃ (j : Nat) (oa : Option Addr) (oc : Nat), v = .int .i64 j ∧ j ≤ s ∧ Hid (MapAt w p z o f a n s (mapR f s of i j) oa oc wr)) (fun v _ => s - (intOf v).toNat)
      case atStart => exact ⟨0, oa, oc, rfl, Nat.zero_le _, M1⟩
      case round =>
        clear M1
        obtain ⟨j, oa, oc, rfl, hj, M1⟩ := hrel
        by_cases hjs : j < s
        · have t0 : decide ((j : Int) < (s : Int)) = true := by simp; omega
          go_upto_region 8 with fail
          clear t0
          have hd : Below wr.heap.size wr wr.drew := (Below.refl _ _).drew
          replace M1 := Lib.hid (M1.out.below hd)
          clear hd
          obtain ⟨V0, hV0⟩ : ∃ V0, wr.drew = V0 := ⟨_, rfl⟩
          rw [hV0] at M1
          have HIR : Hid (0 ≤ (i : Int) ∧ (i : Int) ≤ f.rings - 1) := Lib.hid (by have := NV.out.1; omega)
          have IL := Lib.hid (index_lt HV.out HIR.out (of j))
          obtain ⟨q, hq⟩ : ∃ q, Hid ((indexF f i (of j)).toNat = q) := ⟨_, Lib.hid rfl⟩
          have HQ : Hid (indexF f i (of j) = (q : Int)) := Lib.hid (by have := IL.out; have := hq.out; omega)
          have HQL : Hid (q < f.kinds.length) := Lib.hid (by have := IL.out; have := hq.out; omega)
          obtain ⟨b0, off, ha, _⟩ := (HR.out V0 M1.out.bel).get (FaceV.kat_at HQL.out)
          subst ha
          have RC : Hid (∀ W, Below w.heap.size w W → W.cell? ⟨b0, off + q, none⟩ = some (.int .i64 (f.kat q))) := Lib.hid (fun W hb => by
            obtain ⟨b1, o1, e1, h1⟩ := (HR.out W hb).get (FaceV.kat_at HQL.out)
            cases e1
            exact h1)
          have JF := Lib.hid (qJF f (some ⟨b0, off, none⟩) n)
          have ML := Lib.hid (mapR_len f s of i j)
          have MLB : Hid ((mapR f s of i j).length ≤ 10000) := Lib.hid (by
            rw [ML.out]
            have h1 := NV.out
            have h2 : i * s ≤ 24 * 96 := Nat.mul_le_mul (by omega) (by have := HS.out; omega)
            have := HS.out
            omega)
          refine bDq 15 (fun W => Below w.heap.size w W ∧ W.heap[p]? = some (.cells (f.cells (some ⟨b0, off, none⟩) n) 28 (0, 0)) ∧ W.heap[o]? = some (.cells ((outF f s (mapR f s of i j)).cells oa oc) 28 (0, 0))) ⟨by exact M1.out.bel, M1.out.p, M1.out.o⟩ (fun hHeld => ?_)
          clear hV0
          refine bW 0 rfl (.pointer (some ⟨o, 3, none⟩)) ?_
          refine bS 1 rfl (.slice oa (mapR f s of i j).length oc) (fun W hW => by have c := qcell hW.2.2 3 (.slice oa (mapR f s of i j).length oc) rfl; go_simp) ?_
          refine bW 2 rfl (.pointer (some ⟨p, 3, none⟩)) ?_
          refine bS 3 rfl (.slice (some ⟨b0, off, none⟩) f.kinds.length n) (fun W hW => by have c := qcell hW.2.1 3 (.slice (some ⟨b0, off, none⟩) f.kinds.length n) rfl; go_simp) ?_
          refine bW 4 rfl (.agg (f.cells (some ⟨b0, off, none⟩) n)) (hy := qyrow (by kernel_rfl) 28 _ rfl p rfl _ 28 (0, 0) _ (fun W hW => hW.2.1) Tryz.underlying28 rfl (by exact JF.out)) ?_
          refine bW 5 rfl (.int .i64 i) ?_
          refine bW 6 rfl (.func (.func fn) #[] cap) ?_
          refine bW 7 rfl (.int .i64 j) ?_
          refine bR 8 rfl (fun K hK => ?_)
          have hfn := HFN.out
          go_simp
          refine (HCL.out j V0 M1.out.bel (by omega)).mono ?_
          clear hfn
          rintro e V1 ⟨rfl, b⟩
          replace M1 := Lib.hid (M1.out.below b)
          clear b
          dsimp only
          refine bK hK ⟨M1.out.bel, M1.out.p, M1.out.o⟩ (fun hHeld => ?_)
          clear hK K
          refine bR 9 rfl (fun K hK => ?_)
          go_simp
          refine (index_any f (some ⟨b0, off, none⟩) n i (of j) V1 (by have := IV.out; omega) (by have := HIR.out; have := IV.out; omega)).mono ?_
          rintro e V2 ⟨rfl, b⟩
          replace M1 := Lib.hid (M1.out.below b)
          clear b
          dsimp only
          rw [HQ.out]
          refine bK hK ⟨M1.out.bel, M1.out.p, M1.out.o⟩ (fun hHeld => ?_)
          clear hK K
          have hql : q < f.kinds.length := HQL.out
          refine bW 10 rfl (.pointer (some ⟨b0, off + q, none⟩)) ?_
          clear hql
          refine bS 11 rfl (.int .i64 (f.kat q)) (fun W hW => by have c := RC.out W hW.1; go_simp) ?_
          refine bR 12 rfl (fun K hK => ?_)
          rw [if_pos (by kernel_rfl)]
          refine qbuild (w' := V2.alloc (.cells #[.int .i64 (f.kat q)] 3)) (.slice (some ⟨V2.heap.size, 0, none⟩) 1 1) (by kernel_rfl) ?_
          have L5 := Lib.hid (lit_int V2 (f.kat q))
          replace M1 := Lib.hid (M1.out.below (zB V2 (.cells #[.int .i64 (f.kat q)] 3)))
          obtain ⟨p5, hp5⟩ : ∃ z, Hid (V2.heap.size = z) := ⟨_, Lib.hid rfl⟩
          rw [hp5.out] at L5 ⊢
          generalize V2.alloc (.cells #[.int .i64 (f.kat q)] 3) = V3 at *
          refine bK hK ⟨M1.out.bel, M1.out.p, M1.out.o⟩ (fun hHeld => ?_)
          clear hK K
          refine bR 13 rfl (fun K hK => ?_)
          rw [if_pos (by kernel_rfl)]
          obtain ⟨a7, c7, V7, hrun, ho7, hk7, hb7⟩ := run_app_q V3 w.heap.size oa _ oc _ M1.out.own (some ⟨p5, 0, none⟩) 1 1 [f.kat q] L5.out (by have := MLB.out; omega) M1.out.bel.size
          refine qappend _ _ _ rfl _ _ _ rfl rfl hrun ?_
          clear hrun
          have F7 := Lib.hid (show Below w.heap.size w V7 ∧ V7.heap[p]? = some (.cells (f.cells (some ⟨b0, off, none⟩) n) 28 (0, 0)) ∧ V7.heap[o]? = some (.cells ((outF f s (mapR f s of i j)).cells oa oc) 28 (0, 0)) ∧ V7.heap[z]? = some (.cells (zeroF.cells none 0) 28 (0, 0)) from ⟨hb7 _ M1.out.bel, hk7 _ _ M1.out.p (by simp), hk7 _ _ M1.out.o (by simp), hk7 _ _ M1.out.z (by simp)⟩)
          have O7 := Lib.hid ho7
          clear hk7 hb7 ho7 M1 L5
          refine bK hK ⟨F7.out.1, F7.out.2.1, F7.out.2.2.1⟩ (fun hHeld => ?_)
          clear hK K
          refine bW 14 rfl (.pointer (some ⟨o, 3, none⟩)) ?_
          refine bL rfl (fun K hK => ?_)
          have hce := qcell F7.out.2.2.1 3 (.slice oa (mapR f s of i j).length oc) rfl
          have hfz := qfroz F7.out.2.2.1 3
          go_simp
          refine hK.out _ _ ?_
          clear hK K hce hfz hHeld
          refine bE ?_
          have HG := qput_grown V7 o 3 (.slice a7 ((mapR f s of i j).length + 1) c7)
          have M2 : Hid (MapAt w p z o f (some ⟨b0, off, none⟩) n s (mapR f s of i (j + 1)) a7 c7 (V7.setCell ⟨o, 3, none⟩ (.slice a7 ((mapR f s of i j).length + 1) c7))) := Lib.hid ⟨qstep F7.out.1 HG OGE.out.1, qgrown HG F7.out.2.1 (fun e => OGE.out.2.1 (Option.some.inj e).symm), qgrown HG F7.out.2.2.2 (fun e => OGE.out.2.2.1 (Option.some.inj e).symm), by
            rw [qput_at F7.out.2.2.1 3 _, mapR_next, hq.out]
            unfold outF FaceV.cells
            dsimp only
            rw [List.length_append]
            rfl, by
            rw [mapR_next, hq.out, List.length_append]
            exact O7.out.kept HG (.inr (qown_no O7.out F7.out.2.2.1 (by simp)).symm)⟩
          clear HG F7 O7
          generalize V7.setCell ⟨o, 3, none⟩ (.slice a7 ((mapR f s of i j).length + 1) c7) = V8 at *
          have hj64 : (j : Int) + 1 ≤ 9223372036854775807 := by have := HS.out; omega
          go_wp2_with fail
          go_roundw
          case rel => exact ⟨j + 1, a7, c7, by simp, by omega, M2⟩
          case measure => simp [intOf]; omega
        · have t0 : decide ((j : Int) < (s : Int)) = false := by simp; omega
          have e : j = s := by omega
          subst e
          have hi64 := HI64.out
          go_wp2_with fail
          go_roundw
          case rel =>
            refine ⟨i + 1, oa, oc, by simp, by omega, ?_⟩
            rw [mapR_zero, ← mapR_row]
            exact M1
          case measure => simp [intOf]; omega
    · have t0 : decide ((i : Int) < (f.R : Int)) = false := by simp; omega
      have e : i = f.R := by omega
      subst e
      clear hi64
      have e9 : outF f s (mapR f s of f.R 0) = mapF f s of := by rw [mapR_zero]; rfl
      have XO := Lib.hid M1.out.o
      have XZ := Lib.hid M1.out.z
      have OW := Lib.hid M1.out.own
      have BF := Lib.hid M1.out.bel
      rw [e9] at XO
      rw [mapR_zero] at OW
      clear M1 e9
      go_wp2_with (first
        | (refine wpList_load_row rfl 28 _ rfl o rfl 28 ((mapF f s of).cells oa oc) (0, 0) _ XO.out Tryz.underlying28 rfl (by exact (qJF (mapF f s of) oa oc)) ?_)
        | (refine wpList_qstore rfl 28 _ _ rfl z (zeroF.cells none 0) ((mapF f s of).cells oa oc) 28 rfl rfl XZ.out (by exact (qJF (mapF f s of) oa oc)) rfl (qone (mapF f s of) oa oc) ?_; intro VZ hzz hgz; replace BF := Lib.hid (qstep BF.out hgz (by have h1 := OGE.out; omega)); replace OW := Lib.hid (OW.out.kept hgz (.inr (qown_no OW.out XZ.out (by simp)).symm)); replace XZ := Lib.hid hzz; clear hzz hgz)
        | fail)
      (try simp only [Exit.inBlock, Exit.then])
      refine bodyPost_ret (results_cell_row rfl _ VZ z 28 ((mapF f s of).cells oa oc) (0, 0) _ rfl XZ.out Tryz.underlying28 rfl (by exact (qJF (mapF f s of) oa oc))) rfl ?_
      exact ⟨oa, oc, rfl, OW.out, BF.out⟩
end Go.Proofs.YtimmadkbkimonaaGreatDoor
namespace Go.Proofs.YtimmadkbkimonaaGreatDoor
open Go.RowKit

def strokesP (m : Int) (l : List Int) : Prop := ∀ i, i < l.length → inB (l[i]?.getD 0) 0 m = true ∧ (0 < i → l[i-1]?.getD 0 ≤ l[i]?.getD 0)
instance (m : Int) (l : List Int) : Decidable (strokesP m l) := by unfold strokesP; infer_instance
theorem int_ne {x y : Int} (h : ¬ x = y) : (x != y) = true := by simp [h]
theorem int_eq {x y : Int} (h : x = y) : (x != y) = false := by simp [h]
theorem ilist_ext {l m : List Int} (hl : l.length = m.length) (h : ∀ j, j < l.length → l[j]?.getD 0 = m[j]?.getD 0) : l = m := by
  apply List.ext_getElem hl
  intro i h1 h2
  have := h i h1
  simpa [List.getElem?_eq_getElem h1, List.getElem?_eq_getElem h2] using this

theorem eqInts_any (a : Option Addr) (n c : Nat) (l : List Int) (a' : Option Addr) (n' c' : Nat) (l' : List Int) (w : World) (hr : RdI w a n c l) (hr' : RdI w a' n' c' l') :
    Calls Tryz.prog 109 #[.slice a n c, .slice a' n' c'] w fun e w' => ∃ b : Bool, e = .returned (.bool b) ∧ (b = true ↔ l = l') ∧ ∃ q, w' = w.drewN q := by
  have hm := RdI.maxn hr
  have hl := Lib.hid hr.len
  have hl' := Lib.hid hr'.len
  by_cases hnn : n = n'
  · subst hnn
    go_enter Tryz.func109, Tryz.ntmps109
    go_wp2
    go_loopw [5, 13] (fun _ i wr => ∃ k : Nat, k ≤ n ∧ i = .int .i64 k ∧ (∀ j, j < k → l[j]?.getD 0 = l'[j]?.getD 0) ∧ ∃ q, wr = w.drewN q) (fun _ i _ => n - (intOf i).toNat)
    case atStart => exact ⟨0, Nat.zero_le _, rfl, fun j hj => by omega, 0, rfl⟩
    case round =>
      obtain ⟨k, hk, rfl, hrl, q, rfl⟩ := hrel
      have HR := Lib.hid hrl; clear hrl
      by_cases hlt : k < n
      · obtain ⟨b, off, rfl, hc⟩ := hr.at (by omega)
        obtain ⟨b', off', rfl, hc'⟩ := hr'.at (by omega)
        have hx := hc k hlt
        have hx' := hc' k hlt
        clear hc hc' hr hr'
        have hk64 : (k : Int) ≤ 9223372036854775807 := by omega
        by_cases he : l[k]?.getD 0 = l'[k]?.getD 0
        · have hb := int_eq he
          have HE := Lib.hid he; clear he
          go_wp2
          go_quiet (fail)
          go_wp2
          go_roundw
          case rel => exact ⟨k + 1, by omega, by go_num, fun j hj => by
            rcases Nat.lt_succ_iff_lt_or_eq.1 hj with h | h
            · exact HR.out j h
            · rw [h]; exact HE.out, _, rfl⟩
          case measure => simp [intOf]; omega
        · have hb := int_ne he
          have HE := Lib.hid he; clear he
          go_wp2
          go_quiet (fail)
          go_wp2
          go_ret
          exact ⟨false, rfl, ⟨fun h => by simp at h, fun h => absurd (by rw [h]) HE.out⟩, _, World.drewN_drewN _ _ _⟩
      · go_wp2
        go_ret
        have hkn : k = n := by omega
        exact ⟨true, rfl, ⟨fun _ => ilist_ext (by rw [hl.out, hl'.out]) (fun j hj => HR.out j (by rw [hl.out] at hj; omega)), fun _ => rfl⟩, _, rfl⟩
  · have hb : (((n : Nat) : Int) != ((n' : Nat) : Int)) = true := by rw [bne_iff_ne]; omega
    have hm' := RdI.maxn hr'
    have HN := Lib.hid hnn; clear hnn
    go_enter Tryz.func109, Tryz.ntmps109
    go_wp2
    go_ret
    exact ⟨false, rfl, ⟨fun h => by simp at h, fun h => absurd (by rw [← hl.out, ← hl'.out, h]) HN.out⟩, 0, rfl⟩

end Go.Proofs.YtimmadkbkimonaaGreatDoor
namespace Go.Proofs.YtimmadkbkimonaaGreatDoor
set_option linter.unusedSimpArgs false
set_option linter.unusedVariables false
open Go.RowKit

def cmpZ : List Int → List Int → Int
  | [], [] => 0
  | [], _ :: _ => -1
  | _ :: _, [] => 1
  | x :: xs, y :: ys => if x < y then -1 else if y < x then 1 else cmpZ xs ys
theorem cmpZ_self : ∀ l, cmpZ l l = 0
  | [] => rfl
  | x :: xs => by unfold cmpZ; rw [if_neg (by omega), if_neg (by omega)]; exact cmpZ_self xs
theorem cmpZ_trans : ∀ l m n, cmpZ l m < 0 → cmpZ m n < 0 → cmpZ l n < 0
  | [], [], _, h, _ => by simp [cmpZ] at h
  | [], _ :: _, [], _, h => by simp [cmpZ] at h
  | [], _ :: _, _ :: _, _, _ => by simp [cmpZ]
  | _ :: _, [], _, h, _ => by simp [cmpZ] at h
  | _ :: _, _ :: _, [], _, h => by simp [cmpZ] at h
  | x :: xs, y :: ys, z :: zs, h1, h2 => by
    unfold cmpZ at h1 h2 ⊢
    split at h1
    · split at h2
      · rw [if_pos (by omega)]; decide
      · split at h2
        · cases h2
        · rw [if_pos (by omega)]; decide
    · split at h1
      · cases h1
      · split at h2
        · rw [if_pos (by omega)]; decide
        · split at h2
          · cases h2
          · rw [if_neg (by omega), if_neg (by omega)]
            exact cmpZ_trans xs ys zs h1 h2
def normalF (f : FaceV) : FaceV := (List.range f.S).foldl (fun least (b : Nat) => if cmpZ (turnF f b).kinds least.kinds < 0 then turnF f b else least) f
def normalP (f : FaceV) : FaceV × Int := if f.valid = true then (normalF f, 0) else (zeroF, 10)
section
variable {f g : FaceV}
theorem turn_zero (h : f.valid = true) : turnF f 0 = f := turn_dvd h (by simp)
theorem normal_go (h : f.valid = true) : ∀ k, k ≤ f.S → ∃ a : Int, (List.range k).foldl (fun least (b : Nat) => if cmpZ (turnF f b).kinds least.kinds < 0 then turnF f b else least) f = turnF f a ∧ (∀ b : Nat, b < k → ¬ cmpZ (turnF f b).kinds (turnF f a).kinds < 0) ∧ ¬ cmpZ f.kinds (turnF f a).kinds < 0
  | 0, _ => ⟨0, by rw [turn_zero h]; rfl, fun b hb => by omega, by rw [turn_zero h, cmpZ_self]; decide⟩
  | k + 1, hk => by
    obtain ⟨a, e, h1, h2⟩ := normal_go h k (by omega)
    rw [List.range_succ, List.foldl_append, e]
    simp only [List.foldl_cons, List.foldl_nil]
    by_cases hc : cmpZ (turnF f (k : Nat)).kinds (turnF f a).kinds < 0
    · rw [if_pos hc]
      refine ⟨k, rfl, fun b hb hlt => ?_, fun hlt => h2 (cmpZ_trans _ _ _ hlt hc)⟩
      by_cases hbk : b < k
      · exact h1 b hbk (cmpZ_trans _ _ _ hlt hc)
      · have : b = k := by omega
        subst this
        rw [cmpZ_self] at hlt
        cases hlt
    · rw [if_neg hc]
      refine ⟨a, rfl, fun b hb hlt => ?_, h2⟩
      by_cases hbk : b < k
      · exact h1 b hbk hlt
      · have : b = k := by omega
        subst this
        exact hc hlt
theorem normal_spec (h : f.valid = true) : ∃ a : Int, normalF f = turnF f a ∧ ∀ b : Int, ¬ cmpZ (turnF f b).kinds (normalF f).kinds < 0 := by
  obtain ⟨a, e, h1, _⟩ := normal_go h f.S (Nat.le_refl _)
  refine ⟨a, e, fun b hlt => ?_⟩
  have e2 : normalF f = turnF f a := e
  rw [e2] at hlt
  have hb0 := Int.emod_nonneg b (show f.sectors ≠ 0 by have := (FaceV.nat h).2.1; have := (FaceV.nat h).2.2.2.2.1; omega)
  have hb1 := Int.emod_lt_of_pos b (show 0 < f.sectors by have := (FaceV.nat h).2.1; have := (FaceV.nat h).2.2.2.2.1; omega)
  refine h1 (b % f.sectors).toNat (by have := (FaceV.nat h).2.1; omega) ?_
  rw [Int.toNat_of_nonneg hb0, turn_mod h]
  exact hlt
theorem normal_valid (h : f.valid = true) : (normalF f).valid = true := by
  obtain ⟨a, e, _⟩ := normal_spec h
  rw [e]
  exact turn_valid h a
end
end Go.Proofs.YtimmadkbkimonaaGreatDoor
namespace Go.Proofs.YtimmadkbkimonaaGreatDoor
set_option linter.unusedSimpArgs false
set_option linter.unusedVariables false
open Go.RowKit

section
variable {f : FaceV}
theorem face_eq {f g : FaceV} (h1 : f.eye = g.eye) (h2 : f.rings = g.rings) (h3 : f.sectors = g.sectors) (h4 : f.kinds = g.kinds) : f = g := by
  cases f; cases g
  simp only at h1 h2 h3 h4
  subst h1; subst h2; subst h3; subst h4
  rfl
end
end Go.Proofs.YtimmadkbkimonaaGreatDoor
namespace Go.Proofs.YtimmadkbkimonaaGreatDoor
set_option linter.unusedSimpArgs false
set_option linter.unusedVariables false
open Go.RowKit

def FOwn (w W : World) (g : FaceV) (a : Option Addr) (n : Nat) : Prop := W.ownsRow w.heap.size 3 1 (.slice a g.kinds.length n) g.kinds.length (g.kinds.map intV)
theorem FOwn.rd {w W : World} {g : FaceV} {a : Option Addr} {n : Nat} (h : FOwn w W g a n) : RdI W a g.kinds.length n g.kinds := RdA.of_own h
theorem FOwn.nil (w W : World) : FOwn w W zeroF none 0 := World.ownsRow_nil _ _ _ _
theorem FOwn.below {w W W' : World} {g : FaceV} {a : Option Addr} {n : Nat} (h : FOwn w W g a n) (hb : Below W.heap.size W W') : FOwn w W' g a n := own_below h hb
theorem FOwn.mono {w V W : World} {g : FaceV} {a : Option Addr} {n : Nat} (h : FOwn V W g a n) (hb : w.heap.size ≤ V.heap.size) : FOwn w W g a n := own_mono h hb
theorem FOwn.kept {w W W' : World} {g : FaceV} {a : Option Addr} {n p : Nat} {A : Array Value} (h : FOwn w W g a n) (hg : W.grownBy W' (some p)) (hp : W.heap[p]? = some (.cells A 28 (0, 0))) : FOwn w W' g a n :=
  World.ownsRow.kept h hg (.inr (qown_no h hp (by simp)).symm)
theorem mapped2_any (f : FaceV) (a : Option Addr) (n s : Nat) (si : Int) (of : Int → Int) (fn : Nat) (cap : Array Value) (w : World) (hsi : si = (s : Int)) (hv : f.valid = true) (hr : RdI w a f.kinds.length n f.kinds) (hs : 1 ≤ s ∧ s ≤ 96)
    (hfn : ∀ (args : Array Value) (w : World), (callFunc fn args).run Tryz.prog w = .ok (.enter fn args) w)
    (hcl : ∀ (j : Nat) W, Below w.heap.size w W → j < s → Calls Tryz.prog fn (#[.int .i64 j] ++ cap) W fun e W' => e = .returned (.int .i64 (of j)) ∧ Below W.heap.size W W') :
    Calls Tryz.prog 100 #[.agg (f.cells a n), .int .i64 si, .func (.func fn) #[] cap] w fun e w' => (∃ a' n', e = .returned (.agg ((mapF f s of).cells a' n')) ∧ FOwn w w' (mapF f s of) a' n') ∧ Below w.heap.size w w' := by
  subst hsi
  refine (mapped_any f a n s of fn cap w hv hr hs hfn hcl).mono ?_
  rintro e W ⟨a', n', rfl, h1, h2⟩
  exact ⟨⟨a', n', rfl, h1⟩, h2⟩
set_option maxHeartbeats 4000000 in
set_option maxRecDepth 100000 in
theorem turned_any (f : FaceV) (a : Option Addr) (n : Nat) (by_ : Int) (w : World) (hv : f.valid = true) (hr : RdI w a f.kinds.length n f.kinds) :
    Calls Tryz.prog 98 #[.agg (f.cells a n), .int .i64 by_] w fun e w' => (∃ a' n', e = .returned (.agg ((turnF f by_).cells a' n')) ∧ FOwn w w' (turnF f by_) a' n') ∧ Below w.heap.size w w' := by
  have HR := Lib.hid (fun W (hb : Below w.heap.size w W) => hr.below hb)
  have NV := Lib.hid (FaceV.nat hv)
  have IV := Lib.hid (FaceV.int hv)
  have HV := Lib.hid hv
  clear hr hv
  have AL := Lib.hid (al3 w (.cells (f.cells a n) 28) (.cells #[.int .i64 by_] 3) (.cells #[.int .i64 0, .int .i64 0, .int .i64 0, .slice none 0 0] 28))
  go_enter Tryz.func98, Tryz.ntmps98
  go_upto_region 1 with fail
  obtain ⟨p, hp⟩ : ∃ p, Hid (w.heap.size = p) := ⟨_, Lib.hid rfl⟩
  obtain ⟨q, hq⟩ : ∃ q, Hid (w.heap.size + 1 = q) := ⟨_, Lib.hid rfl⟩
  obtain ⟨z, hz⟩ : ∃ z, Hid (w.heap.size + 2 = z) := ⟨_, Lib.hid rfl⟩
  rw [hz.out] at AL ⊢
  rw [hq.out] at AL ⊢
  rw [hp.out] at AL ⊢
  generalize (((w.alloc (.cells (f.cells a n) 28)).alloc (.cells #[.int .i64 by_] 3)).alloc (.cells #[.int .i64 0, .int .i64 0, .int .i64 0, .slice none 0 0] 28)) = W0 at *
  have BF : Hid (Below w.heap.size w W0) := Lib.hid (by rw [hp.out]; exact AL.out.1)
  have XF : Hid (W0.heap[p]? = some (.cells (f.cells a n) 28 (0, 0))) := Lib.hid AL.out.2.1
  have XB : Hid (W0.heap[q]? = some (.cells #[.int .i64 by_] 3 (0, 0))) := Lib.hid AL.out.2.2.1
  have XZ : Hid (W0.heap[z]? = some (.cells (zeroF.cells none 0) 28 (0, 0))) := Lib.hid AL.out.2.2.2
  clear AL
  have c0 := qcell XF.out 0 (.int .i64 f.eye) rfl
  have c1 := qcell XF.out 1 (.int .i64 f.rings) rfl
  have c2 := qcell XF.out 2 (.int .i64 f.sectors) rfl
  have c3 := qcell XF.out 3 (.slice a f.kinds.length n) rfl
  have d0 := qcell XB.out 0 (.int .i64 by_) rfl
  go_wp2_with (first
    | (refine wpList_load_row rfl 28 _ rfl p rfl 28 (f.cells a n) (0, 0) _ XF.out Tryz.underlying28 rfl (by exact (qJF f a n)) ?_)
    | (refine wpList_load_row rfl 28 _ rfl z rfl 28 (zeroF.cells none 0) (0, 0) _ XZ.out Tryz.underlying28 rfl (by exact (qJF zeroF none 0)) ?_)
    | fail)
  refine (around_any by_ f.sectors W0 (by have := IV.out; omega)).mono ?_
  rintro e V1 ⟨rfl, rfl⟩
  have fz := qfroz XB.out 0
  go_upto_region 2 with (first
    | (refine wpList_load_row rfl 28 _ rfl p rfl 28 (f.cells a n) (0, 0) _ XF.out Tryz.underlying28 rfl (by exact (qJF f a n)) ?_)
    | (refine wpList_load_row rfl 28 _ rfl z rfl 28 (zeroF.cells none 0) (0, 0) _ XZ.out Tryz.underlying28 rfl (by exact (qJF zeroF none 0)) ?_)
    | fail)
  clear c0 c1 c2 c3 d0
  clear fz
  have HG := qput_grown V1 q 0 (.int .i64 (around by_ f.sectors))
  replace BF := Lib.hid (qstep BF.out HG (by have h1 := hq.out; omega))
  have XR : Hid ((V1.setCell ⟨q, 0, none⟩ (.int .i64 (around by_ f.sectors))).heap[q]? = some (.cells #[.int .i64 (around by_ f.sectors)] 3 (0, 0))) := Lib.hid (by rw [qput_at XB.out 0 _]; rfl)
  replace XF := Lib.hid (qgrown HG XF.out (fun e => by have h1 := hp.out; have h2 := hq.out; have := Option.some.inj e; omega))
  replace XZ := Lib.hid (qgrown HG XZ.out (fun e => by have h1 := hz.out; have h2 := hq.out; have := Option.some.inj e; omega))
  clear HG XB
  generalize V1.setCell ⟨q, 0, none⟩ (.int .i64 (around by_ f.sectors)) = V2 at *
  have c0 := qcell XF.out 0 (.int .i64 f.eye) rfl
  have c1 := qcell XF.out 1 (.int .i64 f.rings) rfl
  have c2 := qcell XF.out 2 (.int .i64 f.sectors) rfl
  have c3 := qcell XF.out 3 (.slice a f.kinds.length n) rfl
  have d0 := qcell XR.out 0 (.int .i64 (around by_ f.sectors)) rfl
  go_wp2_with (first
    | (refine wpList_load_row rfl 28 _ rfl p rfl 28 (f.cells a n) (0, 0) _ XF.out Tryz.underlying28 rfl (by exact (qJF f a n)) ?_)
    | (refine wpList_load_row rfl 28 _ rfl z rfl 28 (zeroF.cells none 0) (0, 0) _ XZ.out Tryz.underlying28 rfl (by exact (qJF zeroF none 0)) ?_)
    | fail)
  refine (mapped2_any f a n f.S f.sectors (fun s => s - around by_ f.sectors) 135 #[.pointer (some ⟨q, 0, none⟩)] V2 NV.out.2.1 HV.out (HR.out V2 BF.out) (by have := NV.out; omega) (fun args w => by kernel_rfl) (fun j W hb hj => ?cl)).mono ?_
  case cl =>
    have h0 := qcell (qblk hb XR.out) 0 (.int .i64 (around by_ f.sectors)) rfl
    have hA := around_lt HV.out by_
    have WA := Lib.hid (show wrap64 ((j : Int) - around by_ f.sectors) = (j : Int) - around by_ f.sectors by have := IV.out; have := NV.out; unfold wrap64; omega)
    clear hA hb d0 c0 c1 c2 c3
    go_enter Tryz.func135, Tryz.ntmps135
    go_wp2_with fail
    go_ret
    exact ⟨by first | (rw [WA.out]; rfl) | (rw [← WA.out]; rfl) | rfl, Below.refl _ _⟩
  rintro e V3 ⟨⟨a', n', rfl, own⟩, b⟩
  have OW := Lib.hid (own.mono BF.out.size)
  clear own
  clear c0 c1 c2 c3 d0
  replace BF := Lib.hid (BF.out.trans (b.mono BF.out.size))
  replace XF := Lib.hid (qblk b XF.out)
  replace XR := Lib.hid (qblk b XR.out)
  replace XZ := Lib.hid (qblk b XZ.out)
  clear b
  have c0 := qcell XF.out 0 (.int .i64 f.eye) rfl
  have c1 := qcell XF.out 1 (.int .i64 f.rings) rfl
  have c2 := qcell XF.out 2 (.int .i64 f.sectors) rfl
  have c3 := qcell XF.out 3 (.slice a f.kinds.length n) rfl
  have d0 := qcell XR.out 0 (.int .i64 (around by_ f.sectors)) rfl
  have eT : mapF f f.S (fun s => s - around by_ f.sectors) = turnF f by_ := rfl
  rw [eT] at OW ⊢
  clear eT
  go_wp2_with (first
    | (refine wpList_load_row rfl 28 _ rfl p rfl 28 (f.cells a n) (0, 0) _ XF.out Tryz.underlying28 rfl (by exact (qJF f a n)) ?_)
    | (refine wpList_load_row rfl 28 _ rfl z rfl 28 (zeroF.cells none 0) (0, 0) _ XZ.out Tryz.underlying28 rfl (by exact (qJF zeroF none 0)) ?_)
    | (refine wpList_qstore rfl 28 _ _ rfl z (zeroF.cells none 0) ((turnF f by_).cells a' n') 28 rfl rfl XZ.out (by exact (qJF (turnF f by_) a' n')) rfl (qone (turnF f by_) a' n') ?_; intro VZ hzz hgz; clear c0 c1 c2 c3 d0; replace BF := Lib.hid (qstep BF.out hgz (by have h1 := hz.out; omega)); replace XF := Lib.hid (qgrown hgz XF.out (fun e => by have h1 := hp.out; have h2 := hz.out; have := Option.some.inj e; omega)); replace XR := Lib.hid (qgrown hgz XR.out (fun e => by have h1 := hq.out; have h2 := hz.out; have := Option.some.inj e; omega)); replace OW := Lib.hid (OW.out.kept hgz XZ.out); replace XZ := Lib.hid hzz; clear hzz hgz; have c0 := qcell XF.out 0 (.int .i64 f.eye) rfl; have c1 := qcell XF.out 1 (.int .i64 f.rings) rfl; have c2 := qcell XF.out 2 (.int .i64 f.sectors) rfl; have c3 := qcell XF.out 3 (.slice a f.kinds.length n) rfl; have d0 := qcell XR.out 0 (.int .i64 (around by_ f.sectors)) rfl)
    | fail)
  (try simp only [Exit.inBlock, Exit.then])
  refine bodyPost_ret (results_cell_row rfl _ VZ z 28 ((turnF f by_).cells a' n') (0, 0) _ rfl XZ.out Tryz.underlying28 rfl (by exact (qJF (turnF f by_) a' n'))) rfl ?_
  exact ⟨⟨a', n', rfl, OW.out⟩, BF.out⟩
set_option maxHeartbeats 4000000 in
set_option maxRecDepth 100000 in
theorem turnP_any (f : FaceV) (a : Option Addr) (n : Nat) (by_ : Int) (w : World) (hr : RdI w a f.kinds.length n f.kinds) :
    Calls Tryz.prog 40 #[.agg (f.cells a n), .int .i64 by_] w fun e w' => (∃ a' n', e = .returned (.tuple #[.agg ((turnP f by_).1.cells a' n'), .int .i64 (turnP f by_).2]) ∧ FOwn w w' (turnP f by_).1 a' n') ∧ Below w.heap.size w w' := by
  have AV := Lib.hid (fun W (hb : Below w.heap.size w W) => valid2_any f a n W (hr.below hb))
  have HR := Lib.hid (fun W (hb : Below w.heap.size w W) => hr.below hb)
  clear hr
  have AL := Lib.hid (al2 w (.cells (f.cells a n) 28) (.cells #[.int .i64 0, .int .i64 0, .int .i64 0, .slice none 0 0] 28))
  go_enter Tryz.func40, Tryz.ntmps40
  go_upto_region 1 with fail
  obtain ⟨p, hp⟩ : ∃ p, Hid (w.heap.size = p) := ⟨_, Lib.hid rfl⟩
  obtain ⟨z, hz⟩ : ∃ z, Hid (w.heap.size + 1 = z) := ⟨_, Lib.hid rfl⟩
  rw [hz.out] at AL ⊢
  rw [hp.out] at AL ⊢
  generalize ((w.alloc (.cells (f.cells a n) 28)).alloc (.cells #[.int .i64 0, .int .i64 0, .int .i64 0, .slice none 0 0] 28)) = W0 at *
  have BF : Hid (Below w.heap.size w W0) := Lib.hid (by rw [hp.out]; exact AL.out.1)
  have XF : Hid (W0.heap[p]? = some (.cells (f.cells a n) 28 (0, 0))) := Lib.hid AL.out.2.1
  have XZ : Hid (W0.heap[z]? = some (.cells (zeroF.cells none 0) 28 (0, 0))) := Lib.hid AL.out.2.2
  clear AL
  have c0 := qcell XF.out 0 (.int .i64 f.eye) rfl
  have c1 := qcell XF.out 1 (.int .i64 f.rings) rfl
  have c2 := qcell XF.out 2 (.int .i64 f.sectors) rfl
  have c3 := qcell XF.out 3 (.slice a f.kinds.length n) rfl
  go_wp2_with (first
    | (refine wpList_load_row rfl 28 _ rfl p rfl 28 (f.cells a n) (0, 0) _ XF.out Tryz.underlying28 rfl (by exact (qJF f a n)) ?_)
    | (refine wpList_load_row rfl 28 _ rfl z rfl 28 (zeroF.cells none 0) (0, 0) _ XZ.out Tryz.underlying28 rfl (by exact (qJF zeroF none 0)) ?_)
    | fail)
  refine (AV.out W0 BF.out).mono ?_
  rintro e V1 ⟨rfl, b⟩
  clear c0 c1 c2 c3
  replace BF := Lib.hid (BF.out.trans (b.mono BF.out.size))
  replace XF := Lib.hid (qblk b XF.out)
  replace XZ := Lib.hid (qblk b XZ.out)
  clear b
  have c0 := qcell XF.out 0 (.int .i64 f.eye) rfl
  have c1 := qcell XF.out 1 (.int .i64 f.rings) rfl
  have c2 := qcell XF.out 2 (.int .i64 f.sectors) rfl
  have c3 := qcell XF.out 3 (.slice a f.kinds.length n) rfl
  cases hv : f.valid
  · go_wp2_with (first
      | (refine wpList_load_row rfl 28 _ rfl p rfl 28 (f.cells a n) (0, 0) _ XF.out Tryz.underlying28 rfl (by exact (qJF f a n)) ?_)
      | (refine wpList_load_row rfl 28 _ rfl z rfl 28 (zeroF.cells none 0) (0, 0) _ XZ.out Tryz.underlying28 rfl (by exact (qJF zeroF none 0)) ?_)
      | (refine wpList_qstore rfl 28 _ _ rfl z (zeroF.cells none 0) (zeroF.cells none 0) 28 rfl rfl XZ.out (by exact (qJF zeroF none 0)) rfl (qone zeroF none 0) ?_; intro VZ hzz hgz; clear c0 c1 c2 c3; replace BF := Lib.hid (qstep BF.out hgz (by have h1 := hz.out; omega)); replace XF := Lib.hid (qgrown hgz XF.out (fun e => by have h1 := hp.out; have h2 := hz.out; have := Option.some.inj e; omega)); replace XZ := Lib.hid hzz; clear hzz hgz; have c0 := qcell XF.out 0 (.int .i64 f.eye) rfl; have c1 := qcell XF.out 1 (.int .i64 f.rings) rfl; have c2 := qcell XF.out 2 (.int .i64 f.sectors) rfl; have c3 := qcell XF.out 3 (.slice a f.kinds.length n) rfl)
      | fail)
    (try simp only [Exit.inBlock, Exit.then])
    refine bodyPost_ret (results_ct rfl _ VZ z 28 (zeroF.cells none 0) (0, 0) _ rfl XZ.out Tryz.underlying28 rfl (by exact (qJF zeroF none 0))) rfl ?_
    unfold turnP
    rw [hv]
    exact ⟨⟨none, 0, rfl, FOwn.nil _ _⟩, BF.out⟩
  · have HV := Lib.hid hv
    clear hv
    go_wp2_with (first
      | (refine wpList_load_row rfl 28 _ rfl p rfl 28 (f.cells a n) (0, 0) _ XF.out Tryz.underlying28 rfl (by exact (qJF f a n)) ?_)
      | (refine wpList_load_row rfl 28 _ rfl z rfl 28 (zeroF.cells none 0) (0, 0) _ XZ.out Tryz.underlying28 rfl (by exact (qJF zeroF none 0)) ?_)
      | fail)
    refine (turned_any f a n by_ V1 HV.out (HR.out V1 BF.out)).mono ?_
    rintro e V3 ⟨⟨a', n', rfl, own⟩, b⟩
    have OW := Lib.hid (own.mono BF.out.size)
    clear own
    clear c0 c1 c2 c3
    replace BF := Lib.hid (BF.out.trans (b.mono BF.out.size))
    replace XF := Lib.hid (qblk b XF.out)
    replace XZ := Lib.hid (qblk b XZ.out)
    clear b
    have c0 := qcell XF.out 0 (.int .i64 f.eye) rfl
    have c1 := qcell XF.out 1 (.int .i64 f.rings) rfl
    have c2 := qcell XF.out 2 (.int .i64 f.sectors) rfl
    have c3 := qcell XF.out 3 (.slice a f.kinds.length n) rfl
    go_wp2_with (first
      | (refine wpList_load_row rfl 28 _ rfl p rfl 28 (f.cells a n) (0, 0) _ XF.out Tryz.underlying28 rfl (by exact (qJF f a n)) ?_)
      | (refine wpList_load_row rfl 28 _ rfl z rfl 28 (zeroF.cells none 0) (0, 0) _ XZ.out Tryz.underlying28 rfl (by exact (qJF zeroF none 0)) ?_)
      | (refine wpList_qstore rfl 28 _ _ rfl z (zeroF.cells none 0) ((turnF f by_).cells a' n') 28 rfl rfl XZ.out (by exact (qJF (turnF f by_) a' n')) rfl (qone (turnF f by_) a' n') ?_; intro VZ hzz hgz; clear c0 c1 c2 c3; replace BF := Lib.hid (qstep BF.out hgz (by have h1 := hz.out; omega)); replace XF := Lib.hid (qgrown hgz XF.out (fun e => by have h1 := hp.out; have h2 := hz.out; have := Option.some.inj e; omega)); replace OW := Lib.hid (OW.out.kept hgz XZ.out); replace XZ := Lib.hid hzz; clear hzz hgz; have c0 := qcell XF.out 0 (.int .i64 f.eye) rfl; have c1 := qcell XF.out 1 (.int .i64 f.rings) rfl; have c2 := qcell XF.out 2 (.int .i64 f.sectors) rfl; have c3 := qcell XF.out 3 (.slice a f.kinds.length n) rfl)
      | fail)
    (try simp only [Exit.inBlock, Exit.then])
    refine bodyPost_ret (results_ct rfl _ VZ z 28 ((turnF f by_).cells a' n') (0, 0) _ rfl XZ.out Tryz.underlying28 rfl (by exact (qJF (turnF f by_) a' n'))) rfl ?_
    unfold turnP
    rw [HV.out]
    exact ⟨⟨a', n', rfl, OW.out⟩, BF.out⟩
def sameF (f g : FaceV) : Bool := decide (f = g)
theorem qplain_int : Tryz.prog.plainKey 3 = true := by kernel_rfl
theorem run_eqItems_q (w : World) (d : Nat) (l m : List Int) : ∀ is : List Nat, (∀ i ∈ is, i < l.length ∧ i < m.length) →
    (Op.eqItems (d + 1) 3 (Tryz.prog.cellsOf 3) (l.map intV).toArray (m.map intV).toArray is).run Tryz.prog w = .ok (decide (∀ i ∈ is, l[i]?.getD 0 = m[i]?.getD 0)) w
  | [], _ => by simp [Op.eqItems]
  | i :: is, h => by
    have hi := h i (List.mem_cons_self ..)
    have hc : Tryz.prog.cellsOf 3 = 1 := by kernel_rfl
    have ih := run_eqItems_q w d l m is (fun j hj => h j (List.mem_cons_of_mem _ hj))
    have p1 : (part 3 (l.map intV).toArray (i * 1)).run Tryz.prog w = .ok (intV (l[i]?.getD 0)) w := run_part_plain w qplain_int (by simp [List.getElem?_eq_getElem hi.1])
    have p2 : (part 3 (m.map intV).toArray (i * 1)).run Tryz.prog w = .ok (intV (m[i]?.getD 0)) w := run_part_plain w qplain_int (by simp [List.getElem?_eq_getElem hi.2])
    have p3 := run_equalIn_int w d 3 .i64 .i64 (l[i]?.getD 0) (m[i]?.getD 0) Tryz.underlying3
    rw [hc] at ih ⊢
    simp only [Op.eqItems, Sem.run_bind, p1, p2, Result.andThen_ok]
    rw [show Op.equalIn (d + 1) 3 (intV (l[i]?.getD 0)) (intV (m[i]?.getD 0)) = Op.equalIn (d + 1) 3 (.int .i64 (l[i]?.getD 0)) (.int .i64 (m[i]?.getD 0)) from rfl, p3]
    simp only [Result.andThen_ok]
    by_cases he : l[i]?.getD 0 = m[i]?.getD 0
    · simp [he, ih]
    · simp [he]
def eq3 (x y z x' y' z' : Int) : Bool := decide ([x, y, z] = [x', y', z'])
theorem run_equal3 (w : World) (x y z x' y' z' : Int) : (Op.equalIn 10000 131 (.agg #[.int .i64 x, .int .i64 y, .int .i64 z]) (.agg #[.int .i64 x', .int .i64 y', .int .i64 z'])).run Tryz.prog w = .ok (eq3 x y z x' y' z') w := by
  obtain ⟨i, hi, _⟩ : ∃ i, Tryz.prog.info? 3 = some i ∧ True := by
    cases h : Tryz.prog.info? 3 with
    | none => exact absurd h (by
      have : (Tryz.prog.info? 3).isSome = true := by kernel_rfl
      intro h'; rw [h'] at this; cases this)
    | some i => exact ⟨i, rfl, trivial⟩
  have h := run_equalIn_array (P := Tryz.prog) w 9999 (t := 131) ([x, y, z].map intV).toArray ([x', y', z'].map intV).toArray Tryz.underlying131 hi
  rw [run_eqItems_q w 9998 [x, y, z] [x', y', z'] (List.range 3) (fun i hi => by have := List.mem_range.1 hi; simp; omega)] at h
  have e : decide (∀ i ∈ List.range 3, [x, y, z][i]?.getD 0 = [x', y', z'][i]?.getD 0) = decide ([x, y, z] = [x', y', z']) := by
    rw [decide_eq_decide]
    constructor
    · intro h
      have h0 := h 0 (by decide)
      have h1 := h 1 (by decide)
      have h2 := h 2 (by decide)
      simp at h0 h1 h2
      rw [h0, h1, h2]
    · intro h i hi
      rw [h]
  rw [e] at h
  exact h
attribute [local go_sem ↓] run_equal3
set_option maxHeartbeats 4000000 in
set_option maxRecDepth 100000 in
theorem same_any (f g : FaceV) (a b : Option Addr) (n m : Nat) (w : World) (hr : RdI w a f.kinds.length n f.kinds) (hr2 : RdI w b g.kinds.length m g.kinds) :
    Calls Tryz.prog 53 #[.agg (f.cells a n), .agg (g.cells b m)] w fun e w' => e = .returned (.bool (sameF f g)) ∧ Below w.heap.size w w' := by
  have EQ := Lib.hid (fun W (hb : Below w.heap.size w W) => eqInts_any a f.kinds.length n f.kinds b g.kinds.length m g.kinds W (hr.below hb) (hr2.below hb))
  clear hr hr2
  have AL := Lib.hid (al2 w (.cells (f.cells a n) 28) (.cells (g.cells b m) 28))
  go_enter Tryz.func53, Tryz.ntmps53
  go_upto_region 1 with fail
  obtain ⟨p, hp⟩ : ∃ p, Hid (w.heap.size = p) := ⟨_, Lib.hid rfl⟩
  obtain ⟨q, hq⟩ : ∃ q, Hid (w.heap.size + 1 = q) := ⟨_, Lib.hid rfl⟩
  rw [hq.out] at AL ⊢
  rw [hp.out] at AL ⊢
  generalize ((w.alloc (.cells (f.cells a n) 28)).alloc (.cells (g.cells b m) 28)) = W0 at *
  have BF : Hid (Below w.heap.size w W0) := Lib.hid (by rw [hp.out]; exact AL.out.1)
  have XF : Hid (W0.heap[p]? = some (.cells (f.cells a n) 28 (0, 0))) := Lib.hid AL.out.2.1
  have XG : Hid (W0.heap[q]? = some (.cells (g.cells b m) 28 (0, 0))) := Lib.hid AL.out.2.2
  clear AL
  have c0 := qcell XF.out 0 (.int .i64 f.eye) rfl
  have c1 := qcell XF.out 1 (.int .i64 f.rings) rfl
  have c2 := qcell XF.out 2 (.int .i64 f.sectors) rfl
  have c3 := qcell XF.out 3 (.slice a f.kinds.length n) rfl
  have d0 := qcell XG.out 0 (.int .i64 g.eye) rfl
  have d1 := qcell XG.out 1 (.int .i64 g.rings) rfl
  have d2 := qcell XG.out 2 (.int .i64 g.sectors) rfl
  have d3 := qcell XG.out 3 (.slice b g.kinds.length m) rfl
  cases h1 : eq3 f.eye f.rings f.sectors g.eye g.rings g.sectors
  · go_wp2_with (first
      | (refine wpList_load_row rfl 28 _ rfl p rfl 28 (f.cells a n) (0, 0) _ XF.out Tryz.underlying28 rfl (by exact (qJF f a n)) ?_)
      | (refine wpList_load_row rfl 28 _ rfl q rfl 28 (g.cells b m) (0, 0) _ XG.out Tryz.underlying28 rfl (by exact (qJF g b m)) ?_)
      | fail)
    go_ret
    exact ⟨by rw [show sameF f g = false from (by unfold eq3 at h1; simp only [decide_eq_false_iff_not] at h1; unfold sameF; exact decide_eq_false fun e => h1 (by rw [e]))]; rfl, BF.out⟩
  · have H1 := Lib.hid (of_decide_eq_true h1)
    go_wp2_with (first
      | (refine wpList_load_row rfl 28 _ rfl p rfl 28 (f.cells a n) (0, 0) _ XF.out Tryz.underlying28 rfl (by exact (qJF f a n)) ?_)
      | (refine wpList_load_row rfl 28 _ rfl q rfl 28 (g.cells b m) (0, 0) _ XG.out Tryz.underlying28 rfl (by exact (qJF g b m)) ?_)
      | fail)
    refine (EQ.out W0 BF.out).mono ?_
    rintro e V1 ⟨x, rfl, hx, q9, rfl⟩
    have HX := Lib.hid hx
    replace BF := Lib.hid (BF.out.trans (Below.mono (show Below W0.heap.size W0 (W0.drewN q9) from ⟨rfl, rfl, rfl, Nat.le_refl _, fun _ _ => rfl⟩) BF.out.size))
    clear hx
    go_wp2_with fail
    go_ret
    exact ⟨by rw [show sameF f g = x from (by unfold sameF; rw [Bool.eq_iff_iff, HX.out, decide_eq_true_eq]; have h := H1.out; simp only [List.cons.injEq, and_true] at h; exact ⟨fun e => by rw [e], fun e => face_eq h.1 h.2.1 h.2.2 e⟩)]; rfl, BF.out⟩
end Go.Proofs.YtimmadkbkimonaaGreatDoor
namespace Go.Proofs.YtimmadkbkimonaaGreatDoor
set_option linter.unusedSimpArgs false
set_option linter.unusedVariables false
open Go.RowKit

set_option maxHeartbeats 4000000 in
set_option maxRecDepth 100000 in
theorem isNaNZ (x : Int) (w : World) : Calls Tryz.prog 151 #[.int .i64 x] w fun e w' => e = .returned (.bool false) ∧ w' = w := by
  have h : (x != x) = false := by simp
  go_enter Tryz.func151, Tryz.ntmps151
  go_wp2_with fail
  go_ret
  exact ⟨rfl, rfl⟩
def cmp1 (x y : Int) : Int := if x < y then -1 else if y < x then 1 else 0
set_option maxHeartbeats 4000000 in
set_option maxRecDepth 100000 in
theorem cmp1_any (x y : Int) (w : World) : Calls Tryz.prog 136 #[.int .i64 x, .int .i64 y] w fun e w' => e = .returned (.int .i64 (cmp1 x y)) ∧ w' = w := by
  by_cases h1 : x < y
  · have t1 : decide (x < y) = true := by simp; omega
    go_enter Tryz.func136, Tryz.ntmps136
    go_wp2_with (refine (isNaNZ _ _).mono ?_; rintro e W1 ⟨rfl, rfl⟩)
    go_ret
    exact ⟨by unfold cmp1; rw [if_pos (by omega)]; rfl, rfl⟩
  · have t1 : decide (x < y) = false := by simp; omega
    by_cases h2 : y < x
    · have t2 : decide (y < x) = true := by simp; omega
      go_enter Tryz.func136, Tryz.ntmps136
      go_wp2_with (refine (isNaNZ _ _).mono ?_; rintro e W1 ⟨rfl, rfl⟩)
      go_ret
      exact ⟨by unfold cmp1; rw [if_neg (by omega), if_pos (by omega)]; rfl, rfl⟩
    · have t2 : decide (y < x) = false := by simp; omega
      go_enter Tryz.func136, Tryz.ntmps136
      go_wp2_with (refine (isNaNZ _ _).mono ?_; rintro e W1 ⟨rfl, rfl⟩)
      go_ret
      exact ⟨by unfold cmp1; rw [if_neg (by omega), if_neg (by omega)]; rfl, rfl⟩
set_option maxHeartbeats 4000000 in
set_option maxRecDepth 100000 in
theorem cmpZ_any (a : Option Addr) (n c : Nat) (l : List Int) (b : Option Addr) (m d : Nat) (l2 : List Int) (w : World) (hr : RdI w a n c l) (hr2 : RdI w b m d l2) :
    Calls Tryz.prog 103 #[.slice a n c, .slice b m d] w fun e w' => e = .returned (.int .i64 (cmpZ l l2)) ∧ w' = w := by
  have HN63 := Lib.hid hr.maxn
  have HM63 := Lib.hid hr2.maxn
  have HN := Lib.hid hr.len
  have HM := Lib.hid hr2.len
  have R1 := Lib.hid hr
  have R2 := Lib.hid hr2
  clear hr hr2
  go_enter Tryz.func103, Tryz.ntmps103
  go_wp2_with fail
  go_loopw [11] (fun i wr => ∃ k : Nat, i = .int .i64 k ∧ k ≤ n ∧ k ≤ m ∧ Hid (cmpZ l l2 = cmpZ (l.drop k) (l2.drop k)) ∧ wr = w) (fun i _ => n - (intOf i).toNat)
  case atStart => exact ⟨0, rfl, Nat.zero_le _, Nat.zero_le _, Lib.hid rfl, rfl⟩
  case round =>
    obtain ⟨k, rfl, hk, hkm, HC, rfl⟩ := hrel
    by_cases hkn : k < n
    · have t0 : decide ((k : Int) < (n : Int)) = true := by simp; omega
      obtain ⟨x, hx⟩ : ∃ x, l[k]? = some x := ⟨l[k]'(by rw [HN.out]; exact hkn), List.getElem?_eq_getElem _⟩
      obtain ⟨b0, off, rfl, hc1⟩ := R1.out.get hx
      have HX := Lib.hid hx
      clear hx
      by_cases hkm2 : k < m
      · have t1 : decide ((m : Int) ≤ (k : Int)) = false := by simp; omega
        obtain ⟨y, hy⟩ : ∃ y, l2[k]? = some y := ⟨l2[k]'(by rw [HM.out]; exact hkm2), List.getElem?_eq_getElem _⟩
        obtain ⟨b1, off1, rfl, hc2⟩ := R2.out.get hy
        have HY := Lib.hid hy
        clear hy
        have ST : Hid (cmpZ l l2 = if x < y then -1 else if y < x then 1 else cmpZ (l.drop (k + 1)) (l2.drop (k + 1))) := Lib.hid (by
          have e1 : l.drop k = x :: l.drop (k + 1) := by
            have h := List.drop_eq_getElem_cons (l := l) (i := k) (by rw [HN.out]; exact hkn)
            rw [h]
            have h2 := HX.out
            rw [List.getElem?_eq_getElem (by rw [HN.out]; exact hkn)] at h2
            rw [Option.some.inj h2]
          have e2 : l2.drop k = y :: l2.drop (k + 1) := by
            have h := List.drop_eq_getElem_cons (l := l2) (i := k) (by rw [HM.out]; exact hkm2)
            rw [h]
            have h2 := HY.out
            rw [List.getElem?_eq_getElem (by rw [HM.out]; exact hkm2)] at h2
            rw [Option.some.inj h2]
          rw [HC.out, e1, e2]
          rfl)
        go_wp2_with fail
        refine (cmp1_any x y _).mono ?_
        rintro e W1 ⟨rfl, rfl⟩
        obtain ⟨c, hc⟩ : ∃ c, Hid (cmp1 x y = c) := ⟨_, Lib.hid rfl⟩
        rw [hc.out]
        by_cases h0 : c = 0
        · have t2 : (c != 0) = false := by simp [h0]
          go_upto_region 10 with fail
          have hk64 : (k : Int) + 1 ≤ 9223372036854775807 := by have := HN63.out; omega
          go_wp2_with fail
          go_roundw
          case rel =>
            refine ⟨k + 1, by simp, by omega, by omega, Lib.hid ?_, by trivial⟩
            rw [ST.out]
            have h1 := hc.out
            unfold cmp1 at h1
            split at h1
            · omega
            · split at h1
              · omega
              · rename_i h2 h3
                rw [if_neg h2, if_neg h3]
          case measure => simp [intOf]; omega
        · have t2 : (c != 0) = true := by simp [h0]
          go_wp2_with fail
          go_ret
          have e : cmpZ l l2 = c := by
            rw [ST.out]
            have h1 := hc.out
            unfold cmp1 at h1
            split at h1
            · rename_i h2; rw [if_pos h2]; exact h1
            · rename_i h2
              rw [if_neg h2]
              split at h1
              · rename_i h3; rw [if_pos h3]; exact h1
              · exact absurd h1.symm h0
          rw [e]
          exact ⟨rfl, rfl⟩
      · have t1 : decide ((m : Int) ≤ (k : Int)) = true := by simp; omega
        go_wp2_with fail
        go_ret
        have e2 : cmpZ l l2 = 1 := by
          rw [HC.out, List.drop_of_length_le (l := l2) (by have := HM.out; omega), List.drop_eq_getElem_cons (l := l) (i := k) (by rw [HN.out]; exact hkn)]
          rfl
        rw [e2]
        exact ⟨rfl, rfl⟩
    · have t0 : decide ((k : Int) < (n : Int)) = false := by simp; omega
      have E1 : Hid (l.drop k = []) := Lib.hid (List.drop_of_length_le (by have := HN.out; omega))
      have EK : Hid (k = n) := Lib.hid (by omega)
      by_cases hnm : n < m
      · have t1 : decide ((n : Int) < (m : Int)) = true := by simp; omega
        have e2 : cmpZ l l2 = -1 := by
          rw [HC.out, E1.out, List.drop_eq_getElem_cons (l := l2) (i := k) (by have := HM.out; have := EK.out; omega)]
          rfl
        have E2 := Lib.hid e2
        clear e2
        go_wp2_with fail
        go_ret
        rw [E2.out]
        exact ⟨rfl, rfl⟩
      · have t1 : decide ((n : Int) < (m : Int)) = false := by simp; omega
        have e2 : cmpZ l l2 = 0 := by
          rw [HC.out, E1.out, List.drop_of_length_le (by have := HM.out; have := EK.out; omega)]
          rfl
        have E2 := Lib.hid e2
        clear e2
        go_wp2_with fail
        go_ret
        rw [E2.out]
        exact ⟨rfl, rfl⟩
end Go.Proofs.YtimmadkbkimonaaGreatDoor
namespace Go.Proofs.YtimmadkbkimonaaGreatDoor
set_option linter.unusedSimpArgs false
set_option linter.unusedVariables false
open Go.Shelf

def sh_lays189_ren : Go.Shelf.Ren := ⟨fun | 189 => 130 | 125 => 150 | 257 => 149 | 128 => 176 | 129 => 177 | 294 => 167 | 295 => 168 | 296 => 169 | 297 => 170 | 298 => 171 | 299 => 172 | 216 => 173 | 300 => 174 | 301 => 175 | 328 => 189 | 329 => 190 | 330 => 191 | 331 => 192 | 332 => 193 | 215 => 151 | 343 => 200 | n => n, fun | 28 => 26 | 3 => 3 | 46 => 162 | 0 => 0 | 51 => 181 | 53 => 183 | 4 => 4 | 183 => 174 | 182 => 173 | 131 => 145 | 5 => 5 | 9 => 9 | 218 => 202 | 222 => 142 | 228 => 215 | 229 => 216 | n => n, fun | n => n⟩
theorem sh_lays189 : Go.Proofs.Lays.n189 Tryz.prog sh_lays189_ren := {
  mixed := by kernel_rfl
  f125 := Tryz.func150.trans (congrArg some (by kernel_rfl))
  f128 := Tryz.func176.trans (congrArg some (by kernel_rfl))
  f129 := Tryz.func177.trans (congrArg some (by kernel_rfl))
  f189 := Tryz.func130.trans (congrArg some (by kernel_rfl))
  f215 := Tryz.func151.trans (congrArg some (by kernel_rfl))
  f216 := Tryz.func173.trans (congrArg some (by kernel_rfl))
  f257 := Tryz.func149.trans (congrArg some (by kernel_rfl))
  f294 := Tryz.func167.trans (congrArg some (by kernel_rfl))
  f295 := Tryz.func168.trans (congrArg some (by kernel_rfl))
  f296 := Tryz.func169.trans (congrArg some (by kernel_rfl))
  f297 := Tryz.func170.trans (congrArg some (by kernel_rfl))
  f298 := Tryz.func171.trans (congrArg some (by kernel_rfl))
  f299 := Tryz.func172.trans (congrArg some (by kernel_rfl))
  f300 := Tryz.func174.trans (congrArg some (by kernel_rfl))
  f301 := Tryz.func175.trans (congrArg some (by kernel_rfl))
  f328 := Tryz.func189.trans (congrArg some (by kernel_rfl))
  f329 := Tryz.func190.trans (congrArg some (by kernel_rfl))
  f330 := Tryz.func191.trans (congrArg some (by kernel_rfl))
  f331 := Tryz.func192.trans (congrArg some (by kernel_rfl))
  f332 := Tryz.func193.trans (congrArg some (by kernel_rfl))
  f343 := Tryz.func200.trans (congrArg some (by kernel_rfl))
  t0 := Tryz.underlying0
  a0 := Tryz.isAgg0
  z0 := Tryz.sizeOf0
  v0 := Tryz.zeroValue0
  t3 := Tryz.underlying3
  a3 := Tryz.isAgg3
  z3 := Tryz.sizeOf3
  v3 := Tryz.zeroValue3
  t4 := Tryz.underlying4
  a4 := Tryz.isAgg4
  z4 := Tryz.sizeOf4
  v4 := Tryz.zeroValue4
  t5 := Tryz.underlying5
  a5 := Tryz.isAgg5
  z5 := Tryz.sizeOf5
  v5 := Tryz.zeroValue5
  t9 := Tryz.underlying9
  a9 := Tryz.isAgg9
  z9 := Tryz.sizeOf9
  v9 := Tryz.zeroValue9
  t28 := Tryz.underlying26
  a28 := Tryz.isAgg26
  z28 := Tryz.sizeOf26
  v28 := Tryz.zeroValue26
  t46 := Tryz.underlying162
  a46 := Tryz.isAgg162
  z46 := Tryz.sizeOf162
  v46 := Tryz.zeroValue162
  t51 := Tryz.underlying181
  a51 := Tryz.isAgg181
  z51 := Tryz.sizeOf181
  v51 := Tryz.zeroValue181
  t53 := Tryz.underlying183
  a53 := Tryz.isAgg183
  z53 := Tryz.sizeOf183
  v53 := Tryz.zeroValue183
  t131 := Tryz.underlying145
  a131 := Tryz.isAgg145
  z131 := Tryz.sizeOf145
  v131 := Tryz.zeroValue145
  t182 := Tryz.underlying173
  a182 := Tryz.isAgg173
  z182 := Tryz.sizeOf173
  v182 := Tryz.zeroValue173
  t183 := Tryz.underlying174
  a183 := Tryz.isAgg174
  z183 := Tryz.sizeOf174
  v183 := Tryz.zeroValue174
  t218 := Tryz.underlying202
  a218 := Tryz.isAgg202
  z218 := Tryz.sizeOf202
  v218 := Tryz.zeroValue202
  t222 := Tryz.underlying142
  a222 := Tryz.isAgg142
  z222 := Tryz.sizeOf142
  v222 := Tryz.zeroValue142
  t228 := Tryz.underlying215
  a228 := Tryz.isAgg215
  z228 := Tryz.sizeOf215
  v228 := Tryz.zeroValue215
  t229 := Tryz.underlying216
  a229 := Tryz.isAgg216
  z229 := Tryz.sizeOf216
  v229 := Tryz.zeroValue216 }
open Go.Sort Go.RowKit in
theorem sh_slices_Sort_int (blk off cap : Nat) (zs : List Int) (w : World) (hH : Holds (Value.int .i64) w blk off zs.toArray) (hblk : blk < w.heap.size) (hsz : zs.length < 4611686018427387904) :
    Calls Tryz.prog 130 #[.slice (some ⟨blk, off, none⟩) zs.length cap] w fun e w' =>
      e = .returned (.tuple #[]) ∧ ∃ n os, w' = grow (putRow (Value.int .i64) (Sort.ahead w n) blk off (zs.mergeSort fun x y => decide (x ≤ y)).toArray) os := Any.slices_Sort_int sh_lays189 blk off cap zs w hH hblk hsz
def sh_laysNm220_ren : Go.Shelf.Ren := ⟨fun | 20 => 131 | n => n, fun | 22 => 26 | 3 => 3 | 4 => 4 | 0 => 0 | n => n, fun | n => n⟩
theorem sh_laysNm220 : Go.Proofs.Lays2.n20 Tryz.prog sh_laysNm220_ren := {
  mixed := by kernel_rfl
  f20 := Tryz.func131.trans (congrArg some (by kernel_rfl))
  t0 := Tryz.underlying0
  a0 := Tryz.isAgg0
  z0 := Tryz.sizeOf0
  v0 := Tryz.zeroValue0
  t3 := Tryz.underlying3
  a3 := Tryz.isAgg3
  z3 := Tryz.sizeOf3
  v3 := Tryz.zeroValue3
  t4 := Tryz.underlying4
  a4 := Tryz.isAgg4
  z4 := Tryz.sizeOf4
  v4 := Tryz.zeroValue4
  t22 := Tryz.underlying26
  a22 := Tryz.isAgg26
  z22 := Tryz.sizeOf26
  v22 := Tryz.zeroValue26
  i3 := by kernel_rfl }
open Go.RowKit Go.Lib Go.Sort in
theorem sh_slices_Compact_int (blk off cap : Nat) (zs : List Int) (w : World) (hH : Holds (Value.int .i64) w blk off zs.toArray) (hsz : zs.length ≤ 9223372036854775807) (hcap : zs.length ≤ cap) :
    Calls Tryz.prog 131 #[.slice (some ⟨blk, off, none⟩) zs.length cap] w fun e w' => e = .returned (.slice (some ⟨blk, off, none⟩) (Lib.compact zs).length cap) ∧ ∃ q, w' = putRow (Value.int .i64) (Sort.ahead w q) blk off (Lib.compact zs ++ List.replicate (zs.length - (Lib.compact zs).length) 0).toArray := Any.slices_Compact_int sh_laysNm220 blk off cap zs w hH hsz hcap
end Go.Proofs.YtimmadkbkimonaaGreatDoor
namespace Go.Proofs.YtimmadkbkimonaaGreatDoor
set_option linter.unusedSimpArgs false
set_option linter.unusedVariables false
open Go.RowKit Go.Sort

def KeptBut (base : Nat) (w w' : World) : Prop := (∀ (p : Nat) (ob : Obj), w.heap[p]? = some ob → (∀ cur, ob ≠ .cells cur 3 (0, 0)) → w'.heap[p]? = some ob) ∧ ∀ W, Below base W w → Below base W w'
theorem compactUpTo_le (d : Array Int) : ∀ m, (Lib.compactUpTo d m).length ≤ m
  | 0 => by simp [Lib.compactUpTo]
  | m + 1 => by
    have := compactUpTo_le d m
    rw [Lib.compactUpTo_succ, List.length_append]
    split <;> simp <;> omega
theorem compact_le (xs : List Int) : (Lib.compact xs).length ≤ xs.length := compactUpTo_le xs.toArray xs.length
theorem own_turn {w w' : World} {base g n c m : Nat} {xs ys : List Int} (h : w.ownsRow base 3 1 (.slice (some ⟨g, 0, none⟩) n c) n (xs.map intV)) (hy : ys.length = n) (hm : m ≤ n) (hb : base ≤ w.heap.size) (d : List Int) (hd : d = ys.take m)
    (hw : ∃ q os, w' = grow (putRow (Value.int .i64) (Sort.ahead w q) g 0 ys.toArray) os) : w'.ownsRow base 3 1 (.slice (some ⟨g, 0, none⟩) m c) m (d.map intV) ∧ KeptBut base w w' := by
  obtain ⟨q, os, rfl⟩ := hw
  obtain ⟨h1, h2⟩ := h
  rcases h2 with ⟨h2, _⟩ | ⟨g', cap, cur, hv, hbg, hg, hn, hc, hs, ht⟩
  · cases h2
  · simp only [Value.slice.injEq, Option.some.injEq, Addr.mk.injEq] at hv
    obtain ⟨⟨rfl, _⟩, _, rfl⟩ := hv
    have hgl := qlt hg
    have hG : w.grownBy (grow (putRow (Value.int .i64) (Sort.ahead w q) g 0 ys.toArray) os) (some g) := by
      refine ⟨rfl, rfl, rfl, by simp [grow, putRow, mapBlock, Sort.ahead], fun q' hq' hne => ?_⟩
      have hqg : g ≠ q' := fun e => hne (by rw [← e])
      simp only [grow, putRow, mapBlock, Sort.ahead]
      rw [Array.getElem?_append_left (by simpa using hq'), Array.getElem?_modify, if_neg hqg]
    refine ⟨⟨by rw [List.length_map, hd, List.length_take]; omega, .inr ⟨g, c, putCells (Value.int .i64) 0 ys.toArray cur, rfl, hbg, ?_, by omega, hc, ?_, ?_⟩⟩, fun p ob hp ho => qgrown hG hp (fun e => by
      cases e
      rw [hg] at hp
      exact ho cur (Option.some.inj hp).symm), fun W hb2 => hb2.grown hG hb (fun k e => by cases e; exact hbg)⟩
    · simp only [grow, putRow, mapBlock, Sort.ahead]
      rw [Array.getElem?_append_left (by simpa using hgl), Array.getElem?_modify, if_pos rfl, hg]
      rfl
    · rw [← hs]; simp [putCells]
    · apply List.ext_getElem?
      intro t
      rw [List.getElem?_take]
      by_cases ht2 : t < m * 1
      · rw [if_pos ht2]
        have htc : t < cur.size := by rw [hs]; omega
        simp only [putCells, Array.getElem?_toList, Array.getElem?_mapIdx, Array.getElem?_eq_getElem htc, Option.map_some]
        rw [if_pos ⟨Nat.zero_le _, by simp; omega⟩, List.getElem?_map, hd, List.getElem?_take, if_pos (by omega), List.getElem?_eq_getElem (by omega)]
        rw [Nat.sub_zero, getElem!_pos ys.toArray t (by simp; omega)]
        simp [intV]
      · rw [if_neg ht2, List.getElem?_eq_none]
        rw [List.length_map, hd, List.length_take]
        omega
theorem own_holds {w : World} {base g n c : Nat} {xs : List Int} (h : w.ownsRow base 3 1 (.slice (some ⟨g, 0, none⟩) n c) n (xs.map intV)) : Holds (Value.int .i64) w g 0 xs.toArray ∧ g < w.heap.size ∧ n ≤ c := by
  have hl : xs.length = n := by simpa using h.1
  rcases h.2 with ⟨h2, _⟩ | ⟨g', cap, cur, hv, hbg, hg, hn, hc, hs, ht⟩
  · cases h2
  · simp only [Value.slice.injEq, Option.some.injEq, Addr.mk.injEq] at hv
    obtain ⟨⟨rfl, _⟩, _, rfl⟩ := hv
    refine ⟨fun j hj => ⟨?_, qfroz hg (0 + j)⟩, qlt hg, hn⟩
    have hj2 : j < xs.length := by simpa using hj
    have e : (cur.toList.take (n * 1))[j]? = (xs.map intV)[j]? := by rw [ht]
    rw [List.getElem?_take, if_pos (by omega), List.getElem?_map, List.getElem?_eq_getElem hj2] at e
    refine qcell hg (0 + j) _ ?_
    rw [Nat.zero_add, getElem!_pos xs.toArray j hj]
    simpa [intV] using e
theorem sortZ_any (base : Nat) (a : Option Addr) (n c : Nat) (xs : List Int) (w : World) (h : w.ownsRow base 3 1 (.slice a n c) n (xs.map intV)) (h0 : 0 < n) (hn : n ≤ 1000000) (hb : base ≤ w.heap.size) :
    Calls Tryz.prog 130 #[.slice a n c] w fun e w' => e = .returned (.tuple #[]) ∧ w'.ownsRow base 3 1 (.slice a n c) n ((xs.mergeSort fun x y => decide (x ≤ y)).map intV) ∧ KeptBut base w w' := by
  obtain ⟨g, rfl⟩ : ∃ g, a = some ⟨g, 0, none⟩ := by
    rcases h.2 with ⟨h1, h2⟩ | ⟨g', cap, cur, h1, _⟩
    · omega
    · simp only [Value.slice.injEq] at h1; exact ⟨g', h1.1⟩
  have hl : xs.length = n := by simpa using h.1
  obtain ⟨k1, k2, k3⟩ := own_holds h
  have := sh_slices_Sort_int g 0 c xs w k1 k2 (by omega)
  rw [hl] at this
  refine this.mono ?_
  rintro e w' ⟨rfl, q, os, rfl⟩
  have hp := (List.mergeSort_perm xs (fun x y => decide (x ≤ y))).length_eq
  exact ⟨rfl, own_turn (m := n) h (hp.trans hl) (Nat.le_refl _) hb _ (List.take_of_length_le (by omega)).symm ⟨q, os, rfl⟩⟩
theorem compactZ_any (base : Nat) (a : Option Addr) (n c : Nat) (xs : List Int) (w : World) (h : w.ownsRow base 3 1 (.slice a n c) n (xs.map intV)) (h0 : 0 < n) (hn : n ≤ 1000000) (hb : base ≤ w.heap.size) :
    Calls Tryz.prog 131 #[.slice a n c] w fun e w' => e = .returned (.slice a (Lib.compact xs).length c) ∧ w'.ownsRow base 3 1 (.slice a (Lib.compact xs).length c) (Lib.compact xs).length ((Lib.compact xs).map intV) ∧ KeptBut base w w' := by
  obtain ⟨g, rfl⟩ : ∃ g, a = some ⟨g, 0, none⟩ := by
    rcases h.2 with ⟨h1, h2⟩ | ⟨g', cap, cur, h1, _⟩
    · omega
    · simp only [Value.slice.injEq] at h1; exact ⟨g', h1.1⟩
  have hl : xs.length = n := by simpa using h.1
  obtain ⟨k1, k2, k3⟩ := own_holds h
  have := sh_slices_Compact_int g 0 c xs w k1 (by omega) (by omega)
  rw [hl] at this
  refine this.mono ?_
  rintro e w' ⟨rfl, q, rfl⟩
  have hle : (Lib.compact xs).length ≤ n := by rw [← hl]; exact compact_le xs
  refine ⟨rfl, own_turn (m := (Lib.compact xs).length) (ys := Lib.compact xs ++ List.replicate (n - (Lib.compact xs).length) 0) h (by rw [List.length_append, List.length_replicate]; omega) hle hb _ (by rw [List.take_left]) ⟨q, #[], ?_⟩⟩
  simp [grow]
  rfl
end Go.Proofs.YtimmadkbkimonaaGreatDoor
