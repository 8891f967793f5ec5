/- Concat of byte slices; both halves of a tally: Notch of the program and of the reference; comparing lists of byte slices. -/
import Derived.Test.YtpdmlklnbjegpaaGreatBytes
namespace Go.Proofs.YtpdmlklnbjegpaaGreat
open Go.RowKit

/-- The slice of byte slices reads as the lists ls. -/
def RdBB (w : World) (a : Option Addr) (n c : Nat) (ls : List (List UInt8)) : Prop :=
  ∃ vs : List Value, RdA w 1 a n c vs ∧ ls.length = n ∧ ∀ i, i < n → ∃ ai ci, vs[i]? = some (.slice ai (ls[i]?.getD []).length ci) ∧ RdB w ai (ls[i]?.getD []).length ci (ls[i]?.getD [])

theorem RdBB.len {w : World} {a : Option Addr} {n c : Nat} {ls : List (List UInt8)} (h : RdBB w a n c ls) : ls.length = n := by obtain ⟨_, _, h, _⟩ := h; exact h
theorem RdBB.maxn {w : World} {a : Option Addr} {n c : Nat} {ls : List (List UInt8)} (h : RdBB w a n c ls) : n ≤ 9223372036854775807 := by obtain ⟨_, h, _⟩ := h; exact h.maxn
theorem RdBB.below {w w' : World} {a : Option Addr} {n c : Nat} {ls : List (List UInt8)} (h : RdBB w a n c ls) (hb : Below w.heap.size w w') : RdBB w' a n c ls := by
  obtain ⟨vs, h1, h2, h3⟩ := h
  refine ⟨vs, h1.below hb, h2, fun i hi => ?_⟩
  obtain ⟨ai, ci, h4, h5⟩ := h3 i hi
  exact ⟨ai, ci, h4, h5.below hb⟩
theorem RdBB.at {w : World} {a : Option Addr} {n c : Nat} {ls : List (List UInt8)} (h : RdBB w a n c ls) (hn : 0 < n) :
    ∃ b off, a = some ⟨b, off, none⟩ ∧ ∀ i, i < n → ∃ ai ci, w.cell? ⟨b, off + i, none⟩ = some (.slice ai (ls[i]?.getD []).length ci) ∧ RdB w ai (ls[i]?.getD []).length ci (ls[i]?.getD []) := by
  obtain ⟨vs, h1, h2, h3⟩ := h
  obtain ⟨b, off, rfl, h4⟩ := h1.at hn
  refine ⟨b, off, rfl, fun i hi => ?_⟩
  obtain ⟨ai, ci, h5, h6⟩ := h3 i hi
  exact ⟨ai, ci, h4 i _ h5, h6⟩
theorem RdBB.nil (w : World) : RdBB w none 0 0 [] := ⟨[], RdA.nil w 1, rfl, fun i hi => by omega⟩

def totTo (ls : List (List UInt8)) : Nat → Nat
  | 0 => 0
  | k+1 => totTo ls k + (ls[k]?.getD []).length
def catTo (ls : List (List UInt8)) : Nat → List UInt8
  | 0 => []
  | k+1 => catTo ls k ++ (ls[k]?.getD [])
theorem catTo_len (ls : List (List UInt8)) (k : Nat) : (catTo ls k).length = totTo ls k := by
  induction k with
  | zero => rfl
  | succ k ih => simp [catTo, totTo, ih]
theorem totTo_mono (ls : List (List UInt8)) {j k : Nat} (h : j ≤ k) : totTo ls j ≤ totTo ls k := by
  induction k with
  | zero => obtain rfl : j = 0 := by omega
            exact Nat.le_refl _
  | succ k ih =>
    rcases Nat.lt_or_ge j (k + 1) with h1 | h1
    · exact Nat.le_trans (ih (by omega)) (Nat.le_add_right _ _)
    · obtain rfl : j = k + 1 := by omega
      exact Nat.le_refl _
theorem catTo_take (ls : List (List UInt8)) (k : Nat) : catTo ls k = (ls.take k).flatten := by
  induction k with
  | zero => simp [catTo]
  | succ k ih =>
    rw [catTo, ih, List.take_add_one, List.flatten_append]
    cases h : ls[k]? <;> simp
theorem catTo_all (ls : List (List UInt8)) : catTo ls ls.length = ls.flatten := by rw [catTo_take, List.take_length]

set_option maxHeartbeats 400000 in
theorem concat_any (a : Option Addr) (n c : Nat) (ls : List (List UInt8)) (w : World) (hr : RdBB w a n c ls) (hn : totTo ls n ≤ 140737488355328) :
    Calls Tryz.prog 96 #[.slice a n c] w fun e w' => ∃ a' c', e = .returned (.slice a' (totTo ls n) c') ∧ w'.ownsRow w.heap.size 5 1 (.slice a' (totTo ls n) c') (totTo ls n) ((catTo ls n).map byteV) ∧ Below w.heap.size w w' := by
  have hm := hr.maxn
  go_enter Tryz.func96, Tryz.ntmps96
  go_wp2
  go_loop [3, 5, 11] (fun s _ i => ∃ k : Nat, k ≤ n ∧ i = .int .i64 k ∧ s = .int .i64 (totTo ls k)) (fun _ _ i => n - (intOf i).toNat)
  case atStart => exact ⟨0, Nat.zero_le _, rfl, rfl⟩
  case round =>
    obtain ⟨k, hk, rfl, rfl⟩ := hrel
    have hk1 := totTo_mono ls hk
    by_cases hlt : k < n
    · obtain ⟨b, off, rfl, hc⟩ := hr.at (by omega)
      obtain ⟨ai, ci, hcell, _⟩ := hc k hlt
      have hk2 := totTo_mono ls (show k + 1 ≤ n from hlt)
      simp only [totTo] at hk2
      clear hc
      go_wp2
      go_round
      case rel => exact ⟨k + 1, by omega, by go_num, by simp [totTo]⟩
      case measure => simp [intOf]; omega
    · obtain rfl : k = n := by omega
      clear hk1
      go_wp2_with (go_at_call 130; refine (grow_nil _ _ hn).mono ?_; rintro e w1 ⟨ga, gc, rfl, hown, hb⟩)
      go_loopw [6, 8, 27] (fun v _ i wr => ∃ (j : Nat) (ja : Option Addr) (jc : Nat), j ≤ k ∧ i = .int .i64 j ∧ v = .slice ja (totTo ls j) jc ∧ wr.ownsRow w.heap.size 5 1 (.slice ja (totTo ls j) jc) (totTo ls j) ((catTo ls j).map byteV) ∧ Below w.heap.size w wr) (fun _ _ i _ => k - (intOf i).toNat)
      case atStart => exact ⟨0, ga, gc, Nat.zero_le _, rfl, rfl, hown, hb⟩
      case round =>
        obtain ⟨j, ja, jc, hj, rfl, rfl, hownj, hbj⟩ := hrel
        by_cases hlt : j < k
        · obtain ⟨b, off, rfl, hc⟩ := (hr.below hbj).at (by omega)
          obtain ⟨ai, ci, hcell, hrd⟩ := hc j hlt
          have hk2 := totTo_mono ls (show j + 1 ≤ k from hlt)
          simp only [totTo] at hk2
          have hsz := hbj.size
          clear hc hr hown hb
          go_wp2_with (at_builtin; refine app_bytes _ rfl _ _ rfl w.heap.size _ _ _ _ rfl hownj _ _ _ _ rfl hrd (by omega) hsz ?_; intro a' c' w' h1 h2)
          go_roundw
          case rel => exact ⟨j + 1, a', c', by omega, by go_num, rfl, h1, hbj.grown h2 hsz (fun q hq => (hownj.lt q hq).1)⟩
          case measure => simp [intOf]; omega
        · obtain rfl : j = k := by omega
          go_wp2
          go_ret
          exact ⟨ja, jc, rfl, hownj, hbj⟩

/-- A new slice of two byte slices. -/
theorem RdBB.pair {w : World} {a1 a2 : Option Addr} {n1 n2 c1 c2 : Nat} {l1 l2 : List UInt8} (h1 : RdB w a1 n1 c1 l1) (h2 : RdB w a2 n2 c2 l2) :
    RdBB (w.alloc (.cells #[.slice a1 n1 c1, .slice a2 n2 c2] 41)) (some ⟨w.heap.size, 0, none⟩) 2 2 [l1, l2] := by
  have hb := (Below.refl w.heap.size w).alloc (Nat.le_refl _) (.cells #[.slice a1 n1 c1, .slice a2 n2 c2] 41)
  have hown := World.ownsRow_lit (base := w.heap.size) (e := 41) (size := 1) w #[.slice a1 n1 c1, .slice a2 n2 c2] 2 (Nat.le_refl _) (by unfold maxLen; omega) rfl
  refine ⟨[.slice a1 n1 c1, .slice a2 n2 c2], RdA.of_own hown, rfl, fun i hi => ?_⟩
  obtain rfl := h1.len
  obtain rfl := h2.len
  rcases (show i = 0 ∨ i = 1 by omega) with rfl | rfl
  · exact ⟨a1, c1, rfl, h1.below hb⟩
  · exact ⟨a2, c2, rfl, h2.below hb⟩

theorem concat_two (a1 a2 : Option Addr) (n1 n2 c1 c2 : Nat) (l1 l2 : List UInt8) (w : World) (r : List UInt8) (hr : r = l1 ++ l2) (h1 : RdB w a1 n1 c1 l1) (h2 : RdB w a2 n2 c2 l2) (hn : n1 + n2 ≤ 140737488355328) :
    Calls Tryz.prog 96 #[.slice (some ⟨w.heap.size, 0, none⟩) 2 2] (w.alloc (.cells #[.slice a1 n1 c1, .slice a2 n2 c2] 41)) fun e w' => ∃ a' c', e = .returned (.slice a' r.length c') ∧ w'.ownsRow w.heap.size 5 1 (.slice a' r.length c') r.length (r.map byteV) ∧ Below w.heap.size w w' := by
  subst hr
  have hl1 := h1.len
  have hl2 := h2.len
  have e1 : totTo [l1, l2] 2 = (l1 ++ l2).length := by simp [totTo]
  have e2 : catTo [l1, l2] 2 = l1 ++ l2 := by simp [catTo]
  refine (concat_any _ 2 2 [l1, l2] _ (RdBB.pair h1 h2) (by rw [e1, List.length_append]; omega)).mono ?_
  rintro e w' ⟨a', c', rfl, ho, hb⟩
  rw [e1, e2] at *
  have hb' := ((Below.refl w.heap.size w).alloc (Nat.le_refl _) (.cells #[.slice a1 n1 c1, .slice a2 n2 c2] 41)).trans (hb.mono (by simp))
  refine ⟨a', c', rfl, ⟨ho.1, ?_⟩, hb'⟩
  rcases ho.2 with h | ⟨g, cap, cur, h, hg, hr⟩
  · exact .inl h
  · exact .inr ⟨g, cap, cur, h, by simp at hg; omega, hr⟩

/-- Both halves of the tally of bytes. -/
def stockOf (l : List UInt8) : List UInt8 := two l.length ++ l
def foilOf (l : List UInt8) : List UInt8 := two l.length ++ two (chk l)
theorem two_len (n : Nat) : (two n).length = 2 := rfl
theorem stockOf_len (l : List UInt8) : (stockOf l).length = l.length + 2 := by simp [stockOf, two]; 
theorem foilOf_len (l : List UInt8) : (foilOf l).length = 4 := rfl

theorem own_mono {w : World} {B base : Nat} {e : TypeId} {k : Nat} {v : Value} {n : Nat} {xs : List Value} (h : w.ownsRow base e k v n xs) (hB : B ≤ base) : w.ownsRow B e k v n xs := by
  refine ⟨h.1, ?_⟩
  rcases h.2 with h | ⟨g, cap, cur, h, hg, hr⟩
  · exact .inl h
  · exact .inr ⟨g, cap, cur, h, by omega, hr⟩
theorem own_below {w w' : World} {base : Nat} {e : TypeId} {k : Nat} {v : Value} {n : Nat} {xs : List Value} (h : w.ownsRow base e k v n xs) (hb : Below w.heap.size w w') : w'.ownsRow base e k v n xs := by
  refine ⟨h.1, ?_⟩
  rcases h.2 with h | ⟨g, cap, cur, h, hg, hgg, hr⟩
  · exact .inl h
  · exact .inr ⟨g, cap, cur, h, hg, (hb.block g (Array.getElem?_eq_some_iff.1 hgg).1).trans hgg, hr⟩

theorem RdB.of_own {w : World} {base : Nat} {e : TypeId} {a : Option Addr} {n c : Nat} {l : List UInt8} (h : w.ownsRow base e 1 (.slice a n c) n (l.map byteV)) : RdB w a n c l := RdA.of_own h

set_option maxHeartbeats 400000 in
theorem halves_any (a : Option Addr) (n c : Nat) (l : List UInt8) (w : World) (hr : RdB w a n c l) (hn : n < 65536) :
    Calls Tryz.prog 58 #[.slice a n c] w fun e w' => ∃ a1 c1 a2 c2, e = .returned (.tuple #[.slice a1 (stockOf l).length c1, .slice a2 (foilOf l).length c2]) ∧
      w'.ownsRow w.heap.size 5 1 (.slice a1 (stockOf l).length c1) (stockOf l).length ((stockOf l).map byteV) ∧ w'.ownsRow w.heap.size 5 1 (.slice a2 (foilOf l).length c2) (foilOf l).length ((foilOf l).map byteV) ∧ Below w.heap.size w w' := by
  have hl := hr.len
  have HL := Lib.hid hl; clear hl
  have hk := chk_lt l
  go_enter Tryz.func58, Tryz.ntmps58
  go_wp2_with fail
  refine (two_any n _ hn).mono ?_
  rintro e w1 ⟨a1, c1, rfl, ho1, hb1⟩
  have h1 := RdB.of_own ho1
  have hr1 := hr.below hb1
  go_wp2_with fail
  refine (concat_two _ _ _ _ _ _ _ _ _ (stockOf l) (by rw [stockOf, HL.out]) h1 hr1 (by omega)).mono ?_
  rintro e w2 ⟨a2, c2, rfl, ho2, hb2⟩
  have hb12 := hb1.trans (hb2.mono hb1.size)
  go_wp2_with fail
  refine (two_any n _ hn).mono ?_
  rintro e w3 ⟨a3, c3, rfl, ho3, hb3⟩
  have h3 := RdB.of_own ho3
  have hb13 := hb12.trans (hb3.mono hb12.size)
  have hr3 := hr.below hb13
  go_wp2_with fail
  refine (check_any _ n c l _ (by omega) hr3).mono ?_
  rintro e w' ⟨rfl, rfl⟩
  go_wp2_with fail
  refine (two_any (chk l) _ (by omega)).mono ?_
  rintro e w4 ⟨a4, c4, rfl, ho4, hb4⟩
  have h4 := RdB.of_own ho4
  have h34 := h3.below hb4
  have hb14 := hb13.trans (hb4.mono hb13.size)
  go_wp2_with fail
  refine (concat_two _ _ _ _ _ _ _ _ _ (foilOf l) (by rw [foilOf, HL.out]) h34 h4 (by omega)).mono ?_
  rintro e w5 ⟨a5, c5, rfl, ho5, hb5⟩
  have hb15 := hb14.trans (hb5.mono hb14.size)
  have h25 := own_mono (own_below (own_below (own_below ho2 hb3) hb4) hb5) hb1.size
  have h5 := own_mono ho5 hb14.size
  clear ho1 ho2 ho3 ho4 ho5 h1 h3 h4 h34 hr1 hr3
  go_wp2_with fail
  go_ret2
  exact ⟨a2, c2, a5, c5, rfl, h25, h5, hb15⟩

theorem notch_big (a : Option Addr) (n c : Nat) (w : World) (hn : 8192 < n) (hm : n ≤ 9223372036854775807) :
    Calls Tryz.prog 21 #[.slice a n c] w fun e w' => e = .returned (.tuple #[.slice none 0 0, .slice none 0 0, .int .i64 2]) ∧ w = w' := by
  go_enter Tryz.func21, Tryz.ntmps21
  go_wp2_with fail
  go_ret3
  exact ⟨rfl, rfl⟩

theorem notch_any (a : Option Addr) (n c : Nat) (l : List UInt8) (w : World) (hr : RdB w a n c l) (hn : n ≤ 8192) :
    Calls Tryz.prog 21 #[.slice a n c] w fun e w' => ∃ a1 c1 a2 c2, e = .returned (.tuple #[.slice a1 (stockOf l).length c1, .slice a2 (foilOf l).length c2, .int .i64 0]) ∧
      RdB w' a1 (stockOf l).length c1 (stockOf l) ∧ RdB w' a2 (foilOf l).length c2 (foilOf l) ∧ Below w.heap.size w w' := by
  go_enter Tryz.func21, Tryz.ntmps21
  go_wp2_with fail
  refine (halves_any _ _ _ l _ hr (by omega)).mono ?_
  rintro e w1 ⟨a1, c1, a2, c2, rfl, h1, h2, hb⟩
  go_wp2_with fail
  go_ret3
  exact ⟨a1, c1, a2, c2, rfl, RdB.of_own h1, RdB.of_own h2, hb⟩

end Go.Proofs.YtpdmlklnbjegpaaGreat
