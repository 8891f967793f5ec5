/- Sticks: Crash goes through. -/
import Derived.Test.YtpdmlklnbjegpaaGreatCrash
namespace Go.Proofs.YtpdmlklnbjegpaaGreat
open Go.RowKit

def flipAt (l : List UInt8) (i b : Nat) : List UInt8 := l.set i ((l[i]?.getD 0) ^^^ UInt8.ofNat (2 ^ b))
theorem flipAt_len (l : List UInt8) (i b : Nat) : (flipAt l i b).length = l.length := by simp [flipAt]

/-- What is left of the stock's bytes, and of the foil's, behind a crash. -/
def crashS (sb : List UInt8) (sd stock : Nat) (flip : Int) : List UInt8 :=
  if 0 ≤ flip ∧ flip.toNat / 8 < stock then flipAt (sb.take (sd + stock)) (sd + flip.toNat / 8) (flip.toNat % 8) else sb.take (sd + stock)
def crashF (fb : List UInt8) (fd stock foil : Nat) (flip : Int) : List UInt8 :=
  if 0 ≤ flip ∧ ¬ flip.toNat / 8 < stock then flipAt (fb.take (fd + foil)) (fd + flip.toNat / 8 - stock) (flip.toNat % 8) else fb.take (fd + foil)

/-- One journal's bytes are replaced by bytes in new memory. -/
theorem Stk.setStock {w w1 : World} {p : Nat} {F : Nat → Prop} {sb fb : List UInt8} {sd fd : Nat} (h : Stk w p F sb fb sd fd) (hb : Below w.heap.size w w1) {a : Option Addr} {m c : Nat} {l : List UInt8}
    (ho : w1.ownsRow w.heap.size 5 1 (.slice a m c) m (l.map byteV)) (hd : sd ≤ m) (hm : m ≤ 16777216) :
    ∃ F', Stk (w1.setCell ⟨p, 0, none⟩ (.slice a m c)) p F' l fb sd fd ∧ Same F w (w1.setCell ⟨p, 0, none⟩ (.slice a m c)) ∧ (∀ k, F' k → F k ∨ w.heap.size ≤ k) := by
  have hlt := h.lt
  obtain ⟨sa, sc, fa, fc, g1, g2, g3, g4, g5, g6, g7, g8, g9⟩ := h.same (S := fun _ => False) (Same.of_below hb) (fun _ e => e.elim)
  have hl : l.length = m := by simpa using ho.1
  have n1 := own_ne ho g1 (by decide)
  have n2 := own_ne g3 g1 (by decide)
  have s1 : Same (fun k => k = p) w1 (w1.setCell ⟨p, 0, none⟩ (.slice a m c)) := Same.setCell _ rfl
  refine ⟨fun k => k = p ∨ Value.ownBlock (.slice a l.length c) = some k ∨ Value.ownBlock (.slice fa fb.length fc) = some k, ⟨a, c, fa, fc, ?_, ?_, own_keep g3 s1 (fun b hb e => n2 (by rw [hb, e])), ?_, fun k => Iff.rfl, by omega, g7, by omega, g9⟩, ?_, ?_⟩
  · rw [heap_setCell_same w1 p 0 _ 115 _ g1, hl]; rfl
  · rw [hl]; exact own_mono (own_keep ho s1 (fun b hb e => n1 (by rw [hb, e]))) (Nat.zero_le _)
  · intro k hk hk'
    rw [hl] at hk
    have := (ho.lt k hk).1
    have := hlt k ((g5 k).2 (.inr (.inr hk')))
    omega
  · exact (Same.of_below hb).trans ⟨s1.os, s1.tape, s1.output, s1.size, fun k hk hF => s1.block k hk (fun e => hF ((g5 k).2 (.inl e)))⟩
  · rintro k (rfl | hk | hk)
    · exact .inl ((g5 _).2 (.inl rfl))
    · rw [hl] at hk; exact .inr (ho.lt k hk).1
    · exact .inl ((g5 k).2 (.inr (.inr hk)))
theorem Stk.setFoil {w w1 : World} {p : Nat} {F : Nat → Prop} {sb fb : List UInt8} {sd fd : Nat} (h : Stk w p F sb fb sd fd) (hb : Below w.heap.size w w1) {a : Option Addr} {m c : Nat} {l : List UInt8}
    (ho : w1.ownsRow w.heap.size 5 1 (.slice a m c) m (l.map byteV)) (hd : fd ≤ m) (hm : m ≤ 16777216) :
    ∃ F', Stk (w1.setCell ⟨p, 2, none⟩ (.slice a m c)) p F' sb l sd fd ∧ Same F w (w1.setCell ⟨p, 2, none⟩ (.slice a m c)) ∧ (∀ k, F' k → F k ∨ w.heap.size ≤ k) := by
  have hlt := h.lt
  obtain ⟨sa, sc, fa, fc, g1, g2, g3, g4, g5, g6, g7, g8, g9⟩ := h.same (S := fun _ => False) (Same.of_below hb) (fun _ e => e.elim)
  have hl : l.length = m := by simpa using ho.1
  have n1 := own_ne ho g1 (by decide)
  have n2 := own_ne g2 g1 (by decide)
  have s1 : Same (fun k => k = p) w1 (w1.setCell ⟨p, 2, none⟩ (.slice a m c)) :=
    Same.of_grown (row := some p) ⟨rfl, rfl, rfl, by simp [World.setCell], fun k _ hk => Below.heap_setCell w1 ⟨p, 2, none⟩ _ k (fun e => hk (by rw [e]))⟩ (fun k e => by cases e; rfl)
  refine ⟨fun k => k = p ∨ Value.ownBlock (.slice sa sb.length sc) = some k ∨ Value.ownBlock (.slice a l.length c) = some k, ⟨sa, sc, a, c, ?_, own_keep g2 s1 (fun b hb e => n2 (by rw [hb, e])), ?_, ?_, fun k => Iff.rfl, g6, by omega, g8, by omega⟩, ?_, ?_⟩
  · rw [heap_setCell_same w1 p 2 _ 115 _ g1, hl]; rfl
  · rw [hl]; exact own_mono (own_keep ho s1 (fun b hb e => n1 (by rw [hb, e]))) (Nat.zero_le _)
  · intro k hk hk'
    rw [hl] at hk'
    have := (ho.lt k hk').1
    have := hlt k ((g5 k).2 (.inr (.inl hk)))
    omega
  · exact (Same.of_below hb).trans ⟨s1.os, s1.tape, s1.output, s1.size, fun k hk hF => s1.block k hk (fun e => hF ((g5 k).2 (.inl e)))⟩
  · rintro k (rfl | hk | hk)
    · exact .inl ((g5 _).2 (.inl rfl))
    · exact .inl ((g5 k).2 (.inr (.inl hk)))
    · rw [hl] at hk; exact .inr (ho.lt k hk).1

/-- One byte of a journal is turned. -/
theorem Stk.flipS {w : World} {p : Nat} {F : Nat → Prop} {sb fb : List UInt8} {sd fd : Nat} (h : Stk w p F sb fb sd fd) (i : Nat) (hi : i < sb.length) (x : UInt8) :
    ∃ g c, w.cell? ⟨p, 0, none⟩ = some (.slice (some ⟨g, 0, none⟩) sb.length c) ∧ w.cell? ⟨p, 1, none⟩ = some (.int .i64 sd) ∧ w.cell? ⟨g, i, none⟩ = some (.int .u8 ((sb[i]?.getD 0).toNat : Int)) ∧ w.frozen? ⟨g, i, none⟩ = false ∧
      Stk (w.setCell ⟨g, i, none⟩ (.int .u8 (x.toNat : Int))) p F (sb.set i x) fb sd fd ∧ Same F w (w.setCell ⟨g, i, none⟩ (.int .u8 (x.toNat : Int))) := by
  obtain ⟨sa, sc, fa, fc, g1, g2, g3, g4, g5, g6, g7, g8, g9⟩ := h
  obtain ⟨b, off, hb, hcells⟩ := (RdB.of_own g2).at (by omega)
  have hoff : off = 0 := by
    rcases g2.2 with ⟨h, _⟩ | ⟨g, cap, cur, h, _⟩
    · rw [hb] at h; simp at h
    · rw [hb] at h; simp at h; exact h.1.2
  subst hb
  subst hoff
  have hc := hcells i hi
  rw [Nat.zero_add] at hc
  have hfz := g2.frozenAt i
  obtain ⟨hst, hgr⟩ := g2.stored i (.int .u8 (x.toNat : Int))
  have hS : Same (fun k => k = b) w (w.setCell ⟨b, i, none⟩ (.int .u8 (x.toNat : Int))) := Same.of_grown hgr (fun k e => by cases e; rfl)
  have n2 := own_ne g2 g1 (by decide)
  have hset : (sb.map byteV).set i (.int .u8 (x.toNat : Int)) = (sb.set i x).map byteV := by rw [List.map_set]; rfl
  rw [hset] at hst
  have hls : (sb.set i x).length = sb.length := List.length_set
  refine ⟨b, sc, by simp [World.cell?, g1], by simp [World.cell?, g1], hc, hfz, ⟨some ⟨b, 0, none⟩, sc, fa, fc, ?_, ?_, ?_, ?_, ?_, ?_, g7, ?_, g9⟩, ⟨hS.os, hS.tape, hS.output, hS.size, fun k hk hF => hS.block k hk (fun e => hF ((g5 k).2 (.inr (.inl (by rw [e]; rfl)))))⟩⟩
  · rw [hls, hS.block p (Array.getElem?_eq_some_iff.1 g1).1 (fun e => n2 (by rw [e]; rfl))]
    exact g1
  · rw [hls]; exact hst
  · exact own_keep g3 hS (fun k hk e => g4 k (by rw [e]; rfl) hk)
  · rw [hls]; exact g4
  · rw [hls]; exact g5
  · rw [hls]; exact g6
  · rw [hls]; exact g8
theorem Stk.flipF {w : World} {p : Nat} {F : Nat → Prop} {sb fb : List UInt8} {sd fd : Nat} (h : Stk w p F sb fb sd fd) (i : Nat) (hi : i < fb.length) (x : UInt8) :
    ∃ g c, w.cell? ⟨p, 2, none⟩ = some (.slice (some ⟨g, 0, none⟩) fb.length c) ∧ w.cell? ⟨p, 3, none⟩ = some (.int .i64 fd) ∧ w.cell? ⟨g, i, none⟩ = some (.int .u8 ((fb[i]?.getD 0).toNat : Int)) ∧ w.frozen? ⟨g, i, none⟩ = false ∧
      Stk (w.setCell ⟨g, i, none⟩ (.int .u8 (x.toNat : Int))) p F sb (fb.set i x) sd fd ∧ Same F w (w.setCell ⟨g, i, none⟩ (.int .u8 (x.toNat : Int))) := by
  obtain ⟨sa, sc, fa, fc, g1, g2, g3, g4, g5, g6, g7, g8, g9⟩ := h
  obtain ⟨b, off, hb, hcells⟩ := (RdB.of_own g3).at (by omega)
  have hoff : off = 0 := by
    rcases g3.2 with ⟨h, _⟩ | ⟨g, cap, cur, h, _⟩
    · rw [hb] at h; simp at h
    · rw [hb] at h; simp at h; exact h.1.2
  subst hb
  subst hoff
  have hc := hcells i hi
  rw [Nat.zero_add] at hc
  have hfz := g3.frozenAt i
  obtain ⟨hst, hgr⟩ := g3.stored i (.int .u8 (x.toNat : Int))
  have hS : Same (fun k => k = b) w (w.setCell ⟨b, i, none⟩ (.int .u8 (x.toNat : Int))) := Same.of_grown hgr (fun k e => by cases e; rfl)
  have n2 := own_ne g3 g1 (by decide)
  have hset : (fb.map byteV).set i (.int .u8 (x.toNat : Int)) = (fb.set i x).map byteV := by rw [List.map_set]; rfl
  rw [hset] at hst
  have hls : (fb.set i x).length = fb.length := List.length_set
  refine ⟨b, fc, by simp [World.cell?, g1], by simp [World.cell?, g1], hc, hfz, ⟨sa, sc, some ⟨b, 0, none⟩, fc, ?_, ?_, ?_, ?_, ?_, g6, ?_, g8, ?_⟩, ⟨hS.os, hS.tape, hS.output, hS.size, fun k hk hF => hS.block k hk (fun e => hF ((g5 k).2 (.inr (.inr (by rw [e]; rfl)))))⟩⟩
  · rw [hls, hS.block p (Array.getElem?_eq_some_iff.1 g1).1 (fun e => n2 (by rw [e]; rfl))]
    exact g1
  · exact own_keep g2 hS (fun k hk e => g4 k hk (by rw [e]; rfl))
  · rw [hls]; exact hst
  · rw [hls]; exact g4
  · rw [hls]; exact g5
  · rw [hls]; exact g7
  · rw [hls]; exact g9
end Go.Proofs.YtpdmlklnbjegpaaGreat
