/- The program's reading, and the closures of Decode. -/
import Derived.Test.YtpjiakgfegnmcaaDec4
import Derived.Defers
import Derived.Recover
import Derived.Laws.Pointers
namespace Go.Proofs.Ytpjiakgfegnmcaa
open Go.RowKit
def tornR : PanicEntry := { v := .iface 151 (.agg #[]), recovered := true }
set_option maxRecDepth 100000 in
theorem catch_torn (p : Nat) (x : Bool) (w : World) (hh : w.heap[p]? = some (.cells #[.bool x] 4 (0, 0))) :
    CallsD Try.prog 87 #[.pointer (some ⟨p, 0, none⟩)] (.panicking [tornP]) w fun e u' w' =>
      e = .returned (.tuple #[]) ∧ u' = .panicking [tornR] ∧ w'.heap[p]? = some (.cells #[.bool false] 4 (0, 0)) ∧ Same (fun k => k = p) w w' := by
  have hc : w.cell? ⟨p, 0, none⟩ = some (.bool x) := cell_of hh 0 _ rfl
  have hz := frozen_of hh 0
  have hc' : ∀ o, (w.alloc o).cell? ⟨p, 0, none⟩ = some (.bool x) := fun o => cell_of (heap_before w o _ _ hh) 0 _ rfl
  have hz' : ∀ o, (w.alloc o).frozen? ⟨p, 0, none⟩ = false := fun o => frozen_of (heap_before w o _ _ hh) 0
  have hta : ∀ w, (Instr.typeAssert (.iface 151 (.agg #[])) 20 151 true).run Try.prog w = .ok (.tuple #[.agg #[], .bool true]) w := fun _ => rfl
  refine callsD_of_wpS Try.func87 rfl fun c₀ cs hu => ?_
  apply wpS_seq
  apply wpS_region
  simp [wpOpsS, go_sem, recoverD, hu, Try.ntmps87, Exit.thenS, tornP]
  refine wpS_of_wp ?_
  change Code.wp _ _ _ { tmps := #[.pointer (some ⟨p, 0, none⟩), .iface 151 (.agg #[]), undef, undef, .iface 151 (.agg #[]), undef, undef, undef, undef, undef, undef, undef, undef, undef, undef], defers := [] } w
  go_wp2_with fail
  refine ⟨rfl, ?_⟩
  simp [results, Try.results87]
  exact ⟨rfl, heap_setCell_same _ p 0 _ _ (.bool false) (heap_before w _ _ _ hh), (Same.of_below ((Below.refl _ _).alloc (Nat.le_refl _) _)).trans (same_at _ p 0 (.bool false))⟩
theorem catch_idle (p : Nat) (w : World) :
    CallsD Try.prog 87 #[.pointer (some ⟨p, 0, none⟩)] .returning w fun e u' w' => e = .returned (.tuple #[]) ∧ u' = .returning ∧ w' = w := by
  refine callsD_of_wpS Try.func87 rfl fun c₀ cs hu => ?_
  apply wpS_seq
  apply wpS_region
  simp [wpOpsS, go_sem, recoverD, hu, Try.ntmps87, Exit.thenS]
  refine wpS_of_wp ?_
  go_wp2_with fail
  cases c₀
  simp_all [bodyPostS, results, Try.results87]
section
attribute [local go_sem] noteA_0
set_option maxHeartbeats 2000000 in
set_option maxRecDepth 100000 in
theorem run_any (rp np : Nat) (l : List UInt8) (a : Option Addr) (n c : Nat) (w : World) (h : RdP w rp l a n c) (hl : l.length ≤ 1000000) (hnp : w.heap[np]? = some (.cells (noteA zeroN none 0) 43 (0, 0))) (hne : ¬ np = rp) :
    Calls Try.prog 55 #[.pointer (some ⟨rp, 0, none⟩), .pointer (some ⟨np, 0, none⟩)] w fun e w' => (∃ (m : NoteV) (t : List UInt8) (sa : Option Addr) (sc : Nat), noteF numP l = some (m, t) ∧ e = .returned (.tuple #[]) ∧ w'.heap[np]? = some (.cells (noteA m sa sc) 43 (0, 0)) ∧ w'.ownsRow w.heap.size 3 1 (.slice sa m.strokes.length sc) m.strokes.length (m.strokes.map intV) ∧ Same (fun k => k = rp ∨ k = np) w w') ∨
      (noteF numP l = none ∧ e = .panicked [tornP] ∧ Same (fun k => k = rp ∨ k = np) w w') := by
  have I43 := Lib.hid (show ∀ (m : NoteV) (a : Option Addr) (c : Nat), (Try.prog.info? 43).map (·.size) = some (noteA m a c).size from fun m a c => by kernel_rfl)
  go_enter Try.func55, Try.ntmps55
  go_wp2_with fail
  refine (note_any rp l a n c w h hl).mono ?_
  rintro e w1 (⟨m, t, sa, sc, a2, n2, c2, h1, rfl, h2, h3, h4⟩ | ⟨h1, rfl, h4⟩)
  · have g := Lib.hid ((h4.block np (Array.getElem?_eq_some_iff.1 hnp).1 hne).trans hnp)
    have H1 := Lib.hid h1; clear h1
    have one1 := noteA_one m sa sc
    go_wp2_with (refine wpList_store_rowN rfl 43 _ _ rfl np (noteA zeroN none 0) (noteA m sa sc) 43 rfl rfl g.out (I43.out _ _ _) rfl one1 ?_)
    have hSR : Same (fun k => k = np) w1 (w1.setRow np (noteA m sa sc)) := ⟨rfl, rfl, rfl, by simp, fun k hk hs => setRow_other w1 np k _ hs⟩
    have hnl := (Array.getElem?_eq_some_iff.1 hnp).1
    have hO := own_same h2 hSR (fun b cur fr hb => .inr (by rw [show b = np from hb]; exact hnl))
    have hg := setRow_heap w1 np _ (noteA m sa sc) _ _ g.out
    have hS := (same_imp h4 (S' := fun k => k = rp ∨ k = np) fun k e => .inl e).trans (same_imp hSR fun k e => .inr e)
    have HO := hO
    go_end0
    first
      | exact .inl ⟨m, t, sa, sc, H1.out, rfl, hg, HO, hS⟩
      | exact .inl ⟨m, ⟨t, H1.out⟩, rfl, sa, sc, hg, HO, hS⟩
  · have H1 := Lib.hid h1; clear h1
    go_wp2_with fail
    exact ⟨rfl, .inr ⟨H1.out, rfl, same_imp h4 fun k e => .inl e⟩⟩
set_option maxHeartbeats 2000000 in
set_option maxRecDepth 100000 in
theorem reading_any (np : Nat) (l : List UInt8) (a : Option Addr) (n c : Nat) (w : World) (h : RdB w a n c l) (hl : l.length ≤ 1000000) (hnp : w.heap[np]? = some (.cells (noteA zeroN none 0) 43 (0, 0))) :
    Calls Try.prog 54 #[.slice a n c, .func (.func 55) #[] #[.pointer (some ⟨np, 0, none⟩)]] w fun e w' => (∃ (m : NoteV) (t : List UInt8) (sa : Option Addr) (sc : Nat), noteF numP l = some (m, t) ∧ e = .returned (.bool true) ∧ w'.heap[np]? = some (.cells (noteA m sa sc) 43 (0, 0)) ∧ w'.ownsRow w.heap.size 3 1 (.slice sa m.strokes.length sc) m.strokes.length (m.strokes.map intV) ∧ Same (fun k => k = np) w w') ∨
      (noteF numP l = none ∧ e = .returned (.bool false) ∧ Same (fun k => k = np) w w') := by
  have hmf : ∀ (fn : Fn) (first cap : Array Value) (w : World), (Instr.makeFunc fn first cap).run Try.prog w = .ok (.func fn first cap) w := fun _ _ _ _ => rfl
  have hnl := (Array.getElem?_eq_some_iff.1 hnp).1
  go_enter_defers Try.func54, Try.ntmps54
  go_wp2_with fail
  obtain ⟨p, hp⟩ : ∃ p, Hid (w.heap.size = p) := ⟨_, Lib.hid rfl⟩
  obtain ⟨rp, hrp⟩ : ∃ rp, Hid (w.heap.size + 1 = rp) := ⟨_, Lib.hid rfl⟩
  have b2 : Below w.heap.size w ((w.alloc (.cells #[.bool false] 4)).alloc (.cells #[.slice a n c] 154)) := ((Below.refl _ _).alloc (Nat.le_refl _) _).alloc (by simp) _
  have g1 : ((w.alloc (.cells #[.bool false] 4)).alloc (.cells #[.slice a n c] 154)).heap[p]? = some (.cells #[.bool false] 4 (0, 0)) := by rw [← hp.out]; exact heap_before _ _ _ _ (heap_last _ _)
  have g2 : ((w.alloc (.cells #[.bool false] 4)).alloc (.cells #[.slice a n c] 154)).heap[rp]? = some (.cells #[.slice a n c] 154 (0, 0)) := by rw [← hrp.out]; exact heap_at _ _ _ (by simp)
  rw [hrp.out, hp.out]
  generalize (w.alloc (.cells #[.bool false] 4)).alloc (.cells #[.slice a n c] 154) = w2 at *
  have hne : ¬ np = rp ∧ ¬ p = rp ∧ ¬ p = np := by have h1 := hp.out; have h2 := hrp.out; omega
  have hnp2 := (b2.block np hnl).trans hnp
  have hpl := (Array.getElem?_eq_some_iff.1 g1).1
  refine (run_any rp np l a n c w2 ⟨g2, RdB.below h b2⟩ hl hnp2 hne.1).mono ?_
  rintro e w3 (⟨m, t, sa, sc, h1, rfl, h2, h3, h4⟩ | ⟨h1, rfl, h4⟩)
  · have k1 := (h4.block p hpl (by have h1 := hne.2.1; have h2 := hne.2.2; omega)).trans g1
    have c1 : w3.cell? ⟨p, 0, none⟩ = some (.bool false) := cell_of k1 0 _ rfl
    have f1 := frozen_of k1 0
    have hS := same_at w3 p 0 (.bool true)
    have k2 := heap_setCell_same w3 p 0 _ _ (.bool true) k1
    have c2 : (w3.setCell ⟨p, 0, none⟩ (.bool true)).cell? ⟨p, 0, none⟩ = some (.bool true) := cell_of k2 0 _ rfl
    have hn3 := (hS.block np (Array.getElem?_eq_some_iff.1 h2).1 (fun e => hne.2.2 e.symm)).trans h2
    have H1 := Lib.hid h1; clear h1
    have hFin : Same (fun k => k = np) w (w3.setCell ⟨p, 0, none⟩ (.bool true)) := by
      have hh := ((same_imp (Same.of_below (S := fun _ => False) b2) (S' := fun k => k = rp ∨ k = np ∨ k = p) (fun k e => e.elim)).trans (same_imp h4 (S' := fun k => k = rp ∨ k = np ∨ k = p) (fun k e => e.elim .inl (fun e => .inr (.inl e))))).trans (same_imp hS (S' := fun k => k = rp ∨ k = np ∨ k = p) (fun k e => .inr (.inr e)))
      exact ⟨hh.os, hh.tape, hh.output, hh.size, fun k hk hs => hh.block k hk (by have h1 := hp.out; have h2 := hrp.out; have h3 : ¬ k = np := hs; omega)⟩
    have HF := Lib.hid hFin; clear hFin
    have HR := Lib.hid (own_mono (own_same h3 hS (fun b cur fr hb => .inr (by rw [show b = p from hb]; exact hpl))) b2.size); clear h3
    go_wp2_with fail
    refine leaves_cons (f := 87) (args := #[.pointer (some ⟨p, 0, none⟩)]) (by simp) (by simp [go_sem]) ?_
    refine (catch_idle p _).mono ?_
    rintro e u' w'' ⟨rfl, rfl, rfl⟩
    simp [Leaves, settle, results, Try.results54, go_sem]
    exact ⟨.bool true, by rw [c2], .inl ⟨m, ⟨t, H1.out⟩, rfl, sa, sc, hn3, HR.out, HF.out⟩⟩
  · have k1 := (h4.block p hpl (by have h1 := hne.2.1; have h2 := hne.2.2; omega)).trans g1
    have H1 := Lib.hid h1; clear h1
    go_wp2_with fail
    refine leaves_cons (f := 87) (args := #[.pointer (some ⟨p, 0, none⟩)]) (by simp) (by simp [go_sem]) ?_
    refine (catch_torn p false _ k1).mono ?_
    rintro e u' w'' ⟨rfl, rfl, g3, h5⟩
    have c3 : w''.cell? ⟨p, 0, none⟩ = some (.bool false) := cell_of g3 0 _ rfl
    simp [Leaves, settle, results, Try.results54, go_sem, tornR]
    refine ⟨.bool false, by rw [c3], .inr ⟨H1.out, rfl, ?_⟩⟩
    have hh := ((same_imp (Same.of_below (S := fun _ => False) b2) (S' := fun k => k = rp ∨ k = np ∨ k = p) (fun k e => e.elim)).trans (same_imp h4 (S' := fun k => k = rp ∨ k = np ∨ k = p) (fun k e => e.elim .inl (fun e => .inr (.inl e))))).trans (same_imp h5 (S' := fun k => k = rp ∨ k = np ∨ k = p) (fun k e => .inr (.inr e)))
    exact ⟨hh.os, hh.tape, hh.output, hh.size, fun k hk hs => hh.block k hk (by have h1 := hp.out; have h2 := hrp.out; have h3 : ¬ k = np := hs; omega)⟩
end
end Go.Proofs.Ytpjiakgfegnmcaa
